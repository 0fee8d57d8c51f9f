/- A share of a part, rounded to the nearest, by the program and by the plain sums. No conditions but size. -/
import Derived.Test.YthknecaigoilmaaDeA
namespace Go.Proofs.Ythknecaigoilmaa.Pure
set_option linter.unusedVariables false
set_option linter.unusedSimpArgs false
open Go Go.Ev Go.Lm Go.Pu Go.Dg
/-- A quotient to the nearest, a half to the even one. -/
def hev (n d : Nat) : Nat := if 2 * (n % d) > d then n / d + 1 else if 2 * (n % d) = d then n / d + n / d % 2 else n / d
theorem hev_le {n d m : Nat} (hd : 0 < d) (h : n ≤ m * d) : hev n d ≤ m := by
  have h1 := Nat.div_add_mod n d
  have h2 := Nat.mod_lt n hd
  have h3 : n / d ≤ m := Nat.div_le_of_le_mul (by rw [Nat.mul_comm]; exact h)
  by_cases h4 : n / d = m
  · have h5 : n % d = 0 := by rw [h4, Nat.mul_comm] at h1; omega
    unfold hev
    rw [h5, if_neg (by omega), if_neg (by omega)]
    exact h3
  · unfold hev
    split
    · omega
    · split <;> omega
theorem hev_scale (n : Nat) {d c : Nat} (hc : 0 < c) (hd : 0 < d) : hev (n * c) (d * c) = hev n d := by
  unfold hev
  rw [Nat.mul_mod_mul_right, Nat.mul_div_mul_right _ _ hc, ← Nat.mul_assoc]
  have e1 : (2 * (n % d) * c > d * c) = (2 * (n % d) > d) := propext ⟨fun h => Nat.lt_of_mul_lt_mul_right h, fun h => Nat.mul_lt_mul_of_pos_right h hc⟩
  have e2 : (2 * (n % d) * c = d * c) = (2 * (n % d) = d) := propext ⟨fun h => Nat.eq_of_mul_eq_mul_right hc h, fun h => by rw [h]⟩
  simp only [e1, e2]
theorem hev_mul (n : Nat) {d : Nat} (hd : 0 < d) : hev (n * d) d = n := by
  unfold hev
  rw [Nat.mul_mod_left, if_neg (by omega), if_neg (by omega), Nat.mul_div_cancel _ hd]
theorem qright2 {m n s t : Nat} (hm : m < 1000000000) (hn : n < 1000000000) (hs : s ≤ 9) (ht : t ≤ 9) {p : Nat} (hp : p ≤ 9) : quant_right.f 700 (p : Int) 4 [DN m s, DN n t] = some true := by
  unfold quant_right.f
  have r1 := Right_DN (n := m) (by omega) hs
  have r2 := Right_DN (n := n) (by omega) ht
  have s0 : quant_right.l2.once 700 ((p : Int), 4, [DN m s, DN n t], 2, 0) = some (.inl ((p : Int), 4, [DN m s, DN n t], 2, 1)) := by
    unfold quant_right.l2.once
    dsimp only
    rw [ct (by omega), inb_t (by omega) (by simp), cond_true]
    have e : dec_Right.f 700 ⟨([DN m s, DN n t].getD (Int.toNat 0) Sapi_Dec.zero).f_Neg, (([DN m s, DN n t].getD (Int.toNat 0) Sapi_Dec.zero).f_C.1, ([DN m s, DN n t].getD (Int.toNat 0) Sapi_Dec.zero).f_C.2), ([DN m s, DN n t].getD (Int.toNat 0) Sapi_Dec.zero).f_Scale⟩ = some true := r1
    rw [e]; rfl
  have s1 : quant_right.l2.once 700 ((p : Int), 4, [DN m s, DN n t], 2, 1) = some (.inl ((p : Int), 4, [DN m s, DN n t], 2, 2)) := by
    unfold quant_right.l2.once
    dsimp only
    rw [ct (by omega), inb_t (by omega) (by simp), cond_true]
    have e : dec_Right.f 700 ⟨([DN m s, DN n t].getD (Int.toNat 1) Sapi_Dec.zero).f_Neg, (([DN m s, DN n t].getD (Int.toNat 1) Sapi_Dec.zero).f_C.1, ([DN m s, DN n t].getD (Int.toNat 1) Sapi_Dec.zero).f_C.2), ([DN m s, DN n t].getD (Int.toNat 1) Sapi_Dec.zero).f_Scale⟩ = some true := r2
    rw [e]; rfl
  have s2 : quant_right.l2.once 700 ((p : Int), 4, [DN m s, DN n t], 2, 2) = some (.inr (.inl ((p : Int), 4))) := by unfold quant_right.l2.once; rfl
  have e : iter (quant_right.l2.once 700) (697 + 1 + 1 + 1) ((p : Int), 4, [DN m s, DN n t], 2, 0) = some (.inl ((p : Int), 4)) := by rw [iter_step s0, iter_step s1, iter_stop s2]
  have e' : iter (quant_right.l2.once 700) 700 ((p : Int), 4, [DN m s, DN n t], (([DN m s, DN n t].length : Nat) : Int), 0) = some (.inl ((p : Int), 4)) := e
  rw [e', Option.bind_some]
  dsimp only
  rw [ct (by omega), ct (by omega)]
  rfl
theorem qmade {n s : Nat} (hn : n < 18446744073709551616) (hs : s ≤ 9) : quant_made.f 700 false ((n : Int), 0, 0, 0) (s : Int) = some (DN n s, 0) := by
  unfold quant_made.f
  have r := Right_DN hn hs
  unfold DN at *
  dsimp only
  rw [DShort hn, Option.bind_some, cond_false, Option.bind_some]
  dsimp only
  rw [Bool.not_true, cond_false, r, Option.bind_some, Option.bind_some]
  rfl
theorem qfarther {q r d : Nat} (hq : q < 18446744073709551616) (hr : r < d) (hd : d < 9223372036854775808) : quant_farther.f 700 false (decide (bits .and .u64 (q : Int) 1 > 0)) ((r : Int), 0) ((d : Int), 0) 4 = some (decide (2 * r > d ∨ (2 * r = d ∧ q % 2 = 1))) := by
  unfold quant_farther.f
  dsimp only
  rw [and_one hq]
  by_cases h0 : r = 0
  · subst h0
    rw [decide_eq_false (show ¬ (2 * 0 > d ∨ (2 * 0 = d ∧ q % 2 = 1)) by omega)]; rfl
  · rw [show ((r : Int) == 0) = false by simp [h0], Bool.false_and, cond_false]
    obtain ⟨z, b, z1, z2, z3, z4, z5⟩ := Sub_eq 700 (W2n (n := d) (by omega)) (W2n (n := r) (by omega))
    rw [N2n, N2n] at z3 z5
    obtain rfl : b = true := z5.2 (by omega)
    have hz := to2 z2 (n := d - r) (by rw [z3 rfl]; omega) (by omega)
    subst hz
    have hm : quant_middle.f 700 ((r : Int), 0) ((d : Int), 0) = some (if r < d - r then -1 else if r = d - r then 0 else 1) := by
      unfold quant_middle.f
      dsimp only
      rw [z1, Option.bind_some]
      dsimp only
      rw [Cmp_eq 697 (W2n (n := r) (by omega)) (W2n (n := d - r) (by omega)), Option.bind_some, cmp_cast (N2n r) (N2n (d - r))]
    rw [show ((4 : Int) == 1) = false from rfl, show ((4 : Int) == 2) = false from rfl, show ((4 : Int) == 3) = false from rfl, show ((4 : Int) == 4) = true from rfl, cond_false, cond_false, cond_false, cond_true, hm, Option.bind_some]
    by_cases h1 : r < d - r
    · rw [if_pos h1, decide_eq_false (show ¬ (2 * r > d ∨ (2 * r = d ∧ q % 2 = 1)) by omega)]; rfl
    · rw [if_neg h1]
      by_cases h2 : r = d - r
      · rw [if_pos h2]
        by_cases h3 : q % 2 = 1
        · rw [decide_eq_true (show 2 * r > d ∨ (2 * r = d ∧ q % 2 = 1) by omega), h3]; rfl
        · rw [decide_eq_false (show ¬ (2 * r > d ∨ (2 * r = d ∧ q % 2 = 1)) by omega), show q % 2 = 0 by omega]; rfl
      · rw [if_neg h2, decide_eq_true (show 2 * r > d ∨ (2 * r = d ∧ q % 2 = 1) by omega)]; rfl
theorem hev_or (n d : Nat) : hev n d = if (2 * (n % d) > d ∨ (2 * (n % d) = d ∧ n / d % 2 = 1)) then n / d + 1 else n / d := by
  unfold hev
  split
  · rw [if_pos (.inl (by assumption))]
  · split
    · by_cases h : n / d % 2 = 1
      · rw [if_pos (.inr ⟨by assumption, h⟩), h]
      · rw [if_neg (by omega)]; omega
    · rw [if_neg (by omega)]
theorem qrounded {n d s : Nat} (hn : n < 1000000000000000000) (hd : 0 < d) (hd' : d < 9223372036854775808) (hs : s ≤ 9) : quant_rounded.f 700 false ((n : Int), 0, 0, 0) ((d : Int), 0) (s : Int) 4 = some (DN (hev n d) s, 0) := by
  unfold quant_rounded.f
  obtain ⟨q, r, q1, q2, q3, q4, q5⟩ := Div_eq (k := 700) (by decide) (W4_wide (W2n (n := n) (by omega))) (W2n (n := d) (by omega)) (by rw [N2n]; omega)
  have hN : N4 ((n : Int), 0, 0, 0) = (n : Int) := (N4_wide ((n : Int), 0)).trans (N2n n)
  have hle := Nat.div_le_self n d
  have hlt := Nat.mod_lt n hd
  have eq : q = (((n / d : Nat) : Int), 0, 0, 0) := to4 q2 (by rw [q4]; show N4 ((n : Int), 0, 0, 0) / _ = _; rw [hN, N2n, Int.natCast_ediv]) (by omega)
  have er : r = (((n % d : Nat) : Int), 0) := to2 q3 (by rw [q5]; show N4 ((n : Int), 0, 0, 0) % _ = _; rw [hN, N2n, Int.natCast_emod]) (by omega)
  subst eq; subst er
  have q1' : limb_Div.f 700 ((n : Int), 0, 0, 0) ((d : Int), 0) = _ := q1
  rw [q1', Option.bind_some]
  dsimp only
  rw [DShort (by omega), Option.bind_some]
  dsimp only
  rw [Bool.not_true, cond_false, qfarther (by omega) hlt hd', Option.bind_some, hev_or]
  by_cases h : 2 * (n % d) > d ∨ (2 * (n % d) = d ∧ n / d % 2 = 1)
  · rw [decide_eq_true h, if_pos h, cond_true, Of_eq, Option.bind_some]
    obtain ⟨z, b, z1, z2, z3, z4, z5⟩ := Add_eq 700 (W2n (n := n / d) (by omega)) (W2n (n := 1) (by decide))
    rw [N2n, N2n] at z3 z5
    obtain rfl : b = true := z5.2 (by omega)
    have hz := to2 z2 (n := n / d + 1) (by rw [z3 rfl]; omega) (by omega)
    subst hz
    have z1' : limb_Add.f 700 (((n / d : Nat) : Int), 0) (1, 0) = _ := z1
    dsimp only
    rw [z1', Option.bind_some]
    dsimp only
    rw [Bool.not_true, cond_false, Option.bind_some]
    dsimp only
    rw [Wide_eq, Option.bind_some]
    dsimp only
    rw [qmade (by omega) hs, Option.bind_some]
  · rw [decide_eq_false h, if_neg h, cond_false, Option.bind_some]
    dsimp only
    rw [Wide_eq, Option.bind_some]
    dsimp only
    rw [qmade (by omega) hs, Option.bind_some]
/-- A part's share: the program's. -/
theorem QTimes {p s : Nat} (hp : p ≤ 1000000) (hs : s ≤ 10000) : quant_Times.f 700 (DN p 6) (DN s 4) 6 4 = some (DN (hev (p * s) 10000) 6, 0) := by
  unfold quant_Times.f
  have hps : p * s ≤ 10000000000 := Nat.mul_le_mul hp hs
  have r := qright2 (m := p) (n := s) (s := 6) (t := 4) (by omega) (by omega) (by decide) (by decide) (p := 6) (by decide)
  have m := DMul (m := p) (n := s) (by omega) (by omega) (by omega)
  have t : quant_ten.f 700 4 = some ((10000 : Int), 0) := by
    unfold quant_ten.f
    have t := DTen (i := 4) (by decide)
    have t' : limb_Ten.f 700 4 = _ := t
    rw [t']; rfl
  have o := qrounded (n := p * s) (d := 10000) (s := 6) (by omega) (by decide) (by decide) (by decide)
  have r' : quant_right.f 700 6 4 [(⟨false, ((p : Int), 0), 6⟩ : Sapi_Dec), ⟨false, ((s : Int), 0), 4⟩] = some true := r
  have o' : quant_rounded.f 700 false (((p * s : Nat) : Int), 0, 0, 0) (10000, 0) 6 4 = _ := o
  unfold DN
  dsimp only
  rw [show ((6 : Nat) : Int) = 6 from rfl, show ((4 : Nat) : Int) = 4 from rfl, r', Option.bind_some, Bool.not_true, cond_false, m, Option.bind_some, wrapi (n := 6 - 6) (by decide), show (6 : Int) - 6 = 0 from rfl, wrapi (n := 0 - 4) (by decide), show (0 : Int) - 4 = -4 from rfl, ct (by decide), wrapi (n := 0 - (-4)) (by decide), show (0 : Int) - (-4) = 4 from rfl, t, Option.bind_some, beq_self_eq_true, Bool.not_true]
  dsimp only
  rw [o', Option.bind_some]
  rfl
theorem RightDec_DN {n s : Nat} (hn : n < 18446744073709551616) (hs : s ≤ 9) : pyxref1_RightDec.f 700 (DN n s) = some true := by
  unfold pyxref1_RightDec.f DN
  dsimp only
  have := dig_len (n := n) (m := 30) (by omega)
  rw [Nat2_eq (by decide) (W2n hn) (N2n n), Option.bind_some, ct (by omega), ct (by omega), ct (by omega), cond_false]
theorem Make_DN {n s : Nat} (hn : n < 18446744073709551616) (hs : s ≤ 9) : pyxref1_Make.f 700 false (dig n) (s : Int) = some (DN n s, 0) := by
  have hl := dig_len (n := n) (m := 30) (by omega)
  obtain ⟨z, b, z1, z2, z3, z4, z5⟩ := Words2_eq (k := 700) (by decide) (n := n) (by omega)
  obtain rfl : b = true := z3.2 (by omega)
  have := to2 z2 (z4 rfl) (by omega)
  subst this
  unfold pyxref1_Make.f
  rw [cf (by omega), cf (by omega), Option.bind_some]
  dsimp only
  rw [decide_eq_false (by omega), cond_false, z1, Option.bind_some]
  rfl
theorem Rounded_eq {a b : Nat} (ha : a < 10 ^ 90) (hb : 0 < b) (hb' : b < 10 ^ 90) : pyxref1_Rounded.f 700 false (dig a) (dig b) 4 = some (dig (hev a b)) := by
  unfold pyxref1_Rounded.f
  have hle := Nat.div_le_self a b
  have hlt := Nat.mod_lt a hb
  rw [DivNat_eq (by decide) (by omega) hb (by omega), Option.bind_some]
  dsimp only
  rw [AddNat_eq (by decide) (by omega) (by omega), Option.bind_some, CmpNat_eq (by decide) (by omega) (by omega), Option.bind_some, ← Nat.two_mul]
  rw [show ((4 : Int) == 1) = false from rfl, show ((4 : Int) == 2) = false from rfl, show ((4 : Int) == 3) = false from rfl, show ((4 : Int) == 4) = true from rfl, cond_false, cond_false, cond_false, cond_true]
  have hadd : pyxref1_AddNat.f 700 (dig (a / b)) [1] = some (dig (a / b + 1)) := by rw [← dig_1]; exact AddNat_eq (by decide) (by omega) (by omega)
  unfold hev
  by_cases h1 : 2 * (a % b) < b
  · rw [if_pos h1, if_neg (by omega), if_neg (by omega)]; rfl
  · rw [if_neg h1]
    by_cases h2 : 2 * (a % b) = b
    · rw [if_pos h2, if_neg (by omega), if_pos h2]
      have hd : pyxref1_digit.f 700 (dig (a / b)) 0 = some ((a / b % 10 : Nat) : Int) := by
        have := digit_eq 700 (dig (a / b)) 0
        refine Eq.trans (this : pyxref1_digit.f 700 (dig (a / b)) 0 = _) (congrArg some ?_)
        by_cases h0 : a / b = 0
        · rw [h0, dig_0]; rfl
        · rw [dig_pos h0]; rfl
      rw [show decide ((0 : Int) > 0) = false from rfl, show ((0 : Int) == 0) = true from rfl, cond_false, cond_true, hd, Option.bind_some, Option.bind_some]
      dsimp only
      rw [show Int.tmod ((a / b % 10 : Nat) : Int) 2 = ((a / b % 10 % 2 : Nat) : Int) from rfl]
      by_cases h3 : a / b % 2 = 1
      · rw [show a / b % 10 % 2 = 1 by omega, h3, hadd]; rfl
      · rw [show a / b % 10 % 2 = 0 by omega, show a / b % 2 = 0 by omega]; rfl
    · rw [if_neg h2, if_pos (by omega)]
      rw [show decide ((1 : Int) > 0) = true from rfl, cond_true, Option.bind_some]
      dsimp only
      rw [cond_true, hadd]
      rfl
/-- A part's share: the plain sums'. -/
theorem RTimes {p s : Nat} (hp : p ≤ 1000000) (hs : s ≤ 10000) : pyxref1_Times.f 700 (DN p 6) (DN s 4) 6 4 = some (DN (hev (p * s) 10000) 6, 0) := by
  unfold pyxref1_Times.f
  have hps : p * s ≤ 10000000000 := Nat.mul_le_mul hp hs
  have r1 := RightDec_DN (n := p) (s := 6) (by omega) (by decide)
  have r2 := RightDec_DN (n := s) (s := 4) (by omega) (by decide)
  have hh : hev (p * s) 10000 ≤ 1000000 := hev_le (by decide) (by omega)
  have mk := Make_DN (n := hev (p * s) 10000) (s := 6) (by omega) (by decide)
  have t6 : pyxref1_TenNat.f 700 6 = _ := TenNat_eq (k := 700) (i := 6) (by decide)
  have t10 : pyxref1_TenNat.f 700 10 = _ := TenNat_eq (k := 700) (i := 10) (by decide)
  have ro := Rounded_eq (a := p * s * 10 ^ 6) (b := 10 ^ 10) (by omega) (by decide) (by decide)
  rw [show (10 : Nat) ^ 10 = 10000 * 10 ^ 6 by decide, hev_scale _ (by decide) (by decide)] at ro
  unfold DN at *
  dsimp only
  rw [r1, Option.bind_some, Bool.not_true, cond_false, r2, Option.bind_some, Bool.not_true, cond_false, show pyxref1_goodMode.f 700 6 4 = some true from rfl, Option.bind_some, Option.bind_some]
  dsimp only
  rw [Bool.not_true, cond_false, Nat2_eq (by decide) (W2n (by omega)) (N2n p), Option.bind_some, Nat2_eq (by decide) (W2n (by omega)) (N2n s), Option.bind_some, MulNat_eq (by decide) (by omega) (by omega), Option.bind_some, t6, Option.bind_some, MulNat_eq (by decide) (by omega) (by omega), Option.bind_some, show IntKind.wrap .i64 (((6 : Nat) : Int) + ((4 : Nat) : Int)) = 10 by decide, t10, Option.bind_some, beq_self_eq_true, Bool.not_true, ro, Option.bind_some]
  have mk' : pyxref1_Make.f 700 false (dig (hev (p * s) 10000)) 6 = _ := mk
  rw [mk', Option.bind_some]
end Go.Proofs.Ythknecaigoilmaa.Pure
