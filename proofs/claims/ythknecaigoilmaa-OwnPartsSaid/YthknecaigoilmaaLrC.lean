/- What the plain sums on lists of digits compute: words, shifts. No conditions but size. -/
import Derived.Test.YthknecaigoilmaaLrB
import Derived.Test.YthknecaigoilmaaPureLimbShifts
namespace Go.Proofs.Ythknecaigoilmaa.Pure
set_option linter.unusedVariables false
set_option linter.unusedSimpArgs false
open Go Go.Ev Go.Lm Go.Pu Go.Dg
theorem Words2_eq {k : Nat} (hk : 602 < k) {n : Nat} (hn : n < 10 ^ 200) : ∃ z b, pyxref1_Words2.f k (dig n) = some (z, b) ∧ W2 z ∧ (b = true ↔ n < 340282366920938463463374607431768211456) ∧ (b = true → N2 z = (n : Int)) ∧ (b = false → z = (0, 0)) := by
  unfold pyxref1_Words2.f
  rw [radix_eq (by omega), Option.bind_some, DivNat_eq hk hn (by omega) (by omega), Option.bind_some, Option.bind_some]
  dsimp only
  rw [CmpNat_eq (by omega) (by omega) (by omega), Option.bind_some]
  by_cases h : n / 18446744073709551616 < 18446744073709551616
  · rw [if_pos h, show decide ((-1 : Int) ≥ 0) = false from rfl, cond_false, short_eq hk (by omega), Option.bind_some, short_eq hk h, Option.bind_some]
    refine ⟨_, _, rfl, ⟨⟨by dsimp only; omega, by dsimp only; omega⟩, by dsimp only; omega, by dsimp only; omega⟩, ⟨(fun _ => by omega), fun _ => rfl⟩, fun _ => ?_, (fun h => by cases h)⟩
    unfold N2
    dsimp only
    omega
  · rw [if_neg h]
    rw [show decide ((if n / 18446744073709551616 = 18446744073709551616 then (0 : Int) else 1) ≥ 0) = true by split <;> rfl, cond_true]
    exact ⟨_, _, rfl, W20, ⟨(fun h => by cases h), (fun h' => by omega)⟩, (fun h => by cases h), fun _ => rfl⟩
theorem Words4_step {k : Nat} (hk : 602 < k) {n : Nat} (hn : n < 10 ^ 200) {i : Nat} (hi : i < 4) (L : List Int) {out : List Int} : pyxref1_Words4.l3.once k (dig n, (i : Int), L, out) = some (.inl (dig (n / 18446744073709551616), ((i + 1 : Nat) : Int), L, out.set i ((n % 18446744073709551616 : Nat) : Int))) := by
  unfold pyxref1_Words4.l3.once
  dsimp only
  rw [ct (by omega), radix_eq (by omega), Option.bind_some, DivNat_eq hk hn (by omega) (by omega), Option.bind_some]
  dsimp only
  rw [short_eq hk (by omega), Option.bind_some, inb_t (by omega) (by omega), cond_true, Int.toNat_natCast, blt_t hi, cond_true, wrapi (by omega)]
  rfl
theorem Words4_eq {k : Nat} (hk : 602 < k) {n : Nat} (hn : n < 10 ^ 200) : ∃ z, pyxref1_Words4.f k (dig n) = some z ∧ W4 z ∧ N4 z = ((n % 115792089237316195423570985008687907853269984665640564039457584007913129639936 : Nat) : Int) := by
  obtain ⟨k', rfl⟩ : ∃ n, k = n + 5 := ⟨k - 5, by omega⟩
  unfold pyxref1_Words4.f
  have s0 : pyxref1_Words4.l3.once (k' + 5) (dig n, 0, [0, 0, 0, 0], [0, 0, 0, 0]) = _ := Words4_step hk hn (i := 0) (by decide) _
  have s1 := fun out => Words4_step (k := k' + 5) hk (n := n / 18446744073709551616) (by omega) (i := 1) (by decide) [0, 0, 0, 0] (out := out)
  have s2 := fun out => Words4_step (k := k' + 5) hk (n := n / 18446744073709551616 / 18446744073709551616) (by omega) (i := 2) (by decide) [0, 0, 0, 0] (out := out)
  have s3 := fun out => Words4_step (k := k' + 5) hk (n := n / 18446744073709551616 / 18446744073709551616 / 18446744073709551616) (by omega) (i := 3) (by decide) [0, 0, 0, 0] (out := out)
  have s4 : ∀ (m : List Int) out, pyxref1_Words4.l3.once (k' + 5) (m, ((4 : Nat) : Int), [0, 0, 0, 0], out) = some (.inr ([0, 0, 0, 0], out)) := fun m out => by unfold pyxref1_Words4.l3.once; rfl
  rw [iter_step s0, iter_step (s1 _), iter_step (s2 _), iter_step (s3 _), iter_stop (s4 _ _), Option.bind_some]
  refine ⟨(((n % 18446744073709551616 : Nat) : Int), ((n / 18446744073709551616 % 18446744073709551616 : Nat) : Int), ((n / 18446744073709551616 / 18446744073709551616 % 18446744073709551616 : Nat) : Int), ((n / 18446744073709551616 / 18446744073709551616 / 18446744073709551616 % 18446744073709551616 : Nat) : Int)), rfl, ⟨⟨by dsimp only; omega, by dsimp only; omega⟩, ⟨by dsimp only; omega, by dsimp only; omega⟩, ⟨by dsimp only; omega, by dsimp only; omega⟩, by dsimp only; omega, by dsimp only; omega⟩, ?_⟩
  unfold N4
  dsimp only
  omega
theorem Nat4_step {k : Nat} (hk : 602 < k) {n : Nat} (hn : n < 10 ^ 150) {l : List Int} {i : Nat} (hi : i < 4) {d : Nat} (hd : l.getD i 0 = (d : Int)) (hd' : d < 18446744073709551616) : pyxref1_Nat4.l3.once k (dig n, (i : Int), l) = some (.inl (dig (n * 18446744073709551616 + d), (i : Int) - 1, l)) := by
  unfold pyxref1_Nat4.l3.once
  dsimp only
  rw [ct (by omega), radix_eq (by omega), Option.bind_some, MulNat_eq hk (by omega) (by omega), Option.bind_some, inb_t (by omega) (by omega), cond_true, Int.toNat_natCast, blt_t hi, cond_true, hd, Word_eq (by omega) hd', Option.bind_some, AddNat_eq (by omega) (by omega) (by omega), Option.bind_some, wrapi (by omega)]
theorem Nat4_eq {k : Nat} (hk : 602 < k) {x : Int × Int × Int × Int} (hx : W4 x) {n : Nat} (hn : N4 x = (n : Int)) : pyxref1_Nat4.f k x = some (dig n) := by
  obtain ⟨k', rfl⟩ : ∃ n, k = n + 5 := ⟨k - 5, by omega⟩
  obtain ⟨a0, a1, a2, a3, rfl, ha, hN⟩ := nat4 hx
  have q0 := ha a0 (by simp)
  have q1 := ha a1 (by simp)
  have q2 := ha a2 (by simp)
  have q3 := ha a3 (by simp)
  rw [hN] at hn
  simp only [VB] at hn
  unfold pyxref1_Nat4.f
  dsimp only
  have s3 : pyxref1_Nat4.l3.once (k' + 5) (dig 0, 3, [(a0 : Int), a1, a2, a3]) = _ := Nat4_step hk (n := 0) (by omega) (i := 3) (by decide) (d := a3) rfl q3
  have s2 : pyxref1_Nat4.l3.once (k' + 5) (_, ((3 : Nat) : Int) - 1, [(a0 : Int), a1, a2, a3]) = _ := Nat4_step hk (n := 0 * 18446744073709551616 + a3) (by omega) (i := 2) (by decide) (d := a2) rfl q2
  have s1 : pyxref1_Nat4.l3.once (k' + 5) (_, ((2 : Nat) : Int) - 1, [(a0 : Int), a1, a2, a3]) = _ := Nat4_step hk (n := (0 * 18446744073709551616 + a3) * 18446744073709551616 + a2) (by omega) (i := 1) (by decide) (d := a1) rfl q1
  have s0 : pyxref1_Nat4.l3.once (k' + 5) (_, ((1 : Nat) : Int) - 1, [(a0 : Int), a1, a2, a3]) = _ := Nat4_step hk (n := ((0 * 18446744073709551616 + a3) * 18446744073709551616 + a2) * 18446744073709551616 + a1) (by omega) (i := 0) (by decide) (d := a0) rfl q0
  have s : ∀ m : List Int, pyxref1_Nat4.l3.once (k' + 5) (m, ((0 : Nat) : Int) - 1, [(a0 : Int), a1, a2, a3]) = some (.inr m) := fun m => by unfold pyxref1_Nat4.l3.once; rfl
  rw [dig_0] at s3
  rw [iter_step s3, iter_step s2, iter_step s1, iter_step s0, iter_stop (s _), Option.bind_some]
  exact congrArg (fun z => some (dig z)) (by omega)
theorem pow2_le {j : Nat} (h : j ≤ 256) : 2 ^ j ≤ 115792089237316195423570985008687907853269984665640564039457584007913129639936 := by
  have := Nat.pow_le_pow_right (show 0 < 2 by decide) h
  rw [show (2 : Nat) ^ 256 = 115792089237316195423570985008687907853269984665640564039457584007913129639936 by decide +kernel] at this
  exact this
theorem Two_eq {k : Nat} (hk : 602 < k) {n : Nat} (hn : n ≤ 256) : pyxref1_Two.f k (n : Int) = some (dig (2 ^ n)) := by
  unfold pyxref1_Two.f
  obtain ⟨y, e1, e2⟩ := iter_rule (once := pyxref1_Two.l2.once k) (fun x => ∃ j : Nat, x = (((n - j : Nat) : Int), dig (2 ^ j)) ∧ j ≤ n) (fun x => x.1.toNat) (fun y => y = dig (2 ^ n)) (by
    rintro x ⟨j, rfl, hj⟩
    by_cases h : j = n
    · right
      subst h
      refine ⟨_, ?_, rfl⟩
      unfold pyxref1_Two.l2.once
      dsimp only
      rw [cf (by omega)]
    · left
      have := pow2_le (show j ≤ 256 by omega)
      refine ⟨(((n - (j + 1) : Nat) : Int), dig (2 ^ (j + 1))), ?_, ⟨j + 1, rfl, by omega⟩, by dsimp only; omega⟩
      unfold pyxref1_Two.l2.once
      dsimp only
      rw [ct (by omega), AddNat_eq (by omega) (by omega) (by omega), Option.bind_some, wrapi (by omega), show ((n - j : Nat) : Int) - 1 = ((n - (j + 1) : Nat) : Int) by omega, Nat.pow_succ, Nat.mul_two]) k ((n : Int), dig (2 ^ 0)) ⟨0, rfl, by omega⟩ (by dsimp only; omega)
  rw [Nat.pow_zero, dig_1] at e1
  rw [e1, Option.bind_some, e2]
theorem Within_eq (k : Nat) (p : Int) : ∃ kk : Nat, kk ≤ 256 ∧ pyxref1_Within.f k p 0 256 = some (kk : Int) ∧ (max 0 (min p 256)).toNat = kk := by
  refine ⟨(max 0 (min p 256)).toNat, by omega, ?_, rfl⟩
  unfold pyxref1_Within.f
  refine congrArg some ?_
  split <;> split <;> omega
theorem RLeft_eq {k : Nat} (hk : 602 < k) {x : Int × Int × Int × Int} (h : W4 x) {n : Nat} (hn : N4 x = (n : Int)) (p : Int) : ∃ z, pyxref1_Left.f k x p = some z ∧ W4 z ∧ N4 z = ((n * 2 ^ (max 0 (min p 256)).toNat % 115792089237316195423570985008687907853269984665640564039457584007913129639936 : Nat) : Int) := by
  obtain ⟨kk, h1, h2, h3⟩ := Within_eq k p
  have hb := N4_bd h
  have hp := pow2_le h1
  have hm : n * 2 ^ kk < 10 ^ 200 := by
    have := Nat.mul_le_mul (show n ≤ 115792089237316195423570985008687907853269984665640564039457584007913129639936 by omega) hp
    omega
  obtain ⟨z, z1, z2, z3⟩ := Words4_eq hk hm
  refine ⟨z, ?_, z2, by rw [h3]; exact z3⟩
  unfold pyxref1_Left.f
  have e : pyxref1_Nat4.f k (x.1, x.2.1, x.2.2.1, x.2.2.2) = _ := Nat4_eq hk h hn
  rw [e, Option.bind_some, h2, Option.bind_some, Two_eq hk h1, Option.bind_some, MulNat_eq hk (by omega) (by omega), Option.bind_some, z1, Option.bind_some]
theorem RRight_eq {k : Nat} (hk : 602 < k) {x : Int × Int × Int × Int} (h : W4 x) {n : Nat} (hn : N4 x = (n : Int)) (p : Int) : ∃ z, pyxref1_Right.f k x p = some z ∧ W4 z ∧ N4 z = ((n / 2 ^ (max 0 (min p 256)).toNat : Nat) : Int) := by
  obtain ⟨kk, h1, h2, h3⟩ := Within_eq k p
  have hb := N4_bd h
  have hp := pow2_le h1
  have hle := Nat.div_le_self n (2 ^ kk)
  obtain ⟨z, z1, z2, z3⟩ := Words4_eq hk (n := n / 2 ^ kk) (by omega)
  rw [Nat.mod_eq_of_lt (by omega)] at z3
  refine ⟨z, ?_, z2, by rw [h3]; exact z3⟩
  unfold pyxref1_Right.f
  have e : pyxref1_Nat4.f k (x.1, x.2.1, x.2.2.1, x.2.2.2) = _ := Nat4_eq hk h hn
  rw [e, Option.bind_some, h2, Option.bind_some, Two_eq hk h1, Option.bind_some, DivNat_eq hk (by omega) (Nat.two_pow_pos _) (by omega), Option.bind_some, z1, Option.bind_some]
theorem le0 {p q : Prop} [Decidable p] [Decidable q] (h : p ∨ q) : decide ((if p then (-1 : Int) else if q then 0 else 1) ≤ 0) = true := by
  rcases h with h | h
  · rw [if_pos h]; rfl
  · rw [if_pos h]; split <;> rfl
theorem RBits_eq {k : Nat} (hk : 602 < k) {x : Int × Int × Int × Int} (h : W4 x) {n : Nat} (hn : N4 x = (n : Int)) : ∃ b : Nat, pyxref1_Bits.f k x = some (b : Int) ∧ b ≤ 256 ∧ n < 2 ^ b ∧ (b = 0 ∨ 2 ^ (b - 1) ≤ n) := by
  have hb := N4_bd h
  unfold pyxref1_Bits.f
  have e : pyxref1_Nat4.f k (x.1, x.2.1, x.2.2.1, x.2.2.2) = _ := Nat4_eq hk h hn
  rw [e, Option.bind_some]
  have p256 : (2 : Nat) ^ 256 = 115792089237316195423570985008687907853269984665640564039457584007913129639936 := by decide +kernel
  obtain ⟨y, e1, b, rfl, e2, e3, e4⟩ := iter_rule (once := pyxref1_Bits.l4.once k) (fun x => ∃ j : Nat, x = (dig n, dig (2 ^ j), (j : Int)) ∧ j ≤ 256 ∧ (j = 0 ∨ 2 ^ (j - 1) ≤ n)) (fun x => 256 - x.2.2.toNat) (fun y => ∃ b : Nat, y = (b : Int) ∧ b ≤ 256 ∧ n < 2 ^ b ∧ (b = 0 ∨ 2 ^ (b - 1) ≤ n)) (by
    rintro x ⟨j, rfl, hj, hj'⟩
    have hp := pow2_le hj
    have hcmp := CmpNat_eq (k := k) (a := 2 ^ j) (b := n) (by omega) (by omega) (by omega)
    by_cases hle : 2 ^ j ≤ n
    · left
      have hne : j ≠ 256 := by rintro rfl; omega
      refine ⟨(dig n, dig (2 ^ (j + 1)), ((j + 1 : Nat) : Int)), ?_, ⟨j + 1, rfl, by omega, .inr hle⟩, by dsimp only; omega⟩
      unfold pyxref1_Bits.l4.once
      dsimp only
      rw [hcmp, Option.bind_some, le0 (show 2 ^ j < n ∨ 2 ^ j = n by omega), cond_true, AddNat_eq (by omega) (by omega) (by omega), Option.bind_some, wrapi (by omega), Nat.pow_succ, Nat.mul_two]
      rfl
    · right
      refine ⟨(j : Int), ?_, j, rfl, hj, by omega, hj'⟩
      unfold pyxref1_Bits.l4.once
      dsimp only
      rw [hcmp, Option.bind_some, if_neg (by omega), if_neg (by omega)]
      rfl) k (dig n, dig (2 ^ 0), ((0 : Nat) : Int)) ⟨0, rfl, by omega, .inl rfl⟩ (by dsimp only; omega)
  rw [Nat.pow_zero, dig_1] at e1
  have e1' : iter (pyxref1_Bits.l4.once k) k (dig n, [1], 0) = some (b : Int) := e1
  rw [e1', Option.bind_some]
  exact ⟨b, rfl, e2, e3, e4⟩
end Go.Proofs.Ythknecaigoilmaa.Pure
