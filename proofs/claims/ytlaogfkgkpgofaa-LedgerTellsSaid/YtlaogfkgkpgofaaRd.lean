/- What pyxref1's sums on numbers with places after the point compute: dec's own. No conditions but size. -/
import Derived.Test.YtlaogfkgkpgofaaRb
import Derived.Test.YtlaogfkgkpgofaaDc
namespace Go.Proofs.Ytlaogfkgkpgofaa.Pure
set_option linter.unusedVariables false
set_option linter.unusedSimpArgs false
open Go Go.Ev Go.Lm Go.Pu Go.Dg

theorem Words2_eq {k : Nat} (hk : 602 < k) {n : Nat} (hn : n < 10 ^ 200) : ∃ z b, pyxref1_Words2.f k (dig n) = some (z, b) ∧ W2 z ∧ (b = true ↔ n < 340282366920938463463374607431768211456) ∧ (b = true → N2 z = (n : Int)) ∧ (b = false → z = (0, 0)) := by
  unfold pyxref1_Words2.f
  rw [radix_eq (by omega), Option.bind_some, DivNat_eq hk hn (by omega) (by omega), Option.bind_some, Option.bind_some]
  dsimp only
  rw [CmpNat_eq (by omega) (by omega) (by omega), Option.bind_some]
  by_cases h : n / 18446744073709551616 < 18446744073709551616
  · rw [if_pos h, show decide ((-1 : Int) ≥ 0) = false from rfl, cond_false, short_eq hk (by omega), Option.bind_some, short_eq hk h, Option.bind_some]
    refine ⟨_, _, rfl, ⟨⟨by dsimp only; omega, by dsimp only; omega⟩, by dsimp only; omega, by dsimp only; omega⟩, ⟨(fun _ => by omega), fun _ => rfl⟩, fun _ => ?_, (fun h => by cases h)⟩
    unfold N2
    dsimp only
    omega
  · rw [if_neg h]
    rw [show decide ((if n / 18446744073709551616 = 18446744073709551616 then (0 : Int) else 1) ≥ 0) = true by split <;> rfl, cond_true]
    exact ⟨_, _, rfl, W20, ⟨(fun h => by cases h), (fun h' => by omega)⟩, (fun h => by cases h), fun _ => rfl⟩
theorem len30 (n : Nat) : (dig n).length ≤ 30 ↔ n < 1000000000000000000000000000000 := by
  constructor
  · intro h
    have h1 := dig_lt n
    have h2 : (10 : Nat) ^ (dig n).length ≤ 10 ^ 30 := Nat.pow_le_pow_right (by decide) h
    have h3 : (10 : Nat) ^ 30 = 1000000000000000000000000000000 := by decide
    omega
  · intro h
    exact dig_len (m := 30) (by have h3 : (10 : Nat) ^ 30 = 1000000000000000000000000000000 := by decide
                                omega)
theorem len0 (n : Nat) : (dig n).length = 0 ↔ n = 0 := by
  constructor
  · intro h
    by_cases h0 : n = 0
    · exact h0
    · rw [dig_pos h0] at h; cases h
  · rintro rfl; rw [dig_0]; rfl
theorem RRight_eq {k : Nat} (hk : 602 < k) {d : Sapi_Dec} (hw : W2 d.f_C) : pyxref1_RightDec.f k d = dec_Right.f k d := by
  unfold pyxref1_RightDec.f dec_Right.f
  have hb := N2_bd hw
  have hn : N2 d.f_C = ((N2 d.f_C).toNat : Int) := by omega
  have e1 : dec_small.f k (d.f_C.1, d.f_C.2) = some (decide (N2 d.f_C < 1000000000000000000000000000000)) := small_all (by omega) hw
  have e2 : dec_nought.f k (d.f_C.1, d.f_C.2) = some (decide (N2 d.f_C = 0)) := nought_eq k hw
  have e3 : pyxref1_Nat2.f k (d.f_C.1, d.f_C.2) = some (dig (N2 d.f_C).toNat) := Nat2_eq hk hw hn
  have l1 := len30 (N2 d.f_C).toNat
  have l2 := len0 (N2 d.f_C).toNat
  rw [e1, e2, e3, Option.bind_some, Option.bind_some, Option.bind_some]
  have c1 : decide (((dig (N2 d.f_C).toNat).length : Int) ≤ 30) = decide (N2 d.f_C < 1000000000000000000000000000000) := by
    rw [decide_eq_decide]; omega
  have c2 : (((dig (N2 d.f_C).toNat).length : Int) == 0) = decide (N2 d.f_C = 0) := by
    rw [Bool.eq_iff_iff, beq_iff_eq, decide_eq_true_iff]; omega
  rw [c1, c2]
theorem Make_eq {k : Nat} (hk : 602 < k) (neg : Bool) {n : Nat} (hn : n < 10 ^ 200) {s : Nat} (hs : s ≤ 9) : pyxref1_Make.f k neg (dig n) (s : Int) = some (mkD (if neg then -(n : Int) else n) s) := by
  unfold pyxref1_Make.f mkD
  have l1 := len30 n
  have l2 := len0 n
  have hna : (if neg = true then -(n : Int) else n).natAbs = n := by split <;> omega
  rw [hna]
  by_cases h : n < 1000000000000000000000000000000
  · rw [cf (by omega), cf (by omega), Option.bind_some]
    dsimp only
    rw [cf (by omega), if_pos h]
    obtain ⟨z, b, z1, z2, z3, z4, z5⟩ := Words2_eq hk hn
    rw [z1, Option.bind_some]
    have hz : z = w2 n := w2_of z2 (z4 (z3.2 (by omega)))
    unfold DV
    rw [hna, hz]
    cases neg
    · rw [cond_false]
      refine congrArg some ?_
      rw [if_neg (by decide), decide_eq_false (by omega)]
    · rw [cond_true]
      refine congrArg some ?_
      rw [if_pos rfl]
      have : decide (((dig n).length : Int) > 0) = decide (-(n : Int) < 0) := by rw [decide_eq_decide]; omega
      rw [this]
  · rw [ct (by omega), Option.bind_some, cond_true, if_neg h]
    rfl
theorem digits_eq {k : Nat} (hk : 602 < k) (n : Bool) {m s t : Nat} (hm : m < 340282366920938463463374607431768211456) (hst : s ≤ t) (ht : t ≤ 100) : pyxref1_digits.f k ⟨n, w2 m, (s : Int)⟩ (t : Int) = some (dig (m * 10 ^ (t - s))) := by
  unfold pyxref1_digits.f
  have e3 : pyxref1_Nat2.f k ((w2 m).1, (w2 m).2) = some (dig m) := Nat2_eq hk (W2_w2 hm) (N2_w2 m)
  have p : (10 : Nat) ^ (t - s) < 10 ^ 200 := Nat.pow_lt_pow_right (by decide) (by omega)
  dsimp only
  rw [e3, Option.bind_some, wrapi (by omega), show (t : Int) - (s : Int) = ((t - s : Nat) : Int) by omega, TenNat_eq (by omega), Option.bind_some, MulNat_eq hk (by omega) p, Option.bind_some]
def cl (s : Int) : Nat := (max 0 (min s 9)).toNat
theorem cl_le (s : Int) : cl s ≤ 9 := by unfold cl; omega
theorem cl_of {s : Nat} (h : s ≤ 9) : cl (s : Int) = s := by unfold cl; omega
theorem ROf_DV {k : Nat} (hk : 602 < k) {n : Int} (h : -9223372036854775808 ≤ n ∧ n < 9223372036854775808) (s : Int) : pyxref1_Of.f k n s = some (DV n (cl s)) := by
  have e : pyxref1_Within.f k s 0 9 = some ((cl s : Nat) : Int) := by
    unfold pyxref1_Within.f cl
    refine congrArg some ?_
    by_cases h9 : s < 9
    · rw [if_pos h9]; split <;> omega
    · rw [if_neg h9, if_pos (by omega)]; omega
  unfold pyxref1_Of.f
  have hw : (n.natAbs : Nat) < 10 ^ 200 := by omega
  have hs : ∀ b : Bool, b = decide (n < 0) → (pyxref1_Word.f k ((n.natAbs : Nat) : Int)).bind (fun t9 => ((pyxref1_Within.f k s 0 9).bind fun t10 => ((pyxref1_Make.f k b t9 t10).bind fun t11 => (some (⟨t11.1.f_Neg, (t11.1.f_C.1, t11.1.f_C.2), t11.1.f_Scale⟩ : Sapi_Dec))))) = some (DV n (cl s)) := by
    rintro _ rfl
    rw [Word_eq (by omega) (by omega), Option.bind_some, e, Option.bind_some, Make_eq hk _ hw (cl_le s), Option.bind_some]
    have : (if decide (n < 0) = true then -((n.natAbs : Nat) : Int) else ((n.natAbs : Nat) : Int)) = n := by
      by_cases hn : n < 0
      · rw [decide_eq_true hn, if_pos rfl]; omega
      · rw [decide_eq_false hn, if_neg (by decide)]; omega
    rw [this]
    unfold mkD
    rw [if_pos (by omega)]
  by_cases hn : n < 0
  · rw [ct hn, Option.bind_some]
    dsimp only
    rw [wrap64, wrap64, show (0 - n % 18446744073709551616) % 18446744073709551616 = ((n.natAbs : Nat) : Int) by omega]
    exact hs _ rfl
  · rw [cf hn, Option.bind_some]
    dsimp only
    rw [wrap64, show n % 18446744073709551616 = ((n.natAbs : Nat) : Int) by omega]
    exact hs _ rfl
end Go.Proofs.Ytlaogfkgkpgofaa.Pure
