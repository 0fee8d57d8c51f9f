/- What pyxref1.Unit computes, halves to even: the program's own. No conditions but size. -/
import Derived.Test.YtlaogfkgkpgofaaQv
namespace Go.Proofs.Ytlaogfkgkpgofaa.Pure
set_option linter.unusedVariables false
set_option linter.unusedSimpArgs false
open Go Go.Ev Go.Lm Go.Pu Go.Dg
theorem RRounded_eq {k : Nat} (hk : 602 < k) (neg : Bool) {a b : Nat} (ha : a < 10 ^ 90) (hb : 0 < b) (hb' : b < 10 ^ 90) : pyxref1_Rounded.f k neg (dig a) (dig b) 4 = some (dig (hev a b)) := by
  unfold pyxref1_Rounded.f
  have hle := Nat.div_le_self a b
  have hlt := Nat.mod_lt a hb
  rw [DivNat_eq hk (by omega) hb (by omega), Option.bind_some]
  dsimp only
  rw [AddNat_eq (by omega) (by omega) (by omega), Option.bind_some, CmpNat_eq (by omega) (by omega) (by omega), Option.bind_some, ← Nat.two_mul]
  rw [show ((4 : Int) == 1) = false from rfl, show ((4 : Int) == 2) = false from rfl, show ((4 : Int) == 3) = false from rfl, show ((4 : Int) == 4) = true from rfl, cond_false, cond_false, cond_false, cond_true]
  have hadd : pyxref1_AddNat.f k (dig (a / b)) [1] = some (dig (a / b + 1)) := by rw [← dig_1]; exact AddNat_eq (by omega) (by omega) (by omega)
  unfold hev
  by_cases h1 : 2 * (a % b) < b
  · rw [if_pos h1, if_neg (by omega)]; rfl
  · rw [if_neg h1]
    by_cases h2 : 2 * (a % b) = b
    · rw [if_pos h2]
      have hd : pyxref1_digit.f k (dig (a / b)) 0 = some ((a / b % 10 : Nat) : Int) := by
        have := digit_eq k (dig (a / b)) 0
        refine Eq.trans (this : pyxref1_digit.f k (dig (a / b)) 0 = _) (congrArg some ?_)
        by_cases h0 : a / b = 0
        · rw [h0, dig_0]; rfl
        · rw [dig_pos h0]; rfl
      rw [show decide ((0 : Int) > 0) = false from rfl, show ((0 : Int) == 0) = true from rfl, cond_false, cond_true, hd, Option.bind_some, Option.bind_some]
      dsimp only
      rw [show Int.tmod ((a / b % 10 : Nat) : Int) 2 = ((a / b % 10 % 2 : Nat) : Int) from rfl]
      by_cases h3 : a / b % 2 = 1
      · rw [show a / b % 10 % 2 = 1 by omega, if_pos (.inr ⟨h2, h3⟩), show (((1 : Nat) : Int) == 1) = true from rfl, cond_true, hadd]; rfl
      · rw [show a / b % 10 % 2 = 0 by omega, if_neg (by omega)]; rfl
    · rw [if_neg h2, if_pos (by omega)]
      rw [show decide ((1 : Int) > 0) = true from rfl, cond_true, Option.bind_some]
      dsimp only
      rw [cond_true, hadd]
      rfl
theorem RUnit_eq {k : Nat} (hk : 602 < k) {i : Int} {u s t : Nat} (hi : Sm i) (hu : Sm (u : Int)) (h0 : 0 < u) (hs : s ≤ 9) (ht : t ≤ 9) :
    pyxref1_Unit.f k (DV i s) (DV (u : Int) t) 4 = some (unitR i s u t) := by
  have r1 : pyxref1_RightDec.f k ⟨(DV i s).f_Neg, ((DV i s).f_C.1, (DV i s).f_C.2), (DV i s).f_Scale⟩ = some true := (RRight_eq hk (d := DV i s) (Sm_w2 hi)).trans (Right_DV (by omega) hi hs)
  have r2 : pyxref1_RightDec.f k ⟨(DV (u : Int) t).f_Neg, ((DV (u : Int) t).f_C.1, (DV (u : Int) t).f_C.2), (DV (u : Int) t).f_Scale⟩ = some true := (RRight_eq hk (d := DV (u : Int) t) (Sm_w2 hu)).trans (Right_DV (by omega) hu ht)
  have sg : pyxref1_Sign.f k ⟨(DV (u : Int) t).f_Neg, ((DV (u : Int) t).f_C.1, (DV (u : Int) t).f_C.2), (DV (u : Int) t).f_Scale⟩ = some 1 := by
    have := (RSign_eq hk (d := DV (u : Int) t) (Sm_w2 hu)).trans (Sign_DV (k := k) (by omega) hu ht)
    rw [if_neg (by omega), if_neg (by omega)] at this
    exact this
  have gm : pyxref1_goodMode.f k 0 4 = some true := rfl
  have hia : i.natAbs < 1000000000000000000000000000000 := hi
  have hua : u < 1000000000000000000000000000000 := by unfold Sm at hu; omega
  have n1 : pyxref1_Nat2.f k ((DV i s).f_C.1, (DV i s).f_C.2) = some (dig i.natAbs) := Nat2_eq hk (Sm_w2 hi) (N2_w2 _)
  have n2 : pyxref1_Nat2.f k ((DV (u : Int) t).f_C.1, (DV (u : Int) t).f_C.2) = some (dig u) := Nat2_eq hk (Sm_w2 hu) (N2_w2 _)
  have t1 : pyxref1_TenNat.f k (DV (u : Int) t).f_Scale = some (dig (10 ^ t)) := TenNat_eq (i := t) (by omega)
  have t2 : pyxref1_TenNat.f k (DV i s).f_Scale = some (dig (10 ^ s)) := TenNat_eq (i := s) (by omega)
  have p1 := ten9 ht
  have p2 := ten9 hs
  have q1 : i.natAbs * 10 ^ t ≤ 1000000000000000000000000000000 * 1000000000 := Nat.mul_le_mul (by omega) p1
  have q2 : u * 10 ^ s ≤ 1000000000000000000000000000000 * 1000000000 := Nat.mul_le_mul (by omega) p2
  have hpos : 0 < u * 10 ^ s := Nat.mul_pos h0 (Nat.pow_pos (by decide))
  have hle : tms i s u t ≤ i.natAbs * 10 ^ t + 1 := by
    unfold tms hev
    have := Nat.div_le_self (i.natAbs * 10 ^ t) (u * 10 ^ s)
    split <;> omega
  have q3 : tms i s u t * u ≤ (1000000000000000000000000000000 * 1000000000 + 1) * 1000000000000000000000000000000 := Nat.mul_le_mul (by omega) (by omega)
  have ro : pyxref1_Rounded.f k (DV i s).f_Neg (dig (i.natAbs * 10 ^ t)) (dig (u * 10 ^ s)) 4 = some (dig (tms i s u t)) := RRounded_eq hk _ (by omega) hpos (by omega)
  unfold pyxref1_Unit.f unitR
  rw [r1, Option.bind_some, Bool.not_true, cond_false, r2, Option.bind_some, Bool.not_true, cond_false, gm, Option.bind_some, Bool.not_true, cond_false, sg, Option.bind_some, Option.bind_some]
  dsimp only
  rw [show decide ((1 : Int) ≤ 0) = false from rfl, cond_false, n1, Option.bind_some, t1, Option.bind_some, MulNat_eq hk (by omega) (by omega), Option.bind_some, n2, Option.bind_some, t2, Option.bind_some, MulNat_eq hk (by omega) (by omega), Option.bind_some, ro, Option.bind_some, Option.bind_some, MulNat_eq hk (by omega) (by omega), Option.bind_some]
  have mk : pyxref1_Make.f k (DV i s).f_Neg (dig (tms i s u t * u)) (DV (u : Int) t).f_Scale = _ := Make_eq hk (decide (i < 0)) (n := tms i s u t * u) (by omega) ht
  rw [mk, Option.bind_some]
end Go.Proofs.Ytlaogfkgkpgofaa.Pure
