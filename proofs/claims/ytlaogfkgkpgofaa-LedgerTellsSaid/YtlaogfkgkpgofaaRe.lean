/- What pyxref1's sums of two compute: dec's own. No conditions but size. -/
import Derived.Test.YtlaogfkgkpgofaaRd
namespace Go.Proofs.Ytlaogfkgkpgofaa.Pure
set_option linter.unusedVariables false
set_option linter.unusedSimpArgs false
open Go Go.Ev Go.Lm Go.Pu Go.Dg

theorem RNeg_eq {k : Nat} (hk : 602 < k) {d : Sapi_Dec} (hw : W2 d.f_C) : pyxref1_Neg.f k d = dec_Neg.f k d := by
  unfold pyxref1_Neg.f dec_Neg.f dec_nought.f
  have e : pyxref1_RightDec.f k ⟨d.f_Neg, (d.f_C.1, d.f_C.2), d.f_Scale⟩ = dec_Right.f k ⟨d.f_Neg, (d.f_C.1, d.f_C.2), d.f_Scale⟩ := RRight_eq hk hw
  rw [e]
  rfl
theorem RSign_eq {k : Nat} (hk : 602 < k) {d : Sapi_Dec} (hw : W2 d.f_C) : pyxref1_Sign.f k d = dec_Sign.f k d := by
  unfold pyxref1_Sign.f dec_Sign.f dec_nought.f
  have e : pyxref1_RightDec.f k ⟨d.f_Neg, (d.f_C.1, d.f_C.2), d.f_Scale⟩ = dec_Right.f k ⟨d.f_Neg, (d.f_C.1, d.f_C.2), d.f_Scale⟩ := RRight_eq hk hw
  rw [e]
  rfl
/-- The sum of two, by the digits. -/
theorem RAdd_DV {k : Nat} (hk : 602 < k) {i j : Int} {s t : Nat} (hi : Sm i) (hj : Sm j) (hs : s ≤ 9) (ht : t ≤ 9) : pyxref1_Add.f k (DV i s) (DV j t) = some (mkD (i * 10 ^ (max s t - s) + j * 10 ^ (max s t - t)) (max s t)) := by
  have r1 : pyxref1_RightDec.f k ⟨decide (i < 0), ((w2 i.natAbs).1, (w2 i.natAbs).2), (s : Int)⟩ = some true := (RRight_eq hk (d := DV i s) (Sm_w2 hi)).trans (Right_DV (by omega) hi hs)
  have r2 : pyxref1_RightDec.f k ⟨decide (j < 0), ((w2 j.natAbs).1, (w2 j.natAbs).2), (t : Int)⟩ = some true := (RRight_eq hk (d := DV j t) (Sm_w2 hj)).trans (Right_DV (by omega) hj ht)
  have x1' : pyxref1_digits.f k ⟨decide (i < 0), ((w2 i.natAbs).1, (w2 i.natAbs).2), (s : Int)⟩ ((max s t : Nat) : Int) = some (dig (i.natAbs * 10 ^ (max s t - s))) := digits_eq hk _ (by unfold Sm at hi; omega) (by omega) (by omega)
  have y1' : pyxref1_digits.f k ⟨decide (j < 0), ((w2 j.natAbs).1, (w2 j.natAbs).2), (t : Int)⟩ ((max s t : Nat) : Int) = some (dig (j.natAbs * 10 ^ (max s t - t))) := digits_eq hk _ (by unfold Sm at hj; omega) (by omega) (by omega)
  have p1 := ten9 (show max s t - s ≤ 9 by omega)
  have p2 := ten9 (show max s t - t ≤ 9 by omega)
  have q1 : (i.natAbs * 10 ^ (max s t - s) : Nat) ≤ 1000000000000000000000000000000 * 1000000000 := Nat.mul_le_mul (by unfold Sm at hi; omega) p1
  have q2 : (j.natAbs * 10 ^ (max s t - t) : Nat) ≤ 1000000000000000000000000000000 * 1000000000 := Nat.mul_le_mul (by unfold Sm at hj; omega) p2
  have vx : i * 10 ^ (max s t - s) = if i < 0 then -((i.natAbs * 10 ^ (max s t - s) : Nat) : Int) else ((i.natAbs * 10 ^ (max s t - s) : Nat) : Int) := by
    rw [Int.natCast_mul, Int.natCast_pow]
    by_cases h : i < 0
    · rw [if_pos h, show ((i.natAbs : Nat) : Int) = -i by omega, Int.neg_mul, Int.neg_neg]; rfl
    · rw [if_neg h, show ((i.natAbs : Nat) : Int) = i by omega]; rfl
  have vy : j * 10 ^ (max s t - t) = if j < 0 then -((j.natAbs * 10 ^ (max s t - t) : Nat) : Int) else ((j.natAbs * 10 ^ (max s t - t) : Nat) : Int) := by
    rw [Int.natCast_mul, Int.natCast_pow]
    by_cases h : j < 0
    · rw [if_pos h, show ((j.natAbs : Nat) : Int) = -j by omega, Int.neg_mul, Int.neg_neg]; rfl
    · rw [if_neg h, show ((j.natAbs : Nat) : Int) = j by omega]; rfl
  rw [vx, vy]
  generalize i.natAbs * 10 ^ (max s t - s) = M at *
  generalize j.natAbs * 10 ^ (max s t - t) = N at *
  clear vx vy p1 p2
  have hm : max s t ≤ 9 := by omega
  have hM : M < 10 ^ 200 := by omega
  have hN : N < 10 ^ 200 := by omega
  unfold pyxref1_Add.f DV
  dsimp only
  rw [r1, Option.bind_some, Bool.not_true, cond_false, r2, Option.bind_some, Bool.not_true, Option.bind_some]
  dsimp only
  rw [cond_false, mx, x1', Option.bind_some, y1', Option.bind_some]
  by_cases hi0 : i < 0
  · rw [if_pos hi0, decide_eq_true hi0]
    by_cases hj0 : j < 0
    · rw [if_pos hj0, decide_eq_true hj0, show ((true == true) : Bool) = true from rfl, cond_true]
      rw [AddNat_eq (by omega) hM hN, Option.bind_some, Make_eq hk true (by omega) hm, Option.bind_some, if_pos rfl, show -(M : Int) + -(N : Int) = -((M + N : Nat) : Int) by omega]
    · rw [if_neg hj0, decide_eq_false hj0, show ((true == false) : Bool) = false from rfl, cond_false]
      rw [CmpNat_eq (by omega) hM hN, Option.bind_some]
      by_cases hlt : M < N
      · rw [if_pos hlt, cf (by omega), SubNat_eq (by omega) hN (by omega), Option.bind_some, Make_eq hk false (by omega) hm, Option.bind_some, if_neg (by decide), show -(M : Int) + (N : Int) = ((N - M : Nat) : Int) by omega]
      · rw [if_neg hlt, ct (by split <;> decide), SubNat_eq (by omega) hM (by omega), Option.bind_some, Make_eq hk true (by omega) hm, Option.bind_some, if_pos rfl, show -(M : Int) + (N : Int) = -((M - N : Nat) : Int) by omega]
  · rw [if_neg hi0, decide_eq_false hi0]
    by_cases hj0 : j < 0
    · rw [if_pos hj0, decide_eq_true hj0, show ((false == true) : Bool) = false from rfl, cond_false]
      rw [CmpNat_eq (by omega) hM hN, Option.bind_some]
      by_cases hlt : M < N
      · rw [if_pos hlt, cf (by omega), SubNat_eq (by omega) hN (by omega), Option.bind_some, Make_eq hk true (by omega) hm, Option.bind_some, if_pos rfl, show (M : Int) + -(N : Int) = -((N - M : Nat) : Int) by omega]
      · rw [if_neg hlt, ct (by split <;> decide), SubNat_eq (by omega) hM (by omega), Option.bind_some, Make_eq hk false (by omega) hm, Option.bind_some, if_neg (by decide), show (M : Int) + -(N : Int) = ((M - N : Nat) : Int) by omega]
    · rw [if_neg hj0, decide_eq_false hj0, show ((false == false) : Bool) = true from rfl, cond_true]
      rw [AddNat_eq (by omega) hM hN, Option.bind_some, Make_eq hk false (by omega) hm, Option.bind_some, if_neg (by decide), show (M : Int) + (N : Int) = ((M + N : Nat) : Int) by omega]
end Go.Proofs.Ytlaogfkgkpgofaa.Pure
