/- What dec's difference and comparison compute. No conditions but size. -/
import Derived.Test.YtlaogfkgkpgofaaVl
namespace Go.Proofs.Ytlaogfkgkpgofaa.Pure
set_option linter.unusedVariables false
set_option linter.unusedSimpArgs false
open Go Go.Ev Go.Lm Go.Pu Go.Dg
theorem Sm_neg {j : Int} (h : Sm j) : Sm (-j) := by unfold Sm at *; omega
theorem Sub_DV {k : Nat} (hk : 60 < k) {i j : Int} {s t : Nat} (hi : Sm i) (hj : Sm j) (hs : s ≤ 9) (ht : t ≤ 9) : dec_Sub.f k (DV i s) (DV j t) = some (mkD (i * 10 ^ (max s t - s) - j * 10 ^ (max s t - t)) (max s t)) := by
  unfold dec_Sub.f
  have r : dec_Right.f k ⟨(DV j t).f_Neg, ((DV j t).f_C.1, (DV j t).f_C.2), (DV j t).f_Scale⟩ = some true := Right_DV hk hj ht
  have n : dec_Neg.f k ⟨(DV j t).f_Neg, ((DV j t).f_C.1, (DV j t).f_C.2), (DV j t).f_Scale⟩ = some (DV (-j) t) := Neg_DV hk hj ht
  have a : dec_Add.f k ⟨(DV i s).f_Neg, ((DV i s).f_C.1, (DV i s).f_C.2), (DV i s).f_Scale⟩ ⟨(DV (-j) t).f_Neg, ((DV (-j) t).f_C.1, (DV (-j) t).f_C.2), (DV (-j) t).f_Scale⟩ = _ := Add_DV hk hi (Sm_neg hj) hs ht
  rw [r, Option.bind_some, Bool.not_true, cond_false, n, Option.bind_some, a, Option.bind_some, Int.neg_mul, ← Int.sub_eq_add_neg]
theorem sgn_pos {i c : Int} (hc : 0 < c) : sgn (i * c) = sgn i := by
  unfold sgn
  by_cases h0 : i = 0
  · rw [h0, Int.zero_mul]
  · rw [if_neg (by rw [Int.mul_eq_zero]; omega), if_neg h0]
    by_cases h : i < 0
    · rw [if_pos h, if_pos (Int.mul_neg_of_neg_of_pos h hc)]
    · rw [if_neg h, if_neg (by have := Int.mul_pos (show 0 < i by omega) hc; omega)]
theorem Cmp_DV {k : Nat} (hk : 60 < k) {i j : Int} {s t : Nat} (hi : Sm i) (hj : Sm j) (hs : s ≤ 9) (ht : t ≤ 9) : dec_Cmp.f k (DV i s) (DV j t) = some (sgn (i * 10 ^ (max s t - s) - j * 10 ^ (max s t - t))) := by
  have r1 : dec_Right.f k ⟨decide (i < 0), ((w2 i.natAbs).1, (w2 i.natAbs).2), (s : Int)⟩ = some true := Right_DV hk hi hs
  have r2 : dec_Right.f k ⟨decide (j < 0), ((w2 j.natAbs).1, (w2 j.natAbs).2), (t : Int)⟩ = some true := Right_DV hk hj ht
  have s1 : dec_Sign.f k ⟨decide (i < 0), ((w2 i.natAbs).1, (w2 i.natAbs).2), (s : Int)⟩ = some (sgn i) := Sign_DV hk hi hs
  have s2 : dec_Sign.f k ⟨decide (j < 0), ((w2 j.natAbs).1, (w2 j.natAbs).2), (t : Int)⟩ = some (sgn j) := Sign_DV hk hj ht
  obtain ⟨x, x1, x2, x3⟩ := wide_eq hk (decide (i < 0)) (Sm_w2 hi) (s := s) (t := max s t) (by omega) (by omega) (by omega)
  obtain ⟨y, y1, y2, y3⟩ := wide_eq hk (decide (j < 0)) (Sm_w2 hj) (s := t) (t := max s t) (by omega) (by omega) (by omega)
  have x1' : dec_wide.f k ⟨decide (i < 0), ((w2 i.natAbs).1, (w2 i.natAbs).2), (s : Int)⟩ ((max s t : Nat) : Int) = some x := x1
  have y1' : dec_wide.f k ⟨decide (j < 0), ((w2 j.natAbs).1, (w2 j.natAbs).2), (t : Int)⟩ ((max s t : Nat) : Int) = some y := y1
  rw [N2_w2] at x3 y3
  have c : dec_cmp.f k (x.1, x.2.1, x.2.2.1, x.2.2.2) (y.1, y.2.1, y.2.2.1, y.2.2.2) = _ := cmp4 (k := k) (by omega) x2 y2
  have pc : (0 : Int) < 10 ^ (max s t - s) := Int.pow_pos (by decide)
  have pd : (0 : Int) < 10 ^ (max s t - t) := Int.pow_pos (by decide)
  have si := sgn_pos (i := i) pc
  have sj := sgn_pos (i := j) pd
  have vx : i * 10 ^ (max s t - s) = if i < 0 then -(N4 x) else N4 x := by
    rw [x3]
    by_cases h : i < 0
    · rw [if_pos h, show ((i.natAbs : Nat) : Int) = -i by omega, Int.neg_mul, Int.neg_neg]
    · rw [if_neg h, show ((i.natAbs : Nat) : Int) = i by omega]
  have vy : j * 10 ^ (max s t - t) = if j < 0 then -(N4 y) else N4 y := by
    rw [y3]
    by_cases h : j < 0
    · rw [if_pos h, show ((j.natAbs : Nat) : Int) = -j by omega, Int.neg_mul, Int.neg_neg]
    · rw [if_neg h, show ((j.natAbs : Nat) : Int) = j by omega]
  have bx := N4_bd x2
  have by_ := N4_bd y2
  generalize i * 10 ^ (max s t - s) = I at *
  generalize j * 10 ^ (max s t - t) = J at *
  clear x3 y3 pc pd
  unfold dec_Cmp.f DV
  dsimp only
  rw [r1, Option.bind_some, Bool.not_true, cond_false, r2, Option.bind_some, Bool.not_true, Option.bind_some]
  dsimp only
  rw [cond_false, s1, Option.bind_some, s2, Option.bind_some, ← si, ← sj]
  have hI : i < 0 ↔ I < 0 := by
    unfold sgn at si
    by_cases h : i < 0
    · rw [if_neg (show ¬ i = 0 by omega), if_pos h] at si
      split at si
      · cases si
      · split at si
        · exact ⟨fun _ => by assumption, fun _ => h⟩
        · cases si
    · refine ⟨fun h' => absurd h' h, fun h' => ?_⟩
      rw [if_neg (show ¬ I = 0 by omega), if_pos h'] at si
      exact absurd si (by split <;> decide)
  by_cases hs : sgn I = sgn J
  · rw [show (sgn I != sgn J) = false by rw [hs, bne_self_eq_false], cond_false, mx, x1', Option.bind_some, y1', Option.bind_some, c, Option.bind_some]
    have hJ : j < 0 ↔ J < 0 := by
      unfold sgn at sj
      by_cases h : j < 0
      · rw [if_neg (show ¬ j = 0 by omega), if_pos h] at sj
        split at sj
        · cases sj
        · split at sj
          · exact ⟨fun _ => by assumption, fun _ => h⟩
          · cases sj
      · refine ⟨fun h' => absurd h' h, fun h' => ?_⟩
        rw [if_neg (show ¬ J = 0 by omega), if_pos h', if_neg h] at sj
        exact absurd sj (by split <;> decide)
    have key : (if N4 x < N4 y then (-1 : Int) else if N4 x = N4 y then 0 else 1) * sgn I = sgn (I - J) := by
      unfold sgn at hs ⊢
      by_cases h1 : I < 0
      · have h2 : J < 0 := by
          rw [if_neg (by omega), if_pos h1] at hs
          by_cases h0 : J = 0
          · rw [if_pos h0] at hs; cases hs
          · rw [if_neg h0] at hs
            by_cases hn : J < 0
            · exact hn
            · rw [if_neg hn] at hs; cases hs
        rw [if_pos (hI.2 h1)] at vx
        rw [if_pos (hJ.2 h2)] at vy
        rw [if_neg (show ¬ I = 0 by omega), if_pos h1]
        by_cases g1 : N4 x < N4 y
        · rw [if_pos g1, if_neg (by omega), if_neg (by omega)]; rfl
        · rw [if_neg g1]
          by_cases g2 : N4 x = N4 y
          · rw [if_pos g2, if_pos (by omega)]; rfl
          · rw [if_neg g2, if_neg (by omega), if_pos (by omega)]; rfl
      · have h2 : ¬ J < 0 := fun hn => by
          rw [if_neg (show ¬ J = 0 by omega), if_pos hn, if_neg h1] at hs
          exact absurd hs (by split <;> decide)
        rw [if_neg (fun h => h1 (hI.1 h))] at vx
        rw [if_neg (fun h => h2 (hJ.1 h))] at vy
        by_cases h0 : I = 0
        · have h3 : J = 0 := by
            rw [if_pos h0] at hs
            by_cases h4 : J = 0
            · exact h4
            · rw [if_neg h4, if_neg h2] at hs; cases hs
          rw [if_pos h0, Int.mul_zero, if_pos (by omega)]
        · rw [if_neg h0, if_neg h1, Int.mul_one]
          by_cases g1 : N4 x < N4 y
          · rw [if_pos g1, if_neg (by omega), if_pos (by omega)]
          · rw [if_neg g1]
            by_cases g2 : N4 x = N4 y
            · rw [if_pos g2, if_pos (by omega)]
            · rw [if_neg g2, if_neg (by omega), if_neg (by omega)]
    rw [key, wrapi (by unfold sgn; split <;> (try split) <;> decide)]
  · rw [show (sgn I != sgn J) = true by simp [hs], cond_true]
    unfold sgn at hs ⊢
    by_cases h : I < J
    · rw [if_neg (show ¬ I - J = 0 by omega), if_pos (show I - J < 0 by omega)]
      rw [ct]
      by_cases h0 : I = 0
      · rw [if_pos h0, if_neg (by omega), if_neg (by omega)]; decide
      · rw [if_neg h0] at hs ⊢
        by_cases h1 : I < 0
        · rw [if_pos h1] at hs ⊢
          by_cases h2 : J = 0
          · rw [if_pos h2]; decide
          · rw [if_neg h2] at hs ⊢
            by_cases h3 : J < 0
            · rw [if_pos h3] at hs; exact absurd rfl hs
            · rw [if_neg h3]; decide
        · rw [if_neg h1] at hs
          rw [if_neg (show ¬ J = 0 by omega), if_neg (show ¬ J < 0 by omega)] at hs
          exact absurd rfl hs
    · have hne : ¬ I = J := fun e => by subst e; exact hs rfl
      rw [if_neg (show ¬ I - J = 0 by omega), if_neg (show ¬ I - J < 0 by omega)]
      rw [cf]
      by_cases h0 : J = 0
      · rw [if_pos h0, if_neg (by omega), if_neg (by omega)]; decide
      · rw [if_neg h0] at hs ⊢
        by_cases h1 : J < 0
        · rw [if_pos h1]
          split
          · decide
          · split <;> decide
        · rw [if_neg h1] at hs
          rw [if_neg (show ¬ I = 0 by omega), if_neg (show ¬ I < 0 by omega)] at hs
          exact absurd rfl hs
end Go.Proofs.Ytlaogfkgkpgofaa.Pure
