/- What quant.Unit computes, halves to even, by the program and by the digits. No conditions but size. -/
import Derived.Test.YtlaogfkgkpgofaaQu
namespace Go.Proofs.Ytlaogfkgkpgofaa.Pure
set_option linter.unusedVariables false
set_option linter.unusedSimpArgs false
open Go Go.Ev Go.Lm Go.Pu Go.Dg
theorem hev_scale (n : Nat) {d c : Nat} (hc : 0 < c) (hd : 0 < d) : hev (n * c) (d * c) = hev n d := by
  unfold hev
  rw [Nat.mul_mod_mul_right, Nat.mul_div_mul_right _ _ hc, ← Nat.mul_assoc]
  have e1 : (2 * (n % d) * c > d * c) = (2 * (n % d) > d) := propext ⟨fun h => Nat.lt_of_mul_lt_mul_right h, fun h => Nat.mul_lt_mul_of_pos_right h hc⟩
  have e2 : (2 * (n % d) * c = d * c) = (2 * (n % d) = d) := propext ⟨fun h => Nat.eq_of_mul_eq_mul_right hc h, fun h => by rw [h]⟩
  simp only [e1, e2]
theorem hev_small {n d : Nat} (h : 2 * n < d) : hev n d = 0 := by
  unfold hev
  rw [Nat.mod_eq_of_lt (by omega), Nat.div_eq_of_lt (by omega), if_neg (by omega)]
theorem qright2_eq {k : Nat} (hk : 60 < k) {a b : Sapi_Dec} (ha : W2 a.f_C) (hb : W2 b.f_C) : quant_right.f k 0 4 [a, b] = some (dOk a && dOk b) := by
  unfold quant_right.f
  have r1 := Right_val hk ha
  have r2 := Right_val hk hb
  have st : ∀ (i : Nat) (x : Sapi_Dec), i < 2 → [a, b].getD i Sapi_Dec.zero = x → dec_Right.f k x = some (dOk x) → quant_right.l2.once k (0, 4, [a, b], 2, (i : Int)) = cond (dOk x) (some (.inl (0, 4, [a, b], 2, ((i + 1 : Nat) : Int)))) (some (.inr (.inr false))) := by
    intro i x hi hx hr
    unfold quant_right.l2.once
    dsimp only
    have hr' : dec_Right.f k ⟨x.f_Neg, (x.f_C.1, x.f_C.2), x.f_Scale⟩ = some (dOk x) := hr
    rw [ct (by omega), inb_t (by omega) (by simp; omega), cond_true, Int.toNat_natCast, hx, hr', Option.bind_some, wrapi (by omega)]
    cases dOk x <;> rfl
  have s0 := st 0 a (by decide) rfl r1
  have s1 := st 1 b (by decide) rfl r2
  have s2 : quant_right.l2.once k (0, 4, [a, b], 2, ((1 + 1 : Nat) : Int)) = some (.inr (.inl (0, 4))) := by unfold quant_right.l2.once; rfl
  obtain ⟨j, hj⟩ : ∃ j, k = j + 3 := ⟨k - 3, by omega⟩
  have e : iter (quant_right.l2.once k) k (0, 4, [a, b], (([a, b].length : Nat) : Int), 0) = some (cond (dOk a && dOk b) (.inl (0, 4)) (.inr false)) := by
    conv => lhs; arg 2; rw [hj]
    cases ha : dOk a
    · rw [ha, cond_false] at s0
      exact iter_stop s0
    · rw [ha, cond_true] at s0
      refine (iter_step s0).trans ?_
      cases hb : dOk b
      · rw [hb, cond_false] at s1
        exact iter_stop s1
      · rw [hb, cond_true] at s1
        refine (iter_step s1).trans ?_
        exact iter_stop s2
  rw [e, Option.bind_some]
  cases (dOk a && dOk b) <;> rfl
theorem not_both {i u : Int} (hu : 0 < u) : (!(decide (i < 0) == decide (u < 0))) = decide (i < 0) := by
  rw [decide_eq_false (show ¬ u < 0 by omega)]
  cases decide (i < 0) <;> rfl
/-- The quotient that a unit is taken. -/
def tms (i : Int) (s : Nat) (u t : Nat) : Nat := hev (i.natAbs * 10 ^ t) (u * 10 ^ s)
theorem tms_ge {i : Int} {s u t : Nat} (hu : 0 < u) (h : s ≤ t) : hev (i.natAbs * 10 ^ (t - s)) u = tms i s u t := by
  unfold tms
  have : 10 ^ t = 10 ^ (t - s) * 10 ^ s := by rw [← Nat.pow_add]; congr 1; omega
  rw [this, ← Nat.mul_assoc, hev_scale _ (Nat.pow_pos (by decide)) hu]
theorem tms_lt {i : Int} {s u t : Nat} (hu : 0 < u) (h : t ≤ s) : hev i.natAbs (u * 10 ^ (s - t)) = tms i s u t := by
  unfold tms
  have : 10 ^ s = 10 ^ (s - t) * 10 ^ t := by rw [← Nat.pow_add]; congr 1; omega
  rw [this, ← Nat.mul_assoc, hev_scale _ (Nat.pow_pos (by decide)) (Nat.mul_pos hu (Nat.pow_pos (by decide)))]
theorem QDiv_eq {k : Nat} (hk : 260 < k) {i : Int} {u s t : Nat} (hi : Sm i) (hu : Sm (u : Int)) (h0 : 0 < u) (hs : s ≤ 9) (ht : t ≤ 9) :
    quant_Div.f k (DV i s) (DV (u : Int) t) 0 4 = some (mkD (if decide (i < 0) = true then -((tms i s u t : Nat) : Int) else ((tms i s u t : Nat) : Int)) 0) := by
  have hr : quant_right.f k 0 4 [(⟨(DV i s).f_Neg, ((DV i s).f_C.1, (DV i s).f_C.2), (DV i s).f_Scale⟩ : Sapi_Dec), (⟨(DV (u : Int) t).f_Neg, ((DV (u : Int) t).f_C.1, (DV (u : Int) t).f_C.2), (DV (u : Int) t).f_Scale⟩ : Sapi_Dec)] = some true := by
    have := qright2_eq (k := k) (by omega) (a := DV i s) (b := DV (u : Int) t) (Sm_w2 hi) (Sm_w2 hu)
    rw [dOk_of_DV hi hs, dOk_of_DV hu ht] at this
    exact this
  have sg : dec_Sign.f k ⟨(DV (u : Int) t).f_Neg, ((DV (u : Int) t).f_C.1, (DV (u : Int) t).f_C.2), (DV (u : Int) t).f_Scale⟩ = some 1 := by
    have := Sign_DV (k := k) (by omega) hu ht
    rw [if_neg (by omega), if_neg (by omega)] at this
    exact this
  have hnb : (!((DV i s).f_Neg == (DV (u : Int) t).f_Neg)) = decide (i < 0) := not_both (i := i) (u := (u : Int)) (by omega)
  unfold quant_Div.f
  rw [hr, Option.bind_some, Bool.not_true, cond_false, sg, Option.bind_some, show ((1 : Int) == 0) = false from rfl, cond_false, hnb]
  have hus : (DV (u : Int) t).f_Scale = (t : Int) := rfl
  have his : (DV i s).f_Scale = (s : Int) := rfl
  rw [hus, his, wrapi (n := 0 + (t : Int)) (by omega), wrapi (by omega)]
  have hcu : N2 (DV (u : Int) t).f_C = (u : Int) := by
    show N2 (w2 (u : Int).natAbs) = _
    rw [N2_w2]; rfl
  have hci : N2 (DV i s).f_C = (i.natAbs : Int) := N2_w2 _
  by_cases hst : s ≤ t
  · rw [ct (by omega)]
    unfold quant_ten.f
    obtain ⟨x, x1, x2, x3⟩ := Ten_eq (k := k) (by omega) (i := t - s) (by omega)
    rw [show 0 + (t : Int) - (s : Int) = ((t - s : Nat) : Int) by omega, x1, Option.bind_some, Option.bind_some]
    obtain ⟨z, z1, z2, z3⟩ := Mul_eq (k := k) (by omega) (x := (DV i s).f_C) (Sm_w2 hi) x2
    have z1' : limb_Mul.f k ((DV i s).f_C.1, (DV i s).f_C.2) (x.1, x.2) = some z := z1
    dsimp only
    rw [z1', Option.bind_some]
    have hz : N4 z = ((i.natAbs * 10 ^ (t - s) : Nat) : Int) := by rw [z3, hci, x3, Int.natCast_mul, Int.natCast_pow]; rfl
    have q : quant_rounded.f k (decide (i < 0)) (z.1, z.2.1, z.2.2.1, z.2.2.2) ((DV (u : Int) t).f_C.1, (DV (u : Int) t).f_C.2) 0 4 = _ := qrounded_eq hk (decide (i < 0)) z2 (d := (DV (u : Int) t).f_C) (Sm_w2 hu) hz hcu h0 (s := 0) (by decide)
    rw [q, Option.bind_some, tms_ge h0 hst]
  · rw [cf (by omega)]
    unfold quant_ten.f
    obtain ⟨x, x1, x2, x3⟩ := Ten_eq (k := k) (by omega) (i := s - t) (by omega)
    rw [wrapi (by omega), show 0 - (0 + (t : Int) - (s : Int)) = ((s - t : Nat) : Int) by omega, x1, Option.bind_some, Option.bind_some]
    obtain ⟨z, z1, z2, z3⟩ := Mul_eq (k := k) (by omega) (x := (DV (u : Int) t).f_C) (Sm_w2 hu) x2
    have z1' : limb_Mul.f k ((DV (u : Int) t).f_C.1, (DV (u : Int) t).f_C.2) (x.1, x.2) = some z := z1
    dsimp only
    rw [z1', Option.bind_some]
    have hz : N4 z = ((u * 10 ^ (s - t) : Nat) : Int) := by rw [z3, hcu, x3, Int.natCast_mul, Int.natCast_pow]; rfl
    obtain ⟨c, b, c1, c2, c3, c4, c5⟩ := Short_eq k z2
    have c1' : limb_Short.f k (z.1, z.2.1, z.2.2.1, z.2.2.2) = some (c, b) := c1
    have hpos : 0 < u * 10 ^ (s - t) := Nat.mul_pos h0 (Nat.pow_pos (by decide))
    have hia : i.natAbs < 1000000000000000000000000000000 := hi
    have hwx : W4 ((w2 i.natAbs).1, (w2 i.natAbs).2, 0, 0) := W4_wide (Sm_w2 hi)
    have hnx : N4 ((w2 i.natAbs).1, (w2 i.natAbs).2, 0, 0) = ((i.natAbs : Nat) : Int) := by rw [N4_wide, N2_w2]
    rw [c1', Option.bind_some]
    cases b
    · have : ¬ N4 z < 340282366920938463463374607431768211456 := fun h => by have := c3.2 h; cases this
      rw [Bool.not_false, cond_true, Option.bind_some]
      dsimp only
      have hwd : W2 (18446744073709551615, 18446744073709551615) := ⟨⟨by decide, by decide⟩, by decide, by decide⟩
      have hnd : N2 (18446744073709551615, 18446744073709551615) = ((340282366920938463463374607431768211455 : Nat) : Int) := by decide
      have q : quant_rounded.f k (decide (i < 0)) ((DV i s).f_C.1, (DV i s).f_C.2, 0, 0) (18446744073709551615, 18446744073709551615) 0 4 = _ := qrounded_eq hk (decide (i < 0)) hwx hwd hnx hnd (by decide) (s := 0) (by decide)
      rw [Wide_eq, Option.bind_some]
      dsimp only
      rw [q, Option.bind_some, hev_small (by omega), ← tms_lt h0 (show t ≤ s by omega), hev_small (by omega)]
    · rw [Bool.not_true, cond_false, Option.bind_some]
      dsimp only
      have q : quant_rounded.f k (decide (i < 0)) ((DV i s).f_C.1, (DV i s).f_C.2, 0, 0) (c.1, c.2) 0 4 = _ := qrounded_eq hk (decide (i < 0)) hwx c2 hnx ((c4 rfl).trans hz) hpos (s := 0) (by decide)
      rw [Wide_eq, Option.bind_some]
      dsimp only
      rw [q, Option.bind_some, tms_lt h0 (show t ≤ s by omega)]
/-- What a unit is taken: the sign, so many times the unit. -/
def unitR (i : Int) (s u t : Nat) : Sapi_Dec × Int := mkD (if decide (i < 0) = true then -((tms i s u t * u : Nat) : Int) else ((tms i s u t * u : Nat) : Int)) t
theorem QUnit_eq {k : Nat} (hk : 260 < k) {i : Int} {u s t : Nat} (hi : Sm i) (hu : Sm (u : Int)) (h0 : 0 < u) (hs : s ≤ 9) (ht : t ≤ 9) :
    quant_Unit.f k (DV i s) (DV (u : Int) t) 4 = some (unitR i s u t) := by
  have sg : dec_Sign.f k ⟨(DV (u : Int) t).f_Neg, ((DV (u : Int) t).f_C.1, (DV (u : Int) t).f_C.2), (DV (u : Int) t).f_Scale⟩ = some 1 := by
    have := Sign_DV (k := k) (by omega) hu ht
    rw [if_neg (by omega), if_neg (by omega)] at this
    exact this
  have hd : quant_Div.f k ⟨(DV i s).f_Neg, ((DV i s).f_C.1, (DV i s).f_C.2), (DV i s).f_Scale⟩ ⟨(DV (u : Int) t).f_Neg, ((DV (u : Int) t).f_C.1, (DV (u : Int) t).f_C.2), (DV (u : Int) t).f_Scale⟩ 0 4 = _ := QDiv_eq hk hi hu h0 hs ht
  unfold quant_Unit.f unitR
  rw [sg, Option.bind_some, show decide ((1 : Int) ≤ 0) = false from rfl, cond_false, hd, Option.bind_some]
  have hna : (if decide (i < 0) = true then -((tms i s u t : Nat) : Int) else ((tms i s u t : Nat) : Int)).natAbs = tms i s u t := by split <;> omega
  have hnb : (if decide (i < 0) = true then -((tms i s u t * u : Nat) : Int) else ((tms i s u t * u : Nat) : Int)).natAbs = tms i s u t * u := by split <;> omega
  by_cases h : tms i s u t < 1000000000000000000000000000000
  · have hm : mkD (if decide (i < 0) = true then -((tms i s u t : Nat) : Int) else ((tms i s u t : Nat) : Int)) 0 = (DV (if decide (i < 0) = true then -((tms i s u t : Nat) : Int) else ((tms i s u t : Nat) : Int)) 0, 0) := by
      unfold mkD; rw [if_pos (by rw [hna]; exact h)]
    rw [hm]
    dsimp only
    rw [show ((0 : Int) != 0) = false from rfl, cond_false]
    have hw : W2 (w2 (tms i s u t)) := W2_w2 (by omega)
    obtain ⟨z, z1, z2, z3⟩ := Mul_eq (k := k) (by omega) (x := w2 (tms i s u t)) hw (y := (DV (u : Int) t).f_C) (Sm_w2 hu)
    have z1' : limb_Mul.f k ((DV (if decide (i < 0) = true then -((tms i s u t : Nat) : Int) else ((tms i s u t : Nat) : Int)) 0).f_C.1, (DV (if decide (i < 0) = true then -((tms i s u t : Nat) : Int) else ((tms i s u t : Nat) : Int)) 0).f_C.2) ((DV (u : Int) t).f_C.1, (DV (u : Int) t).f_C.2) = some z := by
      have : (DV (if decide (i < 0) = true then -((tms i s u t : Nat) : Int) else ((tms i s u t : Nat) : Int)) 0).f_C = w2 (tms i s u t) := by
        show w2 (if decide (i < 0) = true then -((tms i s u t : Nat) : Int) else ((tms i s u t : Nat) : Int)).natAbs = _
        rw [hna]
      rw [this]
      exact z1
    have hz : N4 z = ((tms i s u t * u : Nat) : Int) := by
      rw [z3, N2_w2]
      show _ * N2 (w2 (u : Int).natAbs) = _
      rw [N2_w2, Int.natCast_mul]; rfl
    rw [z1', Option.bind_some]
    have md : quant_made.f k (DV i s).f_Neg (z.1, z.2.1, z.2.2.1, z.2.2.2) (DV (u : Int) t).f_Scale = _ := qmade_eq (k := k) (by omega) (decide (i < 0)) z2 ht
    rw [md, Option.bind_some, hz]
  · have hm : mkD (if decide (i < 0) = true then -((tms i s u t : Nat) : Int) else ((tms i s u t : Nat) : Int)) 0 = (nil0, 3) := by
      unfold mkD; rw [if_neg (by rw [hna]; exact h)]
    have hle : tms i s u t ≤ tms i s u t * u := Nat.le_mul_of_pos_right _ h0
    rw [hm]
    dsimp only
    rw [show ((3 : Int) != 0) = true from rfl, cond_true]
    unfold mkD
    rw [if_neg (by rw [hnb]; omega)]
    rfl
end Go.Proofs.Ytlaogfkgkpgofaa.Pure
