/- What sums on numbers with places after the point compute: the whole of dec's sums, told by whole numbers. No conditions but size. -/
import Derived.Test.YtlaogfkgkpgofaaDt
namespace Go.Proofs.Ytlaogfkgkpgofaa.Pure
set_option linter.unusedVariables false
set_option linter.unusedSimpArgs false
open Go Go.Ev Go.Lm Go.Pu
/-- A number as two words. -/
def w2 (n : Nat) : Int × Int := (((n % 18446744073709551616 : Nat) : Int), ((n / 18446744073709551616 : Nat) : Int))
theorem W2_w2 {n : Nat} (h : n < 340282366920938463463374607431768211456) : W2 (w2 n) := by
  unfold w2 W2 Wd
  dsimp only
  omega
theorem N2_w2 (n : Nat) : N2 (w2 n) = (n : Int) := by
  unfold w2 N2
  dsimp only
  omega
theorem w2_of {x : Int × Int} (h : W2 x) {n : Nat} (hn : N2 x = (n : Int)) : x = w2 n := by
  have hb := N2_bd h
  exact N2_inj h (W2_w2 (by omega)) (by rw [hn, N2_w2])
/-- The number i at s places. -/
def DV (i : Int) (s : Nat) : Sapi_Dec := ⟨decide (i < 0), w2 i.natAbs, (s : Int)⟩
def Sm (i : Int) : Prop := i.natAbs < 1000000000000000000000000000000
def nil0 : Sapi_Dec := ⟨false, (0, 0), 0⟩
/-- The number that a sum is, or the word that it does not fit. -/
def mkD (v : Int) (m : Nat) : Sapi_Dec × Int := if v.natAbs < 1000000000000000000000000000000 then (DV v m, 0) else (nil0, 3)
theorem small_all {k : Nat} (hk : 60 < k) {x : Int × Int} (hx : W2 x) : dec_small.f k x = some (decide (N2 x < 1000000000000000000000000000000)) := by
  unfold dec_small.f dec_ten.f
  obtain ⟨t, t1, t2, t3⟩ := Ten_eq (k := k) hk (i := 30) (by decide)
  have t1' : limb_Ten.f k 30 = some (t, true) := t1
  rw [t1', Option.bind_some, Option.bind_some]
  obtain ⟨j, rfl⟩ : ∃ j, k = j + 3 := ⟨k - 3, by omega⟩
  have e : limb_Cmp.f (j + 3) (x.1, x.2) (t.1, t.2) = _ := Cmp_eq j hx t2
  rw [e, Option.bind_some, t3, show (10 : Int) ^ 30 = 1000000000000000000000000000000 by decide]
  refine congrArg some ?_
  by_cases h : N2 x < 1000000000000000000000000000000
  · rw [if_pos h, decide_eq_true h]; rfl
  · rw [if_neg h, decide_eq_false h]; split <;> rfl
theorem nought_eq (k : Nat) {x : Int × Int} (hx : W2 x) : dec_nought.f k x = some (decide (N2 x = 0)) := by
  unfold dec_nought.f
  obtain ⟨a, b⟩ := x
  obtain ⟨⟨h1, h2⟩, h3, h4⟩ := hx
  dsimp only at *
  refine congrArg some ?_
  unfold N2
  dsimp only
  by_cases ha : a = 0
  · subst ha
    by_cases hb : b = 0
    · subst hb; rfl
    · rw [show ((b == 0) : Bool) = false by simp [hb], Bool.and_false, decide_eq_false (by omega)]
  · rw [show ((a == 0) : Bool) = false by simp [ha], Bool.false_and, decide_eq_false (by omega)]
/-- Which decimals are right: a number at 0 to 9 places. -/
theorem Right_all {k : Nat} (hk : 60 < k) {d : Sapi_Dec} (hw : W2 d.f_C) : ∃ b, dec_Right.f k d = some b ∧ (b = true → ∃ i s, Sm i ∧ s ≤ 9 ∧ d = DV i s) := by
  obtain ⟨n, c, z⟩ := d
  unfold dec_Right.f
  dsimp only at hw ⊢
  have e1 : dec_small.f k (c.1, c.2) = some (decide (N2 c < 1000000000000000000000000000000)) := small_all hk hw
  have e2 : dec_nought.f k (c.1, c.2) = some (decide (N2 c = 0)) := nought_eq k hw
  rw [e1, Option.bind_some, e2]
  have hb := N2_bd hw
  by_cases h1 : N2 c < 1000000000000000000000000000000
  · rw [ct h1]
    by_cases h2 : z ≥ 0
    · rw [ct h2]
      by_cases h3 : z ≤ 9
      · rw [ct h3]
        have hs : z = ((z.toNat : Nat) : Int) := by omega
        have hc : c = w2 (N2 c).toNat := w2_of hw (by omega)
        cases n
        · refine ⟨true, rfl, fun _ => ⟨N2 c, z.toNat, ?_, by omega, ?_⟩⟩
          · unfold Sm; omega
          · unfold DV
            rw [decide_eq_false (by omega), show (N2 c).natAbs = (N2 c).toNat by omega, ← hc, ← hs]
        · rw [cond_true, Option.bind_some]
          refine ⟨_, rfl, fun hn => ⟨-(N2 c), z.toNat, ?_, by omega, ?_⟩⟩
          · unfold Sm; omega
          · simp only [Bool.not_eq_true', decide_eq_false_iff_not] at hn
            unfold DV
            rw [decide_eq_true (by omega), show (-(N2 c)).natAbs = (N2 c).toNat by omega, ← hc, ← hs]
      · rw [cf h3]; exact ⟨_, rfl, fun h => by cases h⟩
    · rw [cf h2]; exact ⟨_, rfl, fun h => by cases h⟩
  · rw [cf h1]; exact ⟨_, rfl, fun h => by cases h⟩
theorem Sm_w2 {i : Int} (h : Sm i) : W2 (w2 i.natAbs) := W2_w2 (by unfold Sm at h; omega)
theorem Right_DV {k : Nat} (hk : 60 < k) {i : Int} {s : Nat} (hi : Sm i) (hs : s ≤ 9) : dec_Right.f k (DV i s) = some true := by
  unfold dec_Right.f DV
  dsimp only
  have e1 : dec_small.f k ((w2 i.natAbs).1, (w2 i.natAbs).2) = some (decide (N2 (w2 i.natAbs) < 1000000000000000000000000000000)) := small_all hk (Sm_w2 hi)
  have e2 : dec_nought.f k ((w2 i.natAbs).1, (w2 i.natAbs).2) = some (decide (N2 (w2 i.natAbs) = 0)) := nought_eq k (Sm_w2 hi)
  unfold Sm at hi
  rw [e1, Option.bind_some, e2, N2_w2, ct (by omega), ct (by omega), ct (by omega)]
  by_cases h : i < 0
  · rw [ct h, Option.bind_some, decide_eq_false (by omega)]; rfl
  · rw [cf h]
theorem Sign_DV {k : Nat} (hk : 60 < k) {i : Int} {s : Nat} (hi : Sm i) (hs : s ≤ 9) : dec_Sign.f k (DV i s) = some (if i = 0 then 0 else if i < 0 then -1 else 1) := by
  unfold dec_Sign.f
  have h : dec_Right.f k ⟨(DV i s).f_Neg, ((DV i s).f_C.1, (DV i s).f_C.2), (DV i s).f_Scale⟩ = some true := Right_DV hk hi hs
  have e2 : dec_nought.f k ((DV i s).f_C.1, (DV i s).f_C.2) = some (decide (N2 (w2 i.natAbs) = 0)) := nought_eq k (Sm_w2 hi)
  rw [h, Option.bind_some, Bool.not_true, cond_false, e2, Option.bind_some, Option.bind_some, N2_w2]
  dsimp only
  unfold DV
  dsimp only
  by_cases h0 : i = 0
  · rw [ct (by omega), if_pos h0]
  · rw [cf (by omega), if_neg h0]
    by_cases h1 : i < 0
    · rw [ct h1, if_pos h1]
    · rw [cf h1, if_neg h1]
theorem Neg_DV {k : Nat} (hk : 60 < k) {i : Int} {s : Nat} (hi : Sm i) (hs : s ≤ 9) : dec_Neg.f k (DV i s) = some (DV (-i) s) := by
  unfold dec_Neg.f
  have h : dec_Right.f k ⟨(DV i s).f_Neg, ((DV i s).f_C.1, (DV i s).f_C.2), (DV i s).f_Scale⟩ = some true := Right_DV hk hi hs
  have e2 : dec_nought.f k ((DV i s).f_C.1, (DV i s).f_C.2) = some (decide (N2 (w2 i.natAbs) = 0)) := nought_eq k (Sm_w2 hi)
  rw [h, Option.bind_some, Bool.not_true, cond_false, e2, N2_w2]
  unfold DV
  dsimp only
  by_cases h1 : i < 0
  · rw [decide_eq_true h1, Bool.not_true, cond_false, decide_eq_false (show ¬ (-i < 0) by omega), Int.natAbs_neg]
  · rw [decide_eq_false h1, Bool.not_false, cond_true, Option.bind_some, Int.natAbs_neg]
    by_cases h0 : i = 0
    · subst h0; rfl
    · rw [decide_eq_false (show ¬ ((i.natAbs : Int) = 0) by omega), decide_eq_true (show -i < 0 by omega)]; rfl
theorem made_eq {k : Nat} (hk : 60 < k) (neg : Bool) {x : Int × Int × Int × Int} (hx : W4 x) (s : Nat) : dec_made.f k neg x (s : Int) = some (mkD (if neg then -(N4 x) else N4 x) s) := by
  unfold dec_made.f mkD
  obtain ⟨z, b, z1, z2, z3, z4, z5⟩ := Short_eq k hx
  have z1' : limb_Short.f k (x.1, x.2.1, x.2.2.1, x.2.2.2) = some (z, b) := z1
  have hb := N4_bd hx
  rw [z1', Option.bind_some]
  have e1 : dec_small.f k (z.1, z.2) = some (decide (N2 z < 1000000000000000000000000000000)) := small_all hk z2
  have e2 : dec_nought.f k (z.1, z.2) = some (decide (N2 z = 0)) := nought_eq k z2
  have hna : (if neg = true then -(N4 x) else N4 x).natAbs = (N4 x).natAbs := by split <;> omega
  rw [hna]
  cases b
  · have : ¬ N4 x < 340282366920938463463374607431768211456 := fun h => by have := z3.2 h; cases this
    rw [Bool.not_false, cond_true, Option.bind_some, if_neg (by omega)]
    rfl
  · have hN := z4 rfl
    rw [Bool.not_true, cond_false, e1, Option.bind_some, Option.bind_some, e2, hN]
    dsimp only
    by_cases h : N4 x < 1000000000000000000000000000000
    · rw [decide_eq_true h, Bool.not_true, cond_false, if_pos (by omega)]
      have hz : z = w2 (N4 x).natAbs := w2_of z2 (by omega)
      unfold DV
      rw [hna, ← hz]
      cases neg
      · rw [cond_false]
        refine congrArg some ?_
        rw [decide_eq_false]
        simp only [Bool.false_eq_true, if_false]
        omega
      · rw [cond_true, Option.bind_some]
        refine congrArg some ?_
        have : (!decide (N4 x = 0)) = decide ((if true = true then -(N4 x) else N4 x) < 0) := by
          rw [if_pos rfl]
          by_cases h0 : N4 x = 0
          · rw [decide_eq_true h0, decide_eq_false (by omega)]; rfl
          · rw [decide_eq_false h0, decide_eq_true (by omega)]; rfl
        rw [this]
    · rw [decide_eq_false h, Bool.not_false, cond_true, if_neg (by omega)]
      rfl
theorem wide_eq {k : Nat} (hk : 60 < k) (n : Bool) {c : Int × Int} (hc : W2 c) {s t : Nat} (hst : s ≤ t) (ht : t ≤ s + 38) (h9 : t ≤ 100) : ∃ z, dec_wide.f k ⟨n, c, (s : Int)⟩ (t : Int) = some z ∧ W4 z ∧ N4 z = N2 c * 10 ^ (t - s) := by
  unfold dec_wide.f dec_ten.f
  dsimp only
  obtain ⟨u, u1, u2, u3⟩ := Ten_eq hk (i := t - s) (by omega)
  rw [wrapi (by omega), show (t : Int) - (s : Int) = ((t - s : Nat) : Int) by omega, u1, Option.bind_some, Option.bind_some]
  obtain ⟨z, z1, z2, z3⟩ := Mul_eq (k := k) (by omega) hc u2
  have z1' : limb_Mul.f k (c.1, c.2) (u.1, u.2) = some z := z1
  dsimp only
  rw [z1', Option.bind_some]
  exact ⟨z, rfl, z2, by rw [z3, u3]⟩
theorem not2 {x : Int × Int} (hx : W2 x) : W2 (bits .xor .u64 18446744073709551615 x.1, bits .xor .u64 18446744073709551615 x.2) ∧ N2 (bits .xor .u64 18446744073709551615 x.1, bits .xor .u64 18446744073709551615 x.2) = 340282366920938463463374607431768211455 - N2 x := by
  obtain ⟨a, b⟩ := x
  obtain ⟨⟨h1, h2⟩, h3, h4⟩ := hx
  dsimp only at *
  obtain ⟨a', rfl⟩ := Int.eq_ofNat_of_zero_le h1
  obtain ⟨b', rfl⟩ := Int.eq_ofNat_of_zero_le h3
  rw [not64 (by omega), not64 (by omega)]
  unfold W2 Wd N2
  dsimp only
  omega
def lo (x : Int × Int × Int × Int) : Int × Int := (x.1, x.2.1)
def hi (x : Int × Int × Int × Int) : Int × Int := (x.2.2.1, x.2.2.2)
theorem N4_halves (x : Int × Int × Int × Int) : N4 x = N2 (lo x) + 340282366920938463463374607431768211456 * N2 (hi x) := by
  unfold N4 N2 lo hi
  dsimp only
  omega
theorem W2_lo {x : Int × Int × Int × Int} (h : W4 x) : W2 (lo x) := ⟨h.1, h.2.1⟩
theorem W2_hi {x : Int × Int × Int × Int} (h : W4 x) : W2 (hi x) := ⟨h.2.2.1, h.2.2.2⟩
theorem W2_one : W2 (1, 0) := W2_of ⟨by decide, by decide⟩
theorem plus4 (k : Nat) {x y : Int × Int × Int × Int} (hx : W4 x) (hy : W4 y) (bx : N4 x < 28948022309329048855892746252171976963317496166410141009864396001978282409984) (by_ : N4 y < 28948022309329048855892746252171976963317496166410141009864396001978282409984) :
    ∃ z, dec_plus.f k x y = some z ∧ W4 z ∧ N4 z = N4 x + N4 y := by
  have h1 := N4_halves x
  have h2 := N4_halves y
  have l1 := N2_bd (W2_lo hx)
  have l2 := N2_bd (W2_lo hy)
  have m1 := N2_bd (W2_hi hx)
  have m2 := N2_bd (W2_hi hy)
  unfold dec_plus.f dec_halves.f
  rw [Option.bind_some, Option.bind_some]
  dsimp only
  obtain ⟨a, b, a1, a2, a3, a4, a5⟩ := Add_eq k (W2_hi hx) (W2_hi hy)
  obtain rfl : b = true := a5.2 (by omega)
  have a1' : limb_Add.f k (x.2.2.1, x.2.2.2) (y.2.2.1, y.2.2.2) = some (a, true) := a1
  have a3 := a3 rfl
  obtain ⟨c, e, c1, c2, c3, c4, c5⟩ := Add_eq k (W2_lo hx) (W2_lo hy)
  have c1' : limb_Add.f k (x.1, x.2.1) (y.1, y.2.1) = some (c, e) := c1
  rw [a1', Option.bind_some, c1', Option.bind_some]
  cases e
  · have hov : ¬ N2 (lo x) + N2 (lo y) < 340282366920938463463374607431768211456 := fun h => by have := c5.2 h; cases this
    rw [Bool.not_false, cond_true]
    obtain ⟨n1, n2⟩ := not2 (W2_lo hx)
    obtain ⟨d, f, d1, d2, d3, d4, d5⟩ := Sub_eq k (W2_lo hy) n1
    obtain rfl : f = true := d5.2 (by omega)
    have d1' : limb_Sub.f k (y.1, y.2.1) (bits .xor .u64 18446744073709551615 x.1, bits .xor .u64 18446744073709551615 x.2.1) = some (d, true) := d1
    have d3 := d3 rfl
    rw [d1', Option.bind_some, Of_eq, Option.bind_some]
    obtain ⟨g, f, g1, g2, g3, g4, g5⟩ := Sub_eq k d2 W2_one
    have hone : N2 (1, 0) = 1 := N2_of 1
    obtain rfl : f = true := g5.2 (by omega)
    have g1' : limb_Sub.f k (d.1, d.2) (1, 0) = some (g, true) := g1
    have g3 := g3 rfl
    dsimp only
    rw [g1', Option.bind_some, Option.bind_some]
    obtain ⟨u, f, u1, u2, u3, u4, u5⟩ := Add_eq k a2 W2_one
    obtain rfl : f = true := u5.2 (by omega)
    have u1' : limb_Add.f k (a.1, a.2) (1, 0) = some (u, true) := u1
    have u3 := u3 rfl
    rw [u1', Option.bind_some, Option.bind_some]
    refine ⟨_, rfl, ⟨g2.1, g2.2, u2.1, u2.2⟩, ?_⟩
    rw [N4_halves]
    show N2 g + 340282366920938463463374607431768211456 * N2 u = _
    omega
  · rw [Bool.not_true, cond_false, Option.bind_some]
    have c3 := c3 rfl
    refine ⟨_, rfl, ⟨c2.1, c2.2, a2.1, a2.2⟩, ?_⟩
    rw [N4_halves]
    show N2 c + 340282366920938463463374607431768211456 * N2 a = _
    omega
theorem less4 (k : Nat) {x y : Int × Int × Int × Int} (hx : W4 x) (hy : W4 y) (h : N4 y ≤ N4 x) :
    ∃ z, dec_less.f k x y = some z ∧ W4 z ∧ N4 z = N4 x - N4 y := by
  have h1 := N4_halves x
  have h2 := N4_halves y
  have l1 := N2_bd (W2_lo hx)
  have l2 := N2_bd (W2_lo hy)
  have m1 := N2_bd (W2_hi hx)
  have m2 := N2_bd (W2_hi hy)
  unfold dec_less.f dec_halves.f
  rw [Option.bind_some, Option.bind_some]
  dsimp only
  obtain ⟨a, b, a1, a2, a3, a4, a5⟩ := Sub_eq k (W2_hi hx) (W2_hi hy)
  obtain rfl : b = true := a5.2 (by omega)
  have a1' : limb_Sub.f k (x.2.2.1, x.2.2.2) (y.2.2.1, y.2.2.2) = some (a, true) := a1
  have a3 := a3 rfl
  obtain ⟨c, e, c1, c2, c3, c4, c5⟩ := Sub_eq k (W2_lo hx) (W2_lo hy)
  have c1' : limb_Sub.f k (x.1, x.2.1) (y.1, y.2.1) = some (c, e) := c1
  rw [a1', Option.bind_some, c1', Option.bind_some]
  cases e
  · have hov : ¬ N2 (lo y) ≤ N2 (lo x) := fun h => by have := c5.2 h; cases this
    rw [Bool.not_false, cond_true]
    obtain ⟨d, f, d1, d2, d3, d4, d5⟩ := Sub_eq k (W2_lo hy) (W2_lo hx)
    obtain rfl : f = true := d5.2 (by omega)
    have d1' : limb_Sub.f k (y.1, y.2.1) (x.1, x.2.1) = some (d, true) := d1
    have d3 := d3 rfl
    rw [d1', Option.bind_some, Of_eq, Option.bind_some]
    obtain ⟨g, f, g1, g2, g3, g4, g5⟩ := Sub_eq k d2 W2_one
    have hone : N2 (1, 0) = 1 := N2_of 1
    obtain rfl : f = true := g5.2 (by omega)
    have g1' : limb_Sub.f k (d.1, d.2) (1, 0) = some (g, true) := g1
    have g3 := g3 rfl
    dsimp only
    rw [g1', Option.bind_some, Option.bind_some]
    obtain ⟨u, f, u1, u2, u3, u4, u5⟩ := Sub_eq k a2 W2_one
    obtain rfl : f = true := u5.2 (by omega)
    have u1' : limb_Sub.f k (a.1, a.2) (1, 0) = some (u, true) := u1
    have u3 := u3 rfl
    rw [u1', Option.bind_some, Option.bind_some]
    obtain ⟨n1, n2⟩ := not2 g2
    refine ⟨_, rfl, ⟨n1.1, n1.2, u2.1, u2.2⟩, ?_⟩
    rw [N4_halves]
    show N2 (bits .xor .u64 18446744073709551615 g.1, bits .xor .u64 18446744073709551615 g.2) + 340282366920938463463374607431768211456 * N2 u = _
    omega
  · rw [Bool.not_true, cond_false, Option.bind_some]
    have c3 := c3 rfl
    refine ⟨_, rfl, ⟨c2.1, c2.2, a2.1, a2.2⟩, ?_⟩
    rw [N4_halves]
    show N2 c + 340282366920938463463374607431768211456 * N2 a = _
    omega
theorem cmp_step (k : Nat) {a0 a1 a2 a3 b0 b1 b2 b3 : Int} {i : Nat} (hi : i < 4) : dec_cmp.l2.once k ((i : Int), [a0, a1, a2, a3], [b0, b1, b2, b3]) = cond ([a0, a1, a2, a3].getD i 0 != [b0, b1, b2, b3].getD i 0) (cond (decide ([a0, a1, a2, a3].getD i 0 < [b0, b1, b2, b3].getD i 0)) (some (.inr (.inr (-1)))) (some (.inr (.inr 1)))) (some (.inl ((i : Int) - 1, [a0, a1, a2, a3], [b0, b1, b2, b3]))) := by
  unfold dec_cmp.l2.once
  dsimp only
  rw [ct (by omega), inb_t (by omega) (by omega), cond_true, Int.toNat_natCast, blt_t hi, cond_true, cond_true, cond_true, cond_true, cond_true, cond_true, cond_true, wrapi (by omega)]
theorem cmp4 {k : Nat} (hk : 5 < k) {x y : Int × Int × Int × Int} (hx : W4 x) (hy : W4 y) : dec_cmp.f k x y = some (if N4 x < N4 y then -1 else if N4 x = N4 y then 0 else 1) := by
  obtain ⟨j, rfl⟩ : ∃ j, k = j + 5 := ⟨k - 5, by omega⟩
  obtain ⟨a0, a1, a2, a3⟩ := x
  obtain ⟨b0, b1, b2, b3⟩ := y
  obtain ⟨⟨_, _⟩, ⟨_, _⟩, ⟨_, _⟩, _, _⟩ := hx
  obtain ⟨⟨_, _⟩, ⟨_, _⟩, ⟨_, _⟩, _, _⟩ := hy
  unfold dec_cmp.f N4
  dsimp only at *
  have s3 : dec_cmp.l2.once (j + 5) (3, [a0, a1, a2, a3], [b0, b1, b2, b3]) = cond (a3 != b3) (cond (decide (a3 < b3)) (some (.inr (.inr (-1)))) (some (.inr (.inr 1)))) (some (.inl (((3 : Nat) : Int) - 1, [a0, a1, a2, a3], [b0, b1, b2, b3]))) := cmp_step (j + 5) (i := 3) (by decide)
  have s2 : dec_cmp.l2.once (j + 5) (((3 : Nat) : Int) - 1, [a0, a1, a2, a3], [b0, b1, b2, b3]) = cond (a2 != b2) (cond (decide (a2 < b2)) (some (.inr (.inr (-1)))) (some (.inr (.inr 1)))) (some (.inl (((2 : Nat) : Int) - 1, [a0, a1, a2, a3], [b0, b1, b2, b3]))) := cmp_step (j + 5) (i := 2) (by decide)
  have s1 : dec_cmp.l2.once (j + 5) (((2 : Nat) : Int) - 1, [a0, a1, a2, a3], [b0, b1, b2, b3]) = cond (a1 != b1) (cond (decide (a1 < b1)) (some (.inr (.inr (-1)))) (some (.inr (.inr 1)))) (some (.inl (((1 : Nat) : Int) - 1, [a0, a1, a2, a3], [b0, b1, b2, b3]))) := cmp_step (j + 5) (i := 1) (by decide)
  have s0 : dec_cmp.l2.once (j + 5) (((1 : Nat) : Int) - 1, [a0, a1, a2, a3], [b0, b1, b2, b3]) = cond (a0 != b0) (cond (decide (a0 < b0)) (some (.inr (.inr (-1)))) (some (.inr (.inr 1)))) (some (.inl (((0 : Nat) : Int) - 1, [a0, a1, a2, a3], [b0, b1, b2, b3]))) := cmp_step (j + 5) (i := 0) (by decide)
  have s : dec_cmp.l2.once (j + 5) (((0 : Nat) : Int) - 1, [a0, a1, a2, a3], [b0, b1, b2, b3]) = some (.inr (.inl ())) := by unfold dec_cmp.l2.once; rfl
  have way : ∀ {a b : Int} {n : Nat} {u v : (Int × List Int × List Int)}, dec_cmp.l2.once (j + 5) u = cond (a != b) (cond (decide (a < b)) (some (.inr (.inr (-1)))) (some (.inr (.inr 1)))) (some (.inl v)) → iter (dec_cmp.l2.once (j + 5)) (n + 1) u = if a < b then some (.inr (-1)) else if a = b then iter (dec_cmp.l2.once (j + 5)) n v else some (.inr 1) := by
    intro a b n u v h
    by_cases he : a = b
    · subst he
      rw [bne_self_eq_false, cond_false] at h
      rw [iter_step h, if_neg (by omega), if_pos rfl]
    · rw [show (a != b) = true by simp [he], cond_true] at h
      by_cases hlt : a < b
      · rw [ct hlt] at h
        rw [iter_stop h, if_pos hlt]
      · rw [cf hlt] at h
        rw [iter_stop h, if_neg hlt, if_neg he]
  rw [way (n := j + 4) s3, way (n := j + 3) s2, way (n := j + 2) s1, way (n := j + 1) s0, iter_stop s]
  by_cases g3 : a3 < b3
  · rw [if_pos g3, if_pos (by omega)]; rfl
  rw [if_neg g3]
  by_cases e3 : a3 = b3
  · rw [if_pos e3]
    by_cases g2 : a2 < b2
    · rw [if_pos g2, if_pos (by omega)]; rfl
    rw [if_neg g2]
    by_cases e2 : a2 = b2
    · rw [if_pos e2]
      by_cases g1 : a1 < b1
      · rw [if_pos g1, if_pos (by omega)]; rfl
      rw [if_neg g1]
      by_cases e1 : a1 = b1
      · rw [if_pos e1]
        by_cases g0 : a0 < b0
        · rw [if_pos g0, if_pos (by omega)]; rfl
        rw [if_neg g0]
        by_cases e0 : a0 = b0
        · rw [if_pos e0, if_neg (by omega), if_pos (by omega)]; rfl
        · rw [if_neg e0, if_neg (by omega), if_neg (by omega)]; rfl
      · rw [if_neg e1, if_neg (by omega), if_neg (by omega)]; rfl
    · rw [if_neg e2, if_neg (by omega), if_neg (by omega)]; rfl
  · rw [if_neg e3, if_neg (by omega), if_neg (by omega)]; rfl
theorem ten9 {a : Nat} (h : a ≤ 9) : (10 : Nat) ^ a ≤ 1000000000 := Nat.le_trans (Nat.pow_le_pow_right (by decide) h) (by decide)
theorem mx (s t : Nat) : (if (t : Int) > (s : Int) then (t : Int) else (s : Int)) = ((max s t : Nat) : Int) := by split <;> omega
/-- The sum of two. -/
theorem Add_DV {k : Nat} (hk : 60 < k) {i j : Int} {s t : Nat} (hi : Sm i) (hj : Sm j) (hs : s ≤ 9) (ht : t ≤ 9) : dec_Add.f k (DV i s) (DV j t) = some (mkD (i * 10 ^ (max s t - s) + j * 10 ^ (max s t - t)) (max s t)) := by
  have r1 : dec_Right.f k ⟨decide (i < 0), ((w2 i.natAbs).1, (w2 i.natAbs).2), (s : Int)⟩ = some true := Right_DV hk hi hs
  have r2 : dec_Right.f k ⟨decide (j < 0), ((w2 j.natAbs).1, (w2 j.natAbs).2), (t : Int)⟩ = some true := Right_DV hk hj ht
  obtain ⟨x, x1, x2, x3⟩ := wide_eq hk (decide (i < 0)) (Sm_w2 hi) (s := s) (t := max s t) (by omega) (by omega) (by omega)
  obtain ⟨y, y1, y2, y3⟩ := wide_eq hk (decide (j < 0)) (Sm_w2 hj) (s := t) (t := max s t) (by omega) (by omega) (by omega)
  have x1' : dec_wide.f k ⟨decide (i < 0), ((w2 i.natAbs).1, (w2 i.natAbs).2), (s : Int)⟩ ((max s t : Nat) : Int) = some x := x1
  have y1' : dec_wide.f k ⟨decide (j < 0), ((w2 j.natAbs).1, (w2 j.natAbs).2), (t : Int)⟩ ((max s t : Nat) : Int) = some y := y1
  rw [N2_w2] at x3 y3
  have p1 := ten9 (show max s t - s ≤ 9 by omega)
  have p2 := ten9 (show max s t - t ≤ 9 by omega)
  have q1 : (i.natAbs * 10 ^ (max s t - s) : Nat) ≤ 1000000000000000000000000000000 * 1000000000 := Nat.mul_le_mul (by unfold Sm at hi; omega) p1
  have q2 : (j.natAbs * 10 ^ (max s t - t) : Nat) ≤ 1000000000000000000000000000000 * 1000000000 := Nat.mul_le_mul (by unfold Sm at hj; omega) p2
  have cx : N4 x = ((i.natAbs * 10 ^ (max s t - s) : Nat) : Int) := by rw [x3, Int.natCast_mul, Int.natCast_pow]; rfl
  have cy : N4 y = ((j.natAbs * 10 ^ (max s t - t) : Nat) : Int) := by rw [y3, Int.natCast_mul, Int.natCast_pow]; rfl
  have vx : i * 10 ^ (max s t - s) = if i < 0 then -(N4 x) else N4 x := by
    rw [x3]
    by_cases h : i < 0
    · rw [if_pos h, show ((i.natAbs : Nat) : Int) = -i by omega, Int.neg_mul, Int.neg_neg]
    · rw [if_neg h, show ((i.natAbs : Nat) : Int) = i by omega]
  have vy : j * 10 ^ (max s t - t) = if j < 0 then -(N4 y) else N4 y := by
    rw [y3]
    by_cases h : j < 0
    · rw [if_pos h, show ((j.natAbs : Nat) : Int) = -j by omega, Int.neg_mul, Int.neg_neg]
    · rw [if_neg h, show ((j.natAbs : Nat) : Int) = j by omega]
  rw [vx, vy]
  generalize i.natAbs * 10 ^ (max s t - s) = M at *
  generalize j.natAbs * 10 ^ (max s t - t) = N at *
  clear vx vy x3 y3 p1 p2
  unfold dec_Add.f DV
  dsimp only
  rw [r1, Option.bind_some, Bool.not_true, cond_false, r2, Option.bind_some, Bool.not_true, Option.bind_some]
  dsimp only
  rw [cond_false, mx, x1', Option.bind_some, y1', Option.bind_some]
  by_cases hi0 : i < 0
  · rw [if_pos hi0, decide_eq_true hi0]
    by_cases hj0 : j < 0
    · rw [if_pos hj0, decide_eq_true hj0, show ((true == true) : Bool) = true from rfl, cond_true]
      obtain ⟨z, z1, z2, z3⟩ := plus4 k x2 y2 (by omega) (by omega)
      have z1' : dec_plus.f k (x.1, x.2.1, x.2.2.1, x.2.2.2) (y.1, y.2.1, y.2.2.1, y.2.2.2) = some z := z1
      have m : dec_made.f k true (z.1, z.2.1, z.2.2.1, z.2.2.2) ((max s t : Nat) : Int) = _ := made_eq hk true z2 (max s t)
      rw [z1', Option.bind_some, m, Option.bind_some, if_pos rfl, z3, show -(N4 x) + -(N4 y) = -(N4 x + N4 y) by omega]
    · rw [if_neg hj0, decide_eq_false hj0, show ((true == false) : Bool) = false from rfl, cond_false]
      have c : dec_cmp.f k (x.1, x.2.1, x.2.2.1, x.2.2.2) (y.1, y.2.1, y.2.2.1, y.2.2.2) = _ := cmp4 (k := k) (by omega) x2 y2
      rw [c, Option.bind_some]
      by_cases hlt : N4 x < N4 y
      · rw [if_pos hlt, cf (by omega)]
        obtain ⟨z, z1, z2, z3⟩ := less4 k y2 x2 (by omega)
        have z1' : dec_less.f k (y.1, y.2.1, y.2.2.1, y.2.2.2) (x.1, x.2.1, x.2.2.1, x.2.2.2) = some z := z1
        have m : dec_made.f k false (z.1, z.2.1, z.2.2.1, z.2.2.2) ((max s t : Nat) : Int) = _ := made_eq hk false z2 (max s t)
        rw [z1', Option.bind_some, m, Option.bind_some, if_neg (by decide), z3, show -(N4 x) + N4 y = N4 y - N4 x by omega]
      · rw [if_neg hlt, ct (by split <;> decide)]
        obtain ⟨z, z1, z2, z3⟩ := less4 k x2 y2 (by omega)
        have z1' : dec_less.f k (x.1, x.2.1, x.2.2.1, x.2.2.2) (y.1, y.2.1, y.2.2.1, y.2.2.2) = some z := z1
        have m : dec_made.f k true (z.1, z.2.1, z.2.2.1, z.2.2.2) ((max s t : Nat) : Int) = _ := made_eq hk true z2 (max s t)
        rw [z1', Option.bind_some, m, Option.bind_some, if_pos rfl, z3, show -(N4 x) + N4 y = -(N4 x - N4 y) by omega]
  · rw [if_neg hi0, decide_eq_false hi0]
    by_cases hj0 : j < 0
    · rw [if_pos hj0, decide_eq_true hj0, show ((false == true) : Bool) = false from rfl, cond_false]
      have c : dec_cmp.f k (x.1, x.2.1, x.2.2.1, x.2.2.2) (y.1, y.2.1, y.2.2.1, y.2.2.2) = _ := cmp4 (k := k) (by omega) x2 y2
      rw [c, Option.bind_some]
      by_cases hlt : N4 x < N4 y
      · rw [if_pos hlt, cf (by omega)]
        obtain ⟨z, z1, z2, z3⟩ := less4 k y2 x2 (by omega)
        have z1' : dec_less.f k (y.1, y.2.1, y.2.2.1, y.2.2.2) (x.1, x.2.1, x.2.2.1, x.2.2.2) = some z := z1
        have m : dec_made.f k true (z.1, z.2.1, z.2.2.1, z.2.2.2) ((max s t : Nat) : Int) = _ := made_eq hk true z2 (max s t)
        rw [z1', Option.bind_some, m, Option.bind_some, if_pos rfl, z3, show N4 x + -(N4 y) = -(N4 y - N4 x) by omega]
      · rw [if_neg hlt, ct (by split <;> decide)]
        obtain ⟨z, z1, z2, z3⟩ := less4 k x2 y2 (by omega)
        have z1' : dec_less.f k (x.1, x.2.1, x.2.2.1, x.2.2.2) (y.1, y.2.1, y.2.2.1, y.2.2.2) = some z := z1
        have m : dec_made.f k false (z.1, z.2.1, z.2.2.1, z.2.2.2) ((max s t : Nat) : Int) = _ := made_eq hk false z2 (max s t)
        rw [z1', Option.bind_some, m, Option.bind_some, if_neg (by decide), z3, show N4 x + -(N4 y) = N4 x - N4 y by omega]
    · rw [if_neg hj0, decide_eq_false hj0, show ((false == false) : Bool) = true from rfl, cond_true]
      obtain ⟨z, z1, z2, z3⟩ := plus4 k x2 y2 (by omega) (by omega)
      have z1' : dec_plus.f k (x.1, x.2.1, x.2.2.1, x.2.2.2) (y.1, y.2.1, y.2.2.1, y.2.2.2) = some z := z1
      have m : dec_made.f k false (z.1, z.2.1, z.2.2.1, z.2.2.2) ((max s t : Nat) : Int) = _ := made_eq hk false z2 (max s t)
      rw [z1', Option.bind_some, m, Option.bind_some, if_neg (by decide), z3]
end Go.Proofs.Ytlaogfkgkpgofaa.Pure
