/- What quant's quotients and units compute, halves to even. No conditions but size. -/
import Derived.Test.YtlaogfkgkpgofaaDd
import Derived.Test.YtlaogfkgkpgofaaVl
namespace Go.Proofs.Ytlaogfkgkpgofaa.Pure
set_option linter.unusedVariables false
set_option linter.unusedSimpArgs false
open Go Go.Ev Go.Lm Go.Pu Go.Dg
/-- A quotient to the nearest, a half to the even one. -/
def hev (n d : Nat) : Nat := if 2 * (n % d) > d ∨ (2 * (n % d) = d ∧ n / d % 2 = 1) then n / d + 1 else n / d
theorem Wide_eq (k : Nat) (x : Int × Int) : limb_Wide.f k x = some (x.1, x.2, 0, 0) := rfl
theorem qmade_eq {k : Nat} (hk : 60 < k) (neg : Bool) {x : Int × Int × Int × Int} (hx : W4 x) {s : Nat} (hs : s ≤ 9) : quant_made.f k neg x (s : Int) = some (mkD (if neg then -(N4 x) else N4 x) s) := by
  unfold quant_made.f mkD
  obtain ⟨z, b, z1, z2, z3, z4, z5⟩ := Short_eq k hx
  have z1' : limb_Short.f k (x.1, x.2.1, x.2.2.1, x.2.2.2) = some (z, b) := z1
  have hb := N4_bd hx
  rw [z1', Option.bind_some]
  have hna : (if neg = true then -(N4 x) else N4 x).natAbs = (N4 x).natAbs := by split <;> omega
  rw [hna]
  have hnz : (!((z.1 == 0) && (z.2 == 0))) = !decide (N2 z = 0) := by
    have e := nought_eq k z2
    unfold dec_nought.f at e
    rw [Option.some.inj e]
  have hj : (cond neg (some (b, false, 0, 0, 0, !((z.1 == 0) && (z.2 == 0)), z.1, z.2, (s : Int))) (some (b, false, 0, 0, 0, false, z.1, z.2, (s : Int))) : Option (Bool × Bool × Int × Int × Int × Bool × Int × Int × Int)) = some (b, false, 0, 0, 0, neg && !decide (N2 z = 0), z.1, z.2, (s : Int)) := by
    rw [hnz]; cases neg <;> rfl
  rw [hj, Option.bind_some]
  dsimp only
  have hr : dec_Right.f k ⟨neg && !decide (N2 z = 0), (z.1, z.2), (s : Int)⟩ = some (dOk ⟨neg && !decide (N2 z = 0), z, (s : Int)⟩) := Right_val hk (d := ⟨neg && !decide (N2 z = 0), z, (s : Int)⟩) z2
  have hd : dOk ⟨neg && !decide (N2 z = 0), z, (s : Int)⟩ = decide (N2 z < 1000000000000000000000000000000) := by
    unfold dOk
    dsimp only
    rw [decide_eq_true (show (s : Int) ≥ 0 by omega), decide_eq_true (show (s : Int) ≤ 9 by omega)]
    cases neg <;> cases decide (N2 z = 0) <;> simp
  cases b
  · have : ¬ N4 x < 340282366920938463463374607431768211456 := fun h => by have := z3.2 h; cases this
    rw [Bool.not_false, cond_true, Option.bind_some, if_neg (by omega)]
    rfl
  · have hN := z4 rfl
    rw [Bool.not_true, cond_false, hr, hd, hN, Option.bind_some, Option.bind_some]
    dsimp only
    by_cases h : N4 x < 1000000000000000000000000000000
    · rw [decide_eq_true h, Bool.not_true, cond_false, if_pos (by omega)]
      have hz : z = w2 (N4 x).natAbs := w2_of z2 (by omega)
      unfold DV
      rw [hna, ← hz]
      cases neg
      · rw [Bool.false_and]
        refine congrArg some ?_
        rw [decide_eq_false]
        simp only [Bool.false_eq_true, if_false]
        omega
      · rw [Bool.true_and]
        refine congrArg some ?_
        have : (!decide (N4 x = 0)) = decide ((if true = true then -(N4 x) else N4 x) < 0) := by
          rw [if_pos rfl]
          by_cases h0 : N4 x = 0
          · rw [decide_eq_true h0, decide_eq_false (by omega)]; rfl
          · rw [decide_eq_false h0, decide_eq_true (by omega)]; rfl
        rw [this]
    · rw [decide_eq_false h, Bool.not_false, cond_true, if_neg (by omega)]
      rfl
theorem odd_eq {q : Int × Int} (hq : W2 q) : decide ((bits .and .u64 q.1 1) > 0) = decide (N2 q % 2 = 1) := by
  obtain ⟨a, b⟩ := q
  obtain ⟨⟨h1, h2⟩, h3, h4⟩ := hq
  dsimp only at *
  obtain ⟨a', rfl⟩ := Int.eq_ofNat_of_zero_le h1
  rw [and_one (by omega), decide_eq_decide]
  unfold N2
  dsimp only
  omega
theorem qfarther_eq {k : Nat} (hk : 5 < k) (neg odd : Bool) {r d : Int × Int} (hr : W2 r) (hd : W2 d) (hlt : N2 r < N2 d) : quant_farther.f k neg odd r d 4 = some (decide (2 * N2 r > N2 d ∨ (2 * N2 r = N2 d ∧ odd = true))) := by
  unfold quant_farther.f
  have hb := N2_bd hr
  have hz : ((r.1 == 0) && (r.2 == 0)) = decide (N2 r = 0) := by
    have e := nought_eq k hr
    unfold dec_nought.f at e
    exact Option.some.inj e
  rw [hz]
  by_cases h0 : N2 r = 0
  · rw [ct h0, decide_eq_false (by omega)]
  · rw [cf h0]
    obtain ⟨z, b, z1, z2, z3, z4, z5⟩ := Sub_eq k hd hr
    obtain rfl : b = true := z5.2 (by omega)
    have z3 := z3 rfl
    obtain ⟨j, rfl⟩ : ∃ j, k = j + 3 := ⟨k - 3, by omega⟩
    have hm : quant_middle.f (j + 3) (r.1, r.2) (d.1, d.2) = some (if N2 r < N2 z then -1 else if N2 r = N2 z then 0 else 1) := by
      unfold quant_middle.f
      have z1' : limb_Sub.f (j + 3) (d.1, d.2) (r.1, r.2) = some (z, true) := z1
      dsimp only
      rw [z1', Option.bind_some]
      have c : limb_Cmp.f (j + 3) (r.1, r.2) (z.1, z.2) = _ := Cmp_eq j hr z2
      dsimp only
      rw [c, Option.bind_some]
    rw [show ((4 : Int) == 1) = false from rfl, show ((4 : Int) == 2) = false from rfl, show ((4 : Int) == 3) = false from rfl, show ((4 : Int) == 4) = true from rfl, cond_false, cond_false, cond_false, cond_true, hm, Option.bind_some]
    by_cases h1 : N2 r < N2 z
    · rw [if_pos h1, decide_eq_false (show ¬ (2 * N2 r > N2 d ∨ (2 * N2 r = N2 d ∧ odd = true)) by rintro (h | ⟨h, _⟩) <;> omega)]; rfl
    · rw [if_neg h1]
      by_cases h2 : N2 r = N2 z
      · rw [if_pos h2]
        cases odd
        · have hno : ¬ (2 * N2 r > N2 d ∨ (2 * N2 r = N2 d ∧ false = true)) := by
            rintro (h | ⟨_, h⟩)
            · omega
            · cases h
          rw [decide_eq_false hno]; rfl
        · rw [decide_eq_true (show 2 * N2 r > N2 d ∨ (2 * N2 r = N2 d ∧ true = true) from .inr ⟨by omega, rfl⟩)]; rfl
      · rw [if_neg h2, decide_eq_true (show 2 * N2 r > N2 d ∨ (2 * N2 r = N2 d ∧ odd = true) from .inl (by omega))]; rfl
theorem qrounded_eq {k : Nat} (hk : 260 < k) (neg : Bool) {x : Int × Int × Int × Int} {d : Int × Int} (hx : W4 x) (hd : W2 d) {n m : Nat} (hn : N4 x = (n : Int)) (hm : N2 d = (m : Int)) (h0 : 0 < m) {s : Nat} (hs : s ≤ 9) :
    quant_rounded.f k neg x d (s : Int) 4 = some (mkD (if neg then -((hev n m : Nat) : Int) else ((hev n m : Nat) : Int)) s) := by
  unfold quant_rounded.f
  obtain ⟨q, r, q1, q2, q3, q4, q5⟩ := Div_eq hk hx hd (by omega)
  have q1' : limb_Div.f k (x.1, x.2.1, x.2.2.1, x.2.2.2) (d.1, d.2) = some (q, r, true) := q1
  have hlt := Nat.mod_lt n h0
  have e4 : N4 q = ((n / m : Nat) : Int) := by rw [q4, hn, hm, Int.natCast_ediv]
  have e5 : N2 r = ((n % m : Nat) : Int) := by rw [q5, hn, hm, Int.natCast_emod]
  obtain ⟨c, b, c1, c2, c3, c4, c5⟩ := Short_eq k q2
  have c1' : limb_Short.f k (q.1, q.2.1, q.2.2.1, q.2.2.2) = some (c, b) := c1
  have big : ∀ v : Nat, 340282366920938463463374607431768211456 ≤ v → mkD (if neg then -(v : Int) else (v : Int)) s = (nil0, 3) := by
    intro v hv
    unfold mkD
    rw [if_neg (by split <;> omega)]
  have hge : n / m ≤ hev n m := by unfold hev; split <;> omega
  rw [q1', Option.bind_some]
  dsimp only
  rw [c1', Option.bind_some]
  cases b
  · have : ¬ N4 q < 340282366920938463463374607431768211456 := fun h => by have := c3.2 h; cases this
    rw [Bool.not_false, cond_true, big _ (by omega)]
    rfl
  · have hc := c4 rfl
    rw [Bool.not_true, cond_false]
    have ho : decide ((bits .and .u64 c.1 1) > 0) = decide (n / m % 2 = 1) := by
      rw [odd_eq c2, decide_eq_decide, hc, e4]; omega
    have fa : quant_farther.f k neg (decide ((bits .and .u64 c.1 1) > 0)) (r.1, r.2) (d.1, d.2) 4 = _ := qfarther_eq (k := k) (by omega) neg _ q3 hd (by rw [e5, hm]; omega)
    rw [fa, Option.bind_some, ho, e5, hm]
    by_cases h : 2 * (n % m) > m ∨ (2 * (n % m) = m ∧ n / m % 2 = 1)
    · have hv : hev n m = n / m + 1 := by unfold hev; rw [if_pos h]
      have hyes : 2 * ((n % m : Nat) : Int) > (m : Int) ∨ (2 * ((n % m : Nat) : Int) = (m : Int) ∧ decide (n / m % 2 = 1) = true) := by
        rcases h with h | ⟨h, h'⟩
        · exact .inl (by omega)
        · exact .inr ⟨by omega, decide_eq_true h'⟩
      rw [ct hyes, Of_eq, Option.bind_some]
      obtain ⟨z, b, z1, z2, z3, z4, z5⟩ := Add_eq k c2 W2_one
      have hone : N2 (1, 0) = 1 := N2_of 1
      have z1' : limb_Add.f k (c.1, c.2) (1, 0) = some (z, b) := z1
      dsimp only
      rw [z1', Option.bind_some]
      cases b
      · have : ¬ N2 c + N2 (1, 0) < 340282366920938463463374607431768211456 := fun h => by have := z5.2 h; cases this
        rw [Bool.not_false, cond_true, Option.bind_some, big _ (by omega)]
        rfl
      · have z3 := z3 rfl
        rw [Bool.not_true, cond_false, Option.bind_some]
        dsimp only
        rw [Wide_eq, Option.bind_some]
        have md : quant_made.f k neg (z.1, z.2, 0, 0) (s : Int) = _ := qmade_eq (k := k) (by omega) neg (W4_wide z2) hs
        dsimp only
        rw [md, Option.bind_some, N4_wide, z3, hone, hc, e4, hv]
        rfl
    · have hv : hev n m = n / m := by unfold hev; rw [if_neg h]
      have hno : ¬ (2 * ((n % m : Nat) : Int) > (m : Int) ∨ (2 * ((n % m : Nat) : Int) = (m : Int) ∧ decide (n / m % 2 = 1) = true)) := by
        rintro (h' | ⟨h', h''⟩)
        · exact h (.inl (by omega))
        · exact h (.inr ⟨by omega, of_decide_eq_true h''⟩)
      rw [cf hno, Option.bind_some]
      dsimp only
      rw [Wide_eq, Option.bind_some]
      have md : quant_made.f k neg (c.1, c.2, 0, 0) (s : Int) = _ := qmade_eq (k := k) (by omega) neg (W4_wide c2) hs
      dsimp only
      rw [md, Option.bind_some, N4_wide, hc, e4, hv]
end Go.Proofs.Ytlaogfkgkpgofaa.Pure
