/- What the law LimbShifts computes is true, whatever the numbers. No conditions but that each number is one of its type. -/
import Derived.Test.YthknecaigoilmaaLiS
import Derived.Test.YthknecaigoilmaaLiT
namespace Go.Proofs.Ythknecaigoilmaa.Pure
set_option linter.unusedVariables false
set_option linter.unusedSimpArgs false
open Go Go.Ev Go.Lm Go.Pu
theorem Left_n {x : Int × Int × Int × Int} (h : W4 x) {n kk : Nat} (hn : N4 x = (n : Int)) (hkk : kk ≤ 256) : ∃ z, limb_Left.f 300 x (kk : Int) = some z ∧ W4 z ∧ N4 z = ((n * 2 ^ kk % 115792089237316195423570985008687907853269984665640564039457584007913129639936 : Nat) : Int) := by
  obtain ⟨z, z1, z2, z3⟩ := Left_eq (k := 300) (by decide) h (kk : Int)
  refine ⟨z, z1, z2, ?_⟩
  rw [z3, hn, show (max 0 (min (kk : Int) 256)).toNat = kk by omega, Int.natCast_emod, Int.natCast_mul, Int.natCast_pow]
  rfl
theorem Right_n {x : Int × Int × Int × Int} (h : W4 x) {n kk : Nat} (hn : N4 x = (n : Int)) (hkk : kk ≤ 256) : ∃ z, limb_Right.f 300 x (kk : Int) = some z ∧ W4 z ∧ N4 z = ((n / 2 ^ kk : Nat) : Int) := by
  obtain ⟨z, z1, z2, z3⟩ := Right_eq (k := 300) (by decide) h (kk : Int)
  refine ⟨z, z1, z2, ?_⟩
  rw [z3, hn, show (max 0 (min (kk : Int) 256)).toNat = kk by omega, Int.natCast_ediv, Int.natCast_pow]
  rfl
theorem Bits_n {x : Int × Int × Int × Int} (h : W4 x) {n : Nat} (hn : N4 x = (n : Int)) : ∃ b : Nat, limb_Bits.f 300 x = some (b : Int) ∧ b ≤ 256 ∧ n < 2 ^ b ∧ (b = 0 ∨ 2 ^ (b - 1) ≤ n) := by
  obtain ⟨b, z1, z2, z3, z4⟩ := Bits_eq (k := 300) (by decide) h
  rw [hn] at z3 z4
  refine ⟨b, z1, z2, ?_, ?_⟩
  · rw [show (2 : Int) ^ b = ((2 ^ b : Nat) : Int) by simp] at z3; omega
  · rw [show (2 : Int) ^ (b - 1) = ((2 ^ (b - 1) : Nat) : Int) by simp] at z4; omega
theorem bits_lt {n b c : Nat} (h : n < 2 ^ b) (h' : c = 0 ∨ 2 ^ (c - 1) ≤ n) : c ≤ b := by
  rcases h' with rfl | h'
  · omega
  · refine Nat.le_of_not_lt fun hl => ?_
    have := Nat.pow_le_pow_right (show 0 < 2 by decide) (show b ≤ c - 1 by omega)
    omega
theorem zero4 {x : Int × Int × Int × Int} (h : W4 x) (hn : N4 x = 0) : x = (0, 0, 0, 0) := N4_inj h (by unfold W4 Wd; decide) (by rw [hn]; rfl)
theorem one4 {x : Int × Int × Int × Int} (h : W4 x) (hn : N4 x = 1) : x = (1, 0, 0, 0) := N4_inj h (by unfold W4 Wd; decide) (by rw [hn]; rfl)
theorem small {n p q : Nat} (h : n < 2 ^ q) (hp : p ≤ 128) (hq : q ≤ 128) : n * 2 ^ p < 115792089237316195423570985008687907853269984665640564039457584007913129639936 := by
  have h1 : n * 2 ^ p < 2 ^ q * 2 ^ p := Nat.mul_lt_mul_of_pos_right h (Nat.two_pow_pos p)
  have h2 : 2 ^ q * 2 ^ p ≤ 2 ^ 256 := by rw [← Nat.pow_add]; exact Nat.pow_le_pow_right (by decide) (by omega)
  have h3 : (2 : Nat) ^ 256 = 115792089237316195423570985008687907853269984665640564039457584007913129639936 := by decide +kernel
  omega
set_option maxHeartbeats 1000000 in
theorem LimbShifts (a : Int) (h0 : (Lit.int .u64 a).wf = true) (b : Int) (h1 : (Lit.int .u64 b).wf = true) (how : Int) (h2 : (Lit.int .i64 how).wf = true) (k : Int) (h3 : (Lit.int .i64 k).wf = true) : ∃ kk, pyxlaw1_LimbShifts.f kk a b how k = some true := by
  refine ⟨300, ?_⟩
  unfold pyxlaw1_LimbShifts.f
  obtain ⟨x, hx, wx⟩ := words_some 300 how (wf64 h0) (wf64 h1)
  obtain ⟨x0, x1⟩ := x
  have wW : W4 (x0, x1, 0, 0) := W4_wide wx
  have hN : N4 (x0, x1, 0, 0) = N2 (x0, x1) := N4_wide (x0, x1)
  have hb := N2_bd wx
  obtain ⟨n, hn⟩ : ∃ n : Nat, N2 (x0, x1) = (n : Int) := ⟨(N2 (x0, x1)).toNat, by omega⟩
  rw [hn] at hN
  have hn128 : n < 2 ^ 128 := by rw [show (2 : Nat) ^ 128 = 340282366920938463463374607431768211456 by decide +kernel]; omega
  obtain ⟨p, hp, hpe⟩ : ∃ p : Nat, p ≤ 128 ∧ pyxhand_Pick.f 300 k 129 = some (p : Int) := by
    have hb := pick_bd k (show (0 : Int) < 129 by decide)
    refine ⟨(pick k 129).toNat, by omega, ?_⟩
    rw [Pick_eq 300 k (by decide) (by decide)]
    exact congrArg some (by omega)
  obtain ⟨l, l1, l2, l3⟩ := Left_n wW hN (show p ≤ 256 by omega)
  obtain ⟨l0, l1', l2', l3'⟩ := l
  rw [Nat.mod_eq_of_lt (small hn128 hp (by decide))] at l3
  obtain ⟨r, r1, r2, r3⟩ := Right_n l2 l3 (show p ≤ 256 by omega)
  rw [Nat.mul_div_cancel _ (Nat.two_pow_pos p)] at r3
  have hr : r = (x0, x1, 0, 0) := N4_inj r2 wW (by rw [r3, hN])
  subst hr
  obtain ⟨c, c1, c2, c3, c4⟩ := Bits_n l2 l3
  obtain ⟨d, d1, d2, d3, d4⟩ := Bits_n wW hN
  have hd : d ≤ 128 := bits_lt hn128 d4
  rw [hx, Option.bind_some]
  dsimp only
  rw [Wide_eq, Option.bind_some, hpe, Option.bind_some]
  dsimp only
  rw [l1, Option.bind_some]
  dsimp only
  have mid : ((((x0, x1, (0 : Int), (0 : Int)).1 == x0) && (((x0, x1, (0 : Int), (0 : Int)).2.1 == x1) && (((x0, x1, (0 : Int), (0 : Int)).2.2.1 == 0) && ((x0, x1, (0 : Int), (0 : Int)).2.2.2 == 0))))) = true := by simp
  have hcd : n ≠ 0 → c = d + p := by
    intro h0
    have hp0 := Nat.two_pow_pos p
    refine Nat.le_antisymm (bits_lt (n := n * 2 ^ p) ?_ c4) (bits_lt c3 (.inr ?_))
    · rw [Nat.pow_add]; exact Nat.mul_lt_mul_of_pos_right d3 hp0
    · have h4 : d ≠ 0 := by rintro rfl; simp at d3; omega
      rw [show d + p - 1 = (d - 1) + p by omega, Nat.pow_add]
      exact Nat.mul_le_mul_right _ (d4.resolve_left h4)
  have first : ((limb_Right.f 300 (l0, l1', l2', l3') (p : Int)).bind fun t5 => (cond (!((t5.1 == x0) && ((t5.2.1 == x1) && ((t5.2.2.1 == 0) && (t5.2.2.2 == 0))))) (some ((p : Int), true, x0, x1, x0, x1, 0, 0)) (cond (!((x0 == 0) && (x1 == 0))) ((limb_Bits.f 300 (l0, l1', l2', l3')).bind fun t14 => ((limb_Bits.f 300 (x0, x1, 0, 0)).bind fun t15 => (some ((p : Int), t14 != (IntKind.wrap .i64 (t15 + (p : Int))), x0, x1, x0, x1, (0 : Int), (0 : Int))))) (some ((p : Int), false, x0, x1, x0, x1, 0, 0))) : Option (Int × Bool × Int × Int × Int × Int × Int × Int))) = some ((p : Int), false, x0, x1, x0, x1, 0, 0) := by
    rw [r1, Option.bind_some]
    rw [mid, Bool.not_true, cond_false]
    cases hz : (x0 == 0) && (x1 == 0) with
    | true => rfl
    | false =>
      have h0 : n ≠ 0 := by
        rintro rfl
        obtain ⟨⟨_, _⟩, _, _⟩ := wx
        unfold N2 at hn
        dsimp only at *
        have e1 : x0 = 0 := by omega
        have e2 : x1 = 0 := by omega
        rw [e1, e2] at hz
        cases hz
      rw [Bool.not_false, cond_true, c1, Option.bind_some, d1, Option.bind_some, wrapi (by omega), hcd h0, show ((d + p : Nat) : Int) = (d : Int) + (p : Int) by omega]
      simp
  refine (congrArg (Option.bind · _) first).trans ?_
  rw [Option.bind_some]
  dsimp only
  rw [cond_false, Of_eq, Option.bind_some]
  dsimp only
  obtain ⟨m, m1, m2, m3⟩ := Mul_eq (k := 300) (by decide) wx (W2_of (n := 2) ⟨by decide, by decide⟩)
  rw [N2_of, hn] at m3
  rw [m1, Option.bind_some, Of_eq, Option.bind_some]
  dsimp only
  rw [Wide_eq, Option.bind_some, d1, Option.bind_some]
  dsimp only
  have w1 : W4 (1, 0, 0, 0) := by unfold W4 Wd; decide
  obtain ⟨o, o1, o2, o3⟩ := Left_n (n := 1) w1 (by decide) (show d ≤ 256 by omega)
  rw [Nat.mod_eq_of_lt (small (n := 1) (q := 1) (by decide) hd (by decide)), Nat.one_mul] at o3
  rw [o1, Option.bind_some, known1 (by decide), Option.bind_some, cond_true]
  obtain ⟨e, e1, e2, e3⟩ := Left_n wW hN (show 1 ≤ 256 by omega)
  rw [Nat.mod_eq_of_lt (small hn128 (by decide) (by decide)), Nat.pow_one] at e3
  have e1' : limb_Left.f 300 (x0, x1, 0, 0) 1 = some e := e1
  rw [e1', Option.bind_some, eq4 (N4_inj e2 m2 (by rw [e3, m3]; omega)), cond_true, l1, Option.bind_some]
  dsimp only
  obtain ⟨f, f1, f2, f3⟩ := Left_n l2 l3 (show 3 ≤ 256 by omega)
  have f1' : limb_Left.f 300 (l0, l1', l2', l3') 3 = some f := f1
  obtain ⟨g, g1, g2, g3⟩ := Left_n wW hN (show p + 3 ≤ 256 by omega)
  have g1' : limb_Left.f 300 (x0, x1, 0, 0) ((p : Int) + 3) = some g := by rw [show (p : Int) + 3 = ((p + 3 : Nat) : Int) by omega]; exact g1
  rw [f1', Option.bind_some, wrapi (show -9223372036854775808 ≤ (p : Int) + 3 ∧ (p : Int) + 3 < 9223372036854775808 by omega), g1', Option.bind_some, eq4 (N4_inj f2 g2 (by rw [f3, g3, Nat.pow_add, Nat.mul_assoc])), cond_true]
  rw [Option.bind_some]
  obtain ⟨q, q1, q2, q3, q4⟩ := Bits_n o2 o3
  have hq : q = d + 1 := by
    refine Nat.le_antisymm (bits_lt (n := 2 ^ d) (Nat.pow_lt_pow_right (by decide) (by omega)) q4) (bits_lt q3 (.inr (Nat.le_refl _)))
  subst hq
  have q1' : limb_Bits.f 300 (o.1, o.2.1, o.2.2.1, o.2.2.2) = some (((d + 1 : Nat)) : Int) := q1
  have wr1 : IntKind.wrap .i64 ((d : Int) + 1) = ((d + 1 : Nat) : Int) := by rw [wrapi (by omega)]; omega
  have last : ((limb_Bits.f 300 (o.1, o.2.1, o.2.2.1, o.2.2.2)).bind fun t29 => ((some (d : Int)).bind fun t30 => (some (t29 == (IntKind.wrap .i64 (t30 + 1)))))) = some true := by
    rw [q1', Option.bind_some, Option.bind_some, wr1]; simp
  by_cases hd0 : d = 0
  · subst hd0
    have hn0 : n = 0 := by simp at d3; exact d3
    subst hn0
    have := zero4 wW (by rw [hN]; rfl)
    injection this with t0 t1
    injection t1 with t1 t2
    subst t0; subst t1
    exact last
  · rw [show (((d : Int)) == 0) = false by simp; omega, cond_false]
    simp only [Option.bind_some]
    obtain ⟨u, u1, u2, u3⟩ := Right_n wW hN (show d ≤ 256 by omega)
    rw [Nat.div_eq_of_lt d3] at u3
    have hu := zero4 u2 u3
    subst hu
    rw [u1, Option.bind_some]
    obtain ⟨v, v1, v2, v3⟩ := Right_n wW hN (show d - 1 ≤ 256 by omega)
    have h1 : n / 2 ^ (d - 1) = 1 := by
      have l1 := d4.resolve_left hd0
      have l2 : n < 2 ^ (d - 1) * 2 := by rw [← Nat.pow_succ, show (d - 1).succ = d by omega]; exact d3
      exact Nat.div_eq_of_lt_le (by omega) (by omega)
    rw [h1] at v3
    have hv := one4 v2 v3
    subst hv
    have wr2 : IntKind.wrap .i64 ((d : Int) - 1) = ((d - 1 : Nat) : Int) := by rw [wrapi (by omega)]; omega
    rw [wr2, v1, Option.bind_some]
    exact last
end Go.Proofs.Ythknecaigoilmaa.Pure
