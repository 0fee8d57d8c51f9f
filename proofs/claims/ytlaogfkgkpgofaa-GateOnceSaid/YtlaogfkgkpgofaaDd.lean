/- The quotient of a number of four words by one of two, told by whole numbers. No conditions but that each word is below 2^64. -/
import Derived.Test.YtlaogfkgkpgofaaDt
namespace Go.Proofs.Ytlaogfkgkpgofaa.Pure
set_option linter.unusedVariables false
set_option linter.unusedSimpArgs false
open Go Go.Ev Go.Lm Go.Pu

/-- Words, the lowest first. -/
def VB : List Nat → Nat
  | [] => 0
  | x :: l => x + 18446744073709551616 * VB l
theorem low_bit (a m s : Nat) (hs : s < 64) : (a + 18446744073709551616 * m) / 2 ^ s % 2 = a / 2 ^ s % 2 := by
  have e : (18446744073709551616 : Nat) = 2 ^ s * 2 ^ (64 - s) := by rw [← Nat.pow_add, show s + (64 - s) = 64 by omega]
  have e2 : (2 : Nat) ^ (64 - s) = 2 * 2 ^ (63 - s) := by rw [show 64 - s = (63 - s) + 1 by omega, Nat.pow_succ, Nat.mul_comm]
  rw [e, Nat.mul_assoc, Nat.add_mul_div_left _ _ (Nat.two_pow_pos s), e2, Nat.mul_assoc]
  generalize 2 ^ (63 - s) * m = z
  omega
theorem bit_at {a b c d : Nat} (ha : a < 18446744073709551616) (hb : b < 18446744073709551616) (hc : c < 18446744073709551616) {k : Nat} (hk : k < 256) :
    ([a, b, c, d].getD (k / 64) 0) / 2 ^ (k % 64) % 2 = VB [a, b, c, d] / 2 ^ k % 2 := by
  have hs : k % 64 < 64 := Nat.mod_lt _ (by decide)
  have hkk : k = 64 * (k / 64) + k % 64 := by omega
  have hi : k / 64 = 0 ∨ k / 64 = 1 ∨ k / 64 = 2 ∨ k / 64 = 3 := by omega
  generalize k % 64 = s at *
  generalize k / 64 = i at *
  subst hkk
  rcases hi with rfl | rfl | rfl | rfl
  · simp only [VB, List.getD_cons_zero, Nat.mul_zero, Nat.zero_add]
    rw [low_bit _ _ _ hs]
  · simp only [VB, List.getD_cons_zero, List.getD_cons_succ]
    rw [Nat.pow_add, ← Nat.div_div_eq_div_mul, show (2 : Nat) ^ (64 * 1) = 18446744073709551616 by decide]
    rw [show (a + 18446744073709551616 * (b + 18446744073709551616 * (c + 18446744073709551616 * (d + 18446744073709551616 * 0)))) / 18446744073709551616 = b + 18446744073709551616 * (c + 18446744073709551616 * d) by omega]
    rw [low_bit _ _ _ hs]
  · simp only [VB, List.getD_cons_zero, List.getD_cons_succ]
    rw [Nat.pow_add, ← Nat.div_div_eq_div_mul, show (2 : Nat) ^ (64 * 2) = 18446744073709551616 * 18446744073709551616 by decide, ← Nat.div_div_eq_div_mul]
    rw [show (a + 18446744073709551616 * (b + 18446744073709551616 * (c + 18446744073709551616 * (d + 18446744073709551616 * 0)))) / 18446744073709551616 / 18446744073709551616 = c + 18446744073709551616 * d by omega]
    rw [low_bit _ _ _ hs]
  · simp only [VB, List.getD_cons_zero, List.getD_cons_succ]
    rw [Nat.pow_add, ← Nat.div_div_eq_div_mul, show (2 : Nat) ^ (64 * 3) = 18446744073709551616 * 18446744073709551616 * 18446744073709551616 by decide, ← Nat.div_div_eq_div_mul, ← Nat.div_div_eq_div_mul]
    rw [show (a + 18446744073709551616 * (b + 18446744073709551616 * (c + 18446744073709551616 * (d + 18446744073709551616 * 0)))) / 18446744073709551616 / 18446744073709551616 / 18446744073709551616 = d by omega]
theorem or_add {w s : Nat} (h : w / 2 ^ s % 2 = 0) : w ||| 2 ^ s = w + 2 ^ s := by
  have hl : w % 2 ^ s < 2 ^ s := Nat.mod_lt _ (Nat.two_pow_pos s)
  have e1 : w = 2 ^ (s + 1) * (w / 2 ^ s / 2) + w % 2 ^ s := by
    have h1 := Nat.div_add_mod w (2 ^ s)
    have h2 := Nat.div_add_mod (w / 2 ^ s) 2
    rw [h, Nat.add_zero] at h2
    rw [Nat.pow_succ, Nat.mul_assoc, h2, h1]
  generalize w / 2 ^ s / 2 = m at e1
  generalize w % 2 ^ s = l at e1 hl
  have hl2 : l < 2 ^ (s + 1) := by rw [Nat.pow_succ]; omega
  have hl3 : 2 ^ s + l < 2 ^ (s + 1) := by rw [Nat.pow_succ]; omega
  have a1 := Nat.two_pow_add_eq_or_of_lt hl2 m
  have a2 := Nat.two_pow_add_eq_or_of_lt hl 1
  have a3 := Nat.two_pow_add_eq_or_of_lt hl3 m
  rw [Nat.mul_one] at a2
  rw [e1, a1, Nat.or_assoc, Nat.or_comm l, ← a2, ← a3, ← a1]
  omega
theorem VB_set : ∀ (l : List Nat) (i v : Nat), i < l.length → VB (l.set i (l.getD i 0 + v)) = VB l + v * 18446744073709551616 ^ i
  | [], i, v, h => by simp at h
  | x :: l, 0, v, h => by simp [VB]; omega
  | x :: l, i + 1, v, h => by
    have := VB_set l i v (by simpa using h)
    simp only [List.set_cons_succ, VB, List.getD_cons_succ, this, Nat.pow_succ]
    rw [Nat.mul_add, ← Nat.add_assoc, Nat.mul_left_comm, Nat.mul_comm 18446744073709551616 (18446744073709551616 ^ i)]

/-- A round: the next bit is taken in. -/
theorem half_step (A k b : Nat) (hb : 0 < b) : let bit := A / 2 ^ k % 2; let D := A / 2 ^ (k + 1); A / 2 ^ k = 2 * D + bit ∧
    (2 * (D % b) + bit < b → A / 2 ^ k / b = 2 * (D / b) ∧ A / 2 ^ k % b = 2 * (D % b) + bit) ∧ (b ≤ 2 * (D % b) + bit → A / 2 ^ k / b = 2 * (D / b) + 1 ∧ A / 2 ^ k % b = 2 * (D % b) + bit - b) := by
  intro bit D
  have hD : A / 2 ^ k / 2 = D := by rw [Nat.div_div_eq_div_mul, ← Nat.pow_succ]
  have h1 : A / 2 ^ k = 2 * D + bit := by
    have := Nat.div_add_mod (A / 2 ^ k) 2
    omega
  have hbit : bit < 2 := Nat.mod_lt _ (by decide)
  have h2 := Nat.div_add_mod D b
  have h3 := Nat.mod_lt D hb
  refine ⟨h1, fun h => ?_, fun h => ?_⟩
  · have e : A / 2 ^ k = b * (2 * (D / b)) + (2 * (D % b) + bit) := by rw [h1]; rw [Nat.mul_left_comm]; omega
    rw [e, Nat.mul_add_div hb, Nat.div_eq_of_lt h, Nat.mul_add_mod, Nat.mod_eq_of_lt h]
    exact ⟨rfl, rfl⟩
  · have h4 : 2 * (D % b) + bit - b < b := by omega
    have e : A / 2 ^ k = b * (2 * (D / b) + 1) + (2 * (D % b) + bit - b) := by
      rw [h1, Nat.mul_add, Nat.mul_left_comm]; omega
    rw [e, Nat.mul_add_div hb, Nat.div_eq_of_lt h4, Nat.mul_add_mod, Nat.mod_eq_of_lt h4]
    exact ⟨rfl, rfl⟩

theorem or_one {m y : Nat} (hm : m < 18446744073709551616) (he : m % 2 = 0) (hy : y < 2) : bits .or .u64 (m : Int) (y : Int) = ((m + y : Nat) : Int) := by
  rw [or64 hm (by omega)]
  have := Nat.two_pow_add_eq_or_of_lt (i := 1) (b := y) (by omega) (m / 2)
  rw [Nat.pow_one, show 2 * (m / 2) = m by omega] at this
  rw [this]
theorem and_one {m : Nat} (hm : m < 18446744073709551616) : bits .and .u64 (m : Int) 1 = ((m % 2 : Nat) : Int) := by
  rw [show (1 : Int) = ((1 : Nat) : Int) by rfl, and64 hm (by omega), Nat.and_one_is_mod]
theorem dbl {x : Nat} : IntKind.wrap .u64 ((x : Int) * 2 ^ 1) = ((2 * x % 18446744073709551616 : Nat) : Int) := by
  rw [wrap64, show (2 : Int) ^ 1 = 2 by decide]
  omega

/-- One round of the division. -/
theorem Div_step (k : Nat) {a0 a1 a2 a3 b0 b1 q0 q1 q2 q3 r0 r1 t : Nat} (ha0 : a0 < 18446744073709551616) (ha1 : a1 < 18446744073709551616) (ha2 : a2 < 18446744073709551616) (ha3 : a3 < 18446744073709551616) (hb0 : b0 < 18446744073709551616) (hb1 : b1 < 18446744073709551616)
    (hq : ∀ z ∈ [q0, q1, q2, q3], z < 18446744073709551616) (hr0 : r0 < 18446744073709551616) (hr1 : r1 < 18446744073709551616) (ht : t < 256) (hb : 0 < b0 + 18446744073709551616 * b1)
    (hr : r0 + 18446744073709551616 * r1 = VB [a0, a1, a2, a3] / 2 ^ (t + 1) % (b0 + 18446744073709551616 * b1)) (hQ : VB [q0, q1, q2, q3] = 2 ^ (t + 1) * (VB [a0, a1, a2, a3] / 2 ^ (t + 1) / (b0 + 18446744073709551616 * b1))) :
    ∃ p0 p1 p2 p3 s0 s1 : Nat, limb_Div.l4.once (k + 3) ((t : Int), [(a0 : Int), a1, a2, a3], (b0 : Int), (b1 : Int), [(q0 : Int), q1, q2, q3], (r0 : Int), (r1 : Int)) =
      some (.inl ((t : Int) - 1, [(a0 : Int), a1, a2, a3], (b0 : Int), (b1 : Int), [(p0 : Int), p1, p2, p3], (s0 : Int), (s1 : Int))) ∧ (∀ z ∈ [p0, p1, p2, p3], z < 18446744073709551616) ∧ s0 < 18446744073709551616 ∧ s1 < 18446744073709551616 ∧
      s0 + 18446744073709551616 * s1 = VB [a0, a1, a2, a3] / 2 ^ t % (b0 + 18446744073709551616 * b1) ∧ VB [p0, p1, p2, p3] = 2 ^ t * (VB [a0, a1, a2, a3] / 2 ^ t / (b0 + 18446744073709551616 * b1)) := by
  obtain ⟨hh1, hh2, hh3⟩ := half_step (VB [a0, a1, a2, a3]) t (b0 + 18446744073709551616 * b1) hb
  have hbit := bit_at (d := a3) ha0 ha1 ha2 ht
  -- the quotient's bit is not set yet
  have hq0 := hq q0 (by simp)
  have hq1 := hq q1 (by simp)
  have hq2 := hq q2 (by simp)
  have hq3 := hq q3 (by simp)
  have hqb := bit_at (d := q3) hq0 hq1 hq2 ht
  rw [hQ, Nat.pow_succ, Nat.mul_assoc, Nat.mul_div_cancel_left _ (Nat.two_pow_pos t), Nat.mul_mod_right] at hqb
  have hrlt : r0 + 18446744073709551616 * r1 < b0 + 18446744073709551616 * b1 := by rw [hr]; exact Nat.mod_lt _ hb
  generalize hD : VB [a0, a1, a2, a3] / 2 ^ (t + 1) % (b0 + 18446744073709551616 * b1) = D at *
  generalize hE : VB [a0, a1, a2, a3] / 2 ^ (t + 1) / (b0 + 18446744073709551616 * b1) = Q at *
  have hbl : VB [a0, a1, a2, a3] / 2 ^ t % 2 < 2 := Nat.mod_lt _ (by decide)
  -- the words
  have hw : IntKind.wrap .i64 (Int.tdiv (t : Int) 64) = ((t / 64 : Nat) : Int) := by
    rw [show Int.tdiv (t : Int) 64 = ((t / 64 : Nat) : Int) from rfl, wrapi (by omega)]
  have hm : Int.tmod (t : Int) 64 = ((t % 64 : Nat) : Int) := rfl
  have hi4 : t / 64 < 4 := by omega
  have hag : ([(a0 : Int), a1, a2, a3].getD (t / 64) 0) = (([a0, a1, a2, a3].getD (t / 64) 0 : Nat) : Int) := by
    have : t / 64 = 0 ∨ t / 64 = 1 ∨ t / 64 = 2 ∨ t / 64 = 3 := by omega
    rcases this with h | h | h | h <;> rw [h] <;> rfl
  have hqg : ([(q0 : Int), q1, q2, q3].getD (t / 64) 0) = (([q0, q1, q2, q3].getD (t / 64) 0 : Nat) : Int) := by
    have : t / 64 = 0 ∨ t / 64 = 1 ∨ t / 64 = 2 ∨ t / 64 = 3 := by omega
    rcases this with h | h | h | h <;> rw [h] <;> rfl
  have hal : [a0, a1, a2, a3].getD (t / 64) 0 < 18446744073709551616 := by
    have : t / 64 = 0 ∨ t / 64 = 1 ∨ t / 64 = 2 ∨ t / 64 = 3 := by omega
    rcases this with h | h | h | h <;> rw [h] <;> assumption
  have hql : [q0, q1, q2, q3].getD (t / 64) 0 < 18446744073709551616 := by
    have : t / 64 = 0 ∨ t / 64 = 1 ∨ t / 64 = 2 ∨ t / 64 = 3 := by omega
    rcases this with h | h | h | h <;> rw [h] <;> assumption
  have h64 : t % 64 < 64 := Nat.mod_lt _ (by decide)
  have hx : bits .and .u64 (Int.fdiv (([a0, a1, a2, a3].getD (t / 64) 0 : Nat) : Int) (2 ^ (min (Int.toNat ((t % 64 : Nat) : Int)) 64))) 1 = ((VB [a0, a1, a2, a3] / 2 ^ t % 2 : Nat) : Int) := by
    rw [Int.toNat_natCast, Nat.min_eq_left (by omega), fdivp, and_one (Nat.lt_of_le_of_lt (Nat.div_le_self _ _) hal), hbit]
  have hp64 : IntKind.wrap .u64 (1 * 2 ^ (min (Int.toNat ((t % 64 : Nat) : Int)) 64)) = ((2 ^ (t % 64) : Nat) : Int) := by
    have h2 : 2 ^ (t % 64) < 18446744073709551616 := Nat.pow_lt_pow_right (a := 2) (by decide) (n := 64) h64
    rw [Int.toNat_natCast, Nat.min_eq_left (by omega), Int.one_mul, show ((2 : Int) ^ (t % 64)) = ((2 ^ (t % 64) : Nat) : Int) by simp, wrapu ⟨Int.natCast_nonneg _, Int.ofNat_lt.2 h2⟩]
  have hp2 : 2 ^ (t % 64) < 18446744073709551616 := Nat.pow_lt_pow_right (a := 2) (by decide) (n := 64) h64
  have ht63 : Int.fdiv (r1 : Int) (2 ^ 63) = ((r1 / 2 ^ 63 : Nat) : Int) := fdivp r1 63
  have hr63 : Int.fdiv (r0 : Int) (2 ^ 63) = ((r0 / 2 ^ 63 : Nat) : Int) := fdivp r0 63
  have e0 : bits .or .u64 (IntKind.wrap .u64 ((r0 : Int) * 2 ^ 1)) ((VB [a0, a1, a2, a3] / 2 ^ t % 2 : Nat) : Int) = ((2 * r0 % 18446744073709551616 + VB [a0, a1, a2, a3] / 2 ^ t % 2 : Nat) : Int) := by
    rw [dbl, or_one (by omega) (by omega) hbl]
  have e1 : bits .or .u64 (IntKind.wrap .u64 ((r1 : Int) * 2 ^ 1)) ((r0 / 2 ^ 63 : Nat) : Int) = ((2 * r1 % 18446744073709551616 + r0 / 2 ^ 63 : Nat) : Int) := by
    rw [dbl, or_one (by omega) (by omega) (by omega)]
  have hwt : IntKind.wrap .i64 ((t : Int) - 1) = (t : Int) - 1 := wrapi (by omega)
  -- the sum of what is left
  generalize hbv : VB [a0, a1, a2, a3] / 2 ^ t % 2 = bit at *
  have hs0 : 2 * r0 % 18446744073709551616 + bit < 18446744073709551616 := by omega
  have hs1 : 2 * r1 % 18446744073709551616 + r0 / 2 ^ 63 < 18446744073709551616 := by omega
  have hsum : (2 * r0 % 18446744073709551616 + bit) + 18446744073709551616 * (2 * r1 % 18446744073709551616 + r0 / 2 ^ 63) + 340282366920938463463374607431768211456 * (r1 / 2 ^ 63) = 2 * (r0 + 18446744073709551616 * r1) + bit := by omega
  -- the round with the test told
  have round : ∀ c : Bool, (c = true ↔ b0 + 18446744073709551616 * b1 ≤ 2 * D + bit) → ((cond c
      ((limb_less.f (k + 3) ((2 * r0 % 18446744073709551616 + bit : Nat) : Int) (b0 : Int) 0).bind fun t18 => ((limb_less.f (k + 3) ((2 * r1 % 18446744073709551616 + r0 / 2 ^ 63 : Nat) : Int) (b1 : Int) t18.2).bind fun t19 =>
        (some ((t : Int), [(a0 : Int), a1, a2, a3], (b0 : Int), (b1 : Int), List.set [(q0 : Int), q1, q2, q3] (t / 64) (bits .or .u64 (([q0, q1, q2, q3].getD (t / 64) 0 : Nat) : Int) ((2 ^ (t % 64) : Nat) : Int)), t18.1, t19.1))))
      (some ((t : Int), [(a0 : Int), a1, a2, a3], (b0 : Int), (b1 : Int), [(q0 : Int), q1, q2, q3], ((2 * r0 % 18446744073709551616 + bit : Nat) : Int), ((2 * r1 % 18446744073709551616 + r0 / 2 ^ 63 : Nat) : Int))) : Option (Int × List Int × Int × Int × List Int × Int × Int)) = none → False) ∧
      ∃ p0 p1 p2 p3 s0 s1 : Nat, (cond c
      ((limb_less.f (k + 3) ((2 * r0 % 18446744073709551616 + bit : Nat) : Int) (b0 : Int) 0).bind fun t18 => ((limb_less.f (k + 3) ((2 * r1 % 18446744073709551616 + r0 / 2 ^ 63 : Nat) : Int) (b1 : Int) t18.2).bind fun t19 =>
        (some ((t : Int), [(a0 : Int), a1, a2, a3], (b0 : Int), (b1 : Int), List.set [(q0 : Int), q1, q2, q3] (t / 64) (bits .or .u64 (([q0, q1, q2, q3].getD (t / 64) 0 : Nat) : Int) ((2 ^ (t % 64) : Nat) : Int)), t18.1, t19.1))))
      (some ((t : Int), [(a0 : Int), a1, a2, a3], (b0 : Int), (b1 : Int), [(q0 : Int), q1, q2, q3], ((2 * r0 % 18446744073709551616 + bit : Nat) : Int), ((2 * r1 % 18446744073709551616 + r0 / 2 ^ 63 : Nat) : Int))) : Option (Int × List Int × Int × Int × List Int × Int × Int)) =
        some ((t : Int), [(a0 : Int), a1, a2, a3], (b0 : Int), (b1 : Int), [(p0 : Int), p1, p2, p3], (s0 : Int), (s1 : Int)) ∧ (∀ z ∈ [p0, p1, p2, p3], z < 18446744073709551616) ∧ s0 < 18446744073709551616 ∧ s1 < 18446744073709551616 ∧
      s0 + 18446744073709551616 * s1 = VB [a0, a1, a2, a3] / 2 ^ t % (b0 + 18446744073709551616 * b1) ∧ VB [p0, p1, p2, p3] = 2 ^ t * (VB [a0, a1, a2, a3] / 2 ^ t / (b0 + 18446744073709551616 * b1)) := by
    intro c hc
    cases c with
    | false =>
      have hlt : 2 * D + bit < b0 + 18446744073709551616 * b1 := by
        have : ¬ b0 + 18446744073709551616 * b1 ≤ 2 * D + bit := fun h => by cases hc.2 h
        omega
      obtain ⟨g1, g2⟩ := hh2 hlt
      refine ⟨fun h => (by cases h), q0, q1, q2, q3, _, _, rfl, hq, hs0, hs1, ?_, ?_⟩
      · rw [g2]; omega
      · rw [g1, hQ, Nat.pow_succ, Nat.mul_assoc]
    | true =>
      have hge := hc.1 rfl
      obtain ⟨g1, g2⟩ := hh3 hge
      rw [cond_true, less_eq _ ⟨by omega, by omega⟩ ⟨by omega, by omega⟩ (by omega), Option.bind_some]
      dsimp only
      rw [less_eq _ ⟨by omega, by omega⟩ ⟨by omega, by omega⟩ (by constructor <;> omega), Option.bind_some]
      dsimp only
      refine ⟨fun h => (by cases h), ?_⟩
      have hz : [q0, q1, q2, q3].getD (t / 64) 0 / 2 ^ (t % 64) % 2 = 0 := hqb
      rw [or64 hql hp2, or_add hz]
      have hlt2 : [q0, q1, q2, q3].getD (t / 64) 0 + 2 ^ (t % 64) < 18446744073709551616 := by rw [← or_add hz]; exact or_lt hql hp2
      have hV : VB ([q0, q1, q2, q3].set (t / 64) ([q0, q1, q2, q3].getD (t / 64) 0 + 2 ^ (t % 64))) = 2 ^ t * (VB [a0, a1, a2, a3] / 2 ^ t / (b0 + 18446744073709551616 * b1)) := by
        rw [VB_set _ _ _ (by simpa using hi4), hQ, g1]
        have e : 2 ^ (t % 64) * 18446744073709551616 ^ (t / 64) = 2 ^ t := by
          rw [show (18446744073709551616 : Nat) = 2 ^ 64 by decide, ← Nat.pow_mul, ← Nat.pow_add]
          congr 1
          omega
        rw [e, Nat.pow_succ, Nat.mul_add, Nat.mul_one, Nat.mul_assoc]
      obtain ⟨p0, p1, p2, p3, hp, hpi, hpl⟩ : ∃ p0 p1 p2 p3 : Nat, [q0, q1, q2, q3].set (t / 64) ([q0, q1, q2, q3].getD (t / 64) 0 + 2 ^ (t % 64)) = [p0, p1, p2, p3] ∧
          List.set [(q0 : Int), q1, q2, q3] (t / 64) (([q0, q1, q2, q3].getD (t / 64) 0 + 2 ^ (t % 64) : Nat) : Int) = [(p0 : Int), p1, p2, p3] ∧ ∀ z ∈ [p0, p1, p2, p3], z < 18446744073709551616 := by
        generalize [q0, q1, q2, q3].getD (t / 64) 0 + 2 ^ (t % 64) = w at hlt2
        have : t / 64 = 0 ∨ t / 64 = 1 ∨ t / 64 = 2 ∨ t / 64 = 3 := by omega
        rcases this with h | h | h | h <;> rw [h]
        · exact ⟨w, q1, q2, q3, rfl, rfl, by simp only [List.mem_cons, List.not_mem_nil, or_false]; rintro z (rfl | rfl | rfl | rfl) <;> assumption⟩
        · exact ⟨q0, w, q2, q3, rfl, rfl, by simp only [List.mem_cons, List.not_mem_nil, or_false]; rintro z (rfl | rfl | rfl | rfl) <;> assumption⟩
        · exact ⟨q0, q1, w, q3, rfl, rfl, by simp only [List.mem_cons, List.not_mem_nil, or_false]; rintro z (rfl | rfl | rfl | rfl) <;> assumption⟩
        · exact ⟨q0, q1, q2, w, rfl, rfl, by simp only [List.mem_cons, List.not_mem_nil, or_false]; rintro z (rfl | rfl | rfl | rfl) <;> assumption⟩
      rw [hp] at hV
      rw [hpi]
      generalize hu : 2 * r0 % 18446744073709551616 + bit = u0 at *
      generalize hv : 2 * r1 % 18446744073709551616 + r0 / 2 ^ 63 = u1 at *
      obtain ⟨s0, hs0'⟩ : ∃ s0 : Nat, ((u0 : Int) - b0 - 0) % 18446744073709551616 = (s0 : Int) := Int.eq_ofNat_of_zero_le (by omega)
      obtain ⟨s1, hs1'⟩ : ∃ s1 : Nat, ((u1 : Int) - b1 - -(((u0 : Int) - b0 - 0) / 18446744073709551616)) % 18446744073709551616 = (s1 : Int) := Int.eq_ofNat_of_zero_le (by omega)
      refine ⟨p0, p1, p2, p3, s0, s1, by rw [hs0', hs1'], hpl, by omega, by omega, ?_, hV⟩
      rw [g2]
      omega
  unfold limb_Div.l4.once
  dsimp only
  rw [ct (by omega), hw, hm, inb_t (by omega) (by omega), cond_true, Int.toNat_natCast (t / 64), blt_t (by omega), cond_true, cf (by omega), hag, hx, hr63, ht63, e0, e1]
  have test : ∃ c : Bool, (c = true ↔ b0 + 18446744073709551616 * b1 ≤ 2 * D + bit) ∧ (cond (decide (((r1 / 2 ^ 63 : Nat) : Int) > 0)) (some ((t : Int), true, [(a0 : Int), a1, a2, a3], (b0 : Int), (b1 : Int), [(q0 : Int), q1, q2, q3], ((2 * r0 % 18446744073709551616 + bit : Nat) : Int), ((2 * r1 % 18446744073709551616 + r0 / 2 ^ 63 : Nat) : Int)))
      ((limb_Cmp.f (k + 3) (((2 * r0 % 18446744073709551616 + bit : Nat) : Int), ((2 * r1 % 18446744073709551616 + r0 / 2 ^ 63 : Nat) : Int)) ((b0 : Int), (b1 : Int))).bind fun t16 =>
        (some ((t : Int), decide (t16 ≥ 0), [(a0 : Int), a1, a2, a3], (b0 : Int), (b1 : Int), [(q0 : Int), q1, q2, q3], ((2 * r0 % 18446744073709551616 + bit : Nat) : Int), ((2 * r1 % 18446744073709551616 + r0 / 2 ^ 63 : Nat) : Int)))) : Option (Int × Bool × List Int × Int × Int × List Int × Int × Int)) =
      some ((t : Int), c, [(a0 : Int), a1, a2, a3], (b0 : Int), (b1 : Int), [(q0 : Int), q1, q2, q3], ((2 * r0 % 18446744073709551616 + bit : Nat) : Int), ((2 * r1 % 18446744073709551616 + r0 / 2 ^ 63 : Nat) : Int)) := by
    by_cases hc : ((r1 / 2 ^ 63 : Nat) : Int) > 0
    · rw [ct hc]
      exact ⟨true, ⟨fun _ => by omega, fun _ => rfl⟩, rfl⟩
    · rw [cf hc, Cmp_eq _ ⟨⟨by dsimp only; omega, by dsimp only; omega⟩, by dsimp only; omega, by dsimp only; omega⟩ ⟨⟨by dsimp only; omega, by dsimp only; omega⟩, by dsimp only; omega, by dsimp only; omega⟩, Option.bind_some]
      refine ⟨_, ?_, rfl⟩
      unfold N2
      dsimp only
      rw [decide_eq_true_eq]
      split
      · constructor
        · intro h; omega
        · intro h; omega
      · split
        · constructor
          · intro h; omega
          · intro h; omega
        · constructor
          · intro h; omega
          · intro h; omega
  obtain ⟨c, hc, htest⟩ := test
  rw [htest, Option.bind_some]
  dsimp only
  obtain ⟨_, p0, p1, p2, p3, s0, s1, h1, h2⟩ := round c hc
  refine ⟨p0, p1, p2, p3, s0, s1, ?_, h2⟩
  have hi1 : inb ((t / 64 : Nat) : Int) 4 = true := inb_t (by omega) (by omega)
  have hi2 : Nat.blt (t / 64) 4 = true := blt_t (by omega)
  have hi3 : decide (((t % 64 : Nat) : Int) < 0) = false := decide_eq_false (by omega)
  have hp64' : IntKind.wrap .u64 (1 * 2 ^ (min (t % 64) 64)) = ((2 ^ (t % 64) : Nat) : Int) := by rw [← hp64, Int.toNat_natCast]
  simp only [hw, hm, Int.toNat_natCast, hi1, hi2, hi3, cond_true, cond_false, hqg, hp64']
  rw [h1, Option.bind_some]
  dsimp only
  rw [hwt]

theorem Div_run (k : Nat) {a0 a1 a2 a3 b0 b1 : Nat} (ha0 : a0 < 18446744073709551616) (ha1 : a1 < 18446744073709551616) (ha2 : a2 < 18446744073709551616) (ha3 : a3 < 18446744073709551616) (hb0 : b0 < 18446744073709551616) (hb1 : b1 < 18446744073709551616) (hb : 0 < b0 + 18446744073709551616 * b1) :
    ∀ (t m : Nat) (q0 q1 q2 q3 r0 r1 : Nat), t ≤ 256 → t < m → (∀ z ∈ [q0, q1, q2, q3], z < 18446744073709551616) → r0 < 18446744073709551616 → r1 < 18446744073709551616 →
      r0 + 18446744073709551616 * r1 = VB [a0, a1, a2, a3] / 2 ^ t % (b0 + 18446744073709551616 * b1) → VB [q0, q1, q2, q3] = 2 ^ t * (VB [a0, a1, a2, a3] / 2 ^ t / (b0 + 18446744073709551616 * b1)) →
      ∃ p0 p1 p2 p3 s0 s1 : Nat, iter (limb_Div.l4.once (k + 3)) m ((t : Int) - 1, [(a0 : Int), a1, a2, a3], (b0 : Int), (b1 : Int), [(q0 : Int), q1, q2, q3], (r0 : Int), (r1 : Int)) = some ([(p0 : Int), p1, p2, p3], (s0 : Int), (s1 : Int)) ∧
        (∀ z ∈ [p0, p1, p2, p3], z < 18446744073709551616) ∧ s0 < 18446744073709551616 ∧ s1 < 18446744073709551616 ∧ s0 + 18446744073709551616 * s1 = VB [a0, a1, a2, a3] % (b0 + 18446744073709551616 * b1) ∧ VB [p0, p1, p2, p3] = VB [a0, a1, a2, a3] / (b0 + 18446744073709551616 * b1) := by
  intro t
  induction t with
  | zero =>
    intro m q0 q1 q2 q3 r0 r1 _ hm hq h0 h1 hr hQ
    obtain ⟨m, rfl⟩ : ∃ n, m = n + 1 := ⟨m - 1, by omega⟩
    simp only [Nat.pow_zero, Nat.div_one, Nat.one_mul] at hr hQ
    refine ⟨q0, q1, q2, q3, r0, r1, iter_stop ?_, hq, h0, h1, hr, hQ⟩
    unfold limb_Div.l4.once
    dsimp only
    rw [cf (by omega)]
  | succ t ih =>
    intro m q0 q1 q2 q3 r0 r1 ht hm hq h0 h1 hr hQ
    obtain ⟨m, rfl⟩ : ∃ n, m = n + 1 := ⟨m - 1, by omega⟩
    obtain ⟨p0, p1, p2, p3, s0, s1, g1, g2, g3, g4, g5, g6⟩ := Div_step k ha0 ha1 ha2 ha3 hb0 hb1 hq h0 h1 (by omega) hb hr hQ
    rw [show ((t + 1 : Nat) : Int) - 1 = (t : Int) by omega, iter_step g1]
    exact ih m p0 p1 p2 p3 s0 s1 (by omega) (by omega) g2 g3 g4 g5 g6

/-- A quotient, and what is left. -/
theorem Div_eq {k : Nat} (hk : 260 < k) {a : Int × Int × Int × Int} {b : Int × Int} (ha : W4 a) (hb : W2 b) (hn : N2 b ≠ 0) :
    ∃ q r, limb_Div.f k a b = some (q, r, true) ∧ W4 q ∧ W2 r ∧ N4 q = N4 a / N2 b ∧ N2 r = N4 a % N2 b := by
  obtain ⟨k', rfl⟩ : ∃ n, k = n + 3 := ⟨k - 3, by omega⟩
  obtain ⟨a0, a1, a2, a3⟩ := a
  obtain ⟨b0, b1⟩ := b
  obtain ⟨⟨h1, h2⟩, ⟨h3, h4⟩, ⟨h5, h6⟩, h7, h8⟩ := ha
  obtain ⟨⟨h9, h10⟩, h11, h12⟩ := hb
  dsimp only at *
  obtain ⟨a0, rfl⟩ := Int.eq_ofNat_of_zero_le h1
  obtain ⟨a1, rfl⟩ := Int.eq_ofNat_of_zero_le h3
  obtain ⟨a2, rfl⟩ := Int.eq_ofNat_of_zero_le h5
  obtain ⟨a3, rfl⟩ := Int.eq_ofNat_of_zero_le h7
  obtain ⟨b0, rfl⟩ := Int.eq_ofNat_of_zero_le h9
  obtain ⟨b1, rfl⟩ := Int.eq_ofNat_of_zero_le h11
  have hNb : N2 ((b0 : Int), (b1 : Int)) = ((b0 + 18446744073709551616 * b1 : Nat) : Int) := by unfold N2; dsimp only; omega
  have hNa : N4 ((a0 : Int), (a1 : Int), (a2 : Int), (a3 : Int)) = ((VB [a0, a1, a2, a3] : Nat) : Int) := by unfold N4; simp only [VB]; omega
  rw [hNb] at hn ⊢
  rw [hNa]
  have hpos : 0 < b0 + 18446744073709551616 * b1 := by omega
  have hA : VB [a0, a1, a2, a3] / 2 ^ 256 = 0 := Nat.div_eq_of_lt (by simp only [VB]; omega)
  obtain ⟨p0, p1, p2, p3, s0, s1, g1, g2, g3, g4, g5, g6⟩ := Div_run k' (a0 := a0) (a1 := a1) (a2 := a2) (a3 := a3) (b0 := b0) (b1 := b1) (by omega) (by omega) (by omega) (by omega) (by omega) (by omega) hpos 256 (k' + 3) 0 0 0 0 0 0 (Nat.le_refl _) (by omega) (by simp) (by decide) (by decide)
    (by rw [hA, Nat.zero_mod]) (by rw [hA, Nat.zero_div, Nat.mul_zero]; rfl)
  unfold limb_Div.f
  dsimp only
  have hb' : (((b0 : Int) == 0) && ((b1 : Int) == 0)) = false := by
    rw [Bool.eq_false_iff]
    intro h
    simp only [Bool.and_eq_true, beq_iff_eq] at h
    omega
  rw [hb', cond_false]
  have g1' : iter (limb_Div.l4.once (k' + 3)) (k' + 3) (255, [(a0 : Int), a1, a2, a3], (b0 : Int), (b1 : Int), [0, 0, 0, 0], 0, 0) = _ := g1
  rw [g1', Option.bind_some]
  dsimp only
  have hp0 := g2 p0 (by simp)
  have hp1 := g2 p1 (by simp)
  have hp2 := g2 p2 (by simp)
  have hp3 := g2 p3 (by simp)
  refine ⟨((p0 : Int), (p1 : Int), (p2 : Int), (p3 : Int)), ((s0 : Int), (s1 : Int)), rfl, ⟨⟨by dsimp only; omega, by dsimp only; omega⟩, ⟨by dsimp only; omega, by dsimp only; omega⟩, ⟨by dsimp only; omega, by dsimp only; omega⟩, by dsimp only; omega, by dsimp only; omega⟩,
    ⟨⟨by dsimp only; omega, by dsimp only; omega⟩, by dsimp only; omega, by dsimp only; omega⟩, ?_, ?_⟩
  · rw [← Int.natCast_ediv, ← g6]
    unfold N4; simp only [VB]; omega
  · rw [← Int.natCast_emod, ← g5]
    unfold N2; dsimp only; omega
theorem Div_zero (k : Nat) (a : Int × Int × Int × Int) : limb_Div.f k a (0, 0) = some ((0, 0, 0, 0), (0, 0), false) := by
  unfold limb_Div.f
  rfl
end Go.Proofs.Ytlaogfkgkpgofaa.Pure
