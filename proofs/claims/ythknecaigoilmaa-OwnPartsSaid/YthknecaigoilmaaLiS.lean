/- Shifts of a number of four words, and its bits, told by whole numbers. No conditions but that each word is below 2^64. -/
import Derived.Test.YthknecaigoilmaaLiT
namespace Go.Proofs.Ythknecaigoilmaa.Pure
set_option linter.unusedVariables false
set_option linter.unusedSimpArgs false
open Go Go.Ev Go.Lm Go.Pu

theorem p64s {s : Nat} (hs : s ≤ 64) : 2 ^ s * 2 ^ (64 - s) = 18446744073709551616 := by rw [← Nat.pow_add, show s + (64 - s) = 64 by omega]
theorem hi_eq (a : Nat) {s : Nat} (hs : s < 64) : a / 2 ^ (64 - s) = a * 2 ^ s / 18446744073709551616 := by
  rw [← p64s (Nat.le_of_lt hs), Nat.mul_comm (2 ^ s), Nat.mul_div_mul_right _ _ (Nat.two_pow_pos s)]
theorem hi_lt {a s : Nat} (ha : a < 18446744073709551616) (hs : s < 64) : a * 2 ^ s / 18446744073709551616 < 2 ^ s := by
  rw [Nat.div_lt_iff_lt_mul (by decide), Nat.mul_comm (2 ^ s)]
  exact Nat.mul_lt_mul_of_pos_right ha (Nat.two_pow_pos s)
theorem lo_eq (a : Nat) {s : Nat} (hs : s ≤ 64) : a * 2 ^ s % 18446744073709551616 = 2 ^ s * (a % 2 ^ (64 - s)) := by
  rw [← p64s hs, Nat.mul_comm a, Nat.mul_mod_mul_left]
theorem lo_or {a b s : Nat} (hb : b < 18446744073709551616) (hs : s < 64) : (a * 2 ^ s % 18446744073709551616) ||| (b * 2 ^ s / 18446744073709551616) = a * 2 ^ s % 18446744073709551616 + b * 2 ^ s / 18446744073709551616 := by
  rw [lo_eq a (Nat.le_of_lt hs), Nat.two_pow_add_eq_or_of_lt (hi_lt hb hs)]
theorem sh_wrap {a s : Nat} (hs : s < 64) : IntKind.wrap .u64 ((a : Int) * 2 ^ (min (Int.toNat (s : Int)) 64)) = ((a * 2 ^ s % 18446744073709551616 : Nat) : Int) := by
  rw [Int.toNat_natCast, Nat.min_eq_left (by omega), wrap64]
  have : ((a : Int) * 2 ^ s) = ((a * 2 ^ s : Nat) : Int) := by simp
  rw [this]
  exact (Int.natCast_emod _ _).symm
theorem at4 {a0 a1 a2 a3 i : Nat} (hi : i < 4) : ([(a0 : Int), a1, a2, a3].getD i 0) = (([a0, a1, a2, a3].getD i 0 : Nat) : Int) := by
  have : i = 0 ∨ i = 1 ∨ i = 2 ∨ i = 3 := by omega
  rcases this with h | h | h | h <;> rw [h] <;> rfl
theorem at4_lt {a0 a1 a2 a3 i : Nat} (h : ∀ z ∈ [a0, a1, a2, a3], z < 18446744073709551616) (hi : i < 4) : [a0, a1, a2, a3].getD i 0 < 18446744073709551616 := by
  have : i = 0 ∨ i = 1 ∨ i = 2 ∨ i = 3 := by omega
  rcases this with h' | h' | h' | h' <;> rw [h'] <;> exact h _ (by simp)

theorem Left_step (k : Nat) {kk a0 a1 a2 a3 i : Nat} (h : ∀ z ∈ [a0, a1, a2, a3], z < 18446744073709551616) (hkk : kk ≤ 256) (hi : i < 4) (L : List Int) {out : List Int} (hl : out.length = 4) :
    limb_Left.l4.once k ((kk : Int), (i : Int), [(a0 : Int), a1, a2, a3], L, out) = some (.inl ((kk : Int), ((i + 1 : Nat) : Int), [(a0 : Int), a1, a2, a3], L,
      if i < kk / 64 then out else out.set i (([a0, a1, a2, a3].getD (i - kk / 64) 0 * 2 ^ (kk % 64) % 18446744073709551616 + (if kk / 64 < i then [a0, a1, a2, a3].getD (i - kk / 64 - 1) 0 * 2 ^ (kk % 64) / 18446744073709551616 else 0) : Nat) : Int))) := by
  have hw : IntKind.wrap .i64 (Int.tdiv (kk : Int) 64) = ((kk / 64 : Nat) : Int) := by
    rw [show Int.tdiv (kk : Int) 64 = ((kk / 64 : Nat) : Int) from rfl, wrapi (by omega)]
  have hm : Int.tmod (kk : Int) 64 = ((kk % 64 : Nat) : Int) := rfl
  have hs : kk % 64 < 64 := Nat.mod_lt _ (by decide)
  have hi1 : IntKind.wrap .i64 ((i : Int) + 1) = ((i + 1 : Nat) : Int) := by rw [wrapi (by omega)]; omega
  unfold limb_Left.l4.once
  dsimp only
  rw [ct (by omega), hw, hm]
  have hf : IntKind.wrap .i64 ((i : Int) - ((kk / 64 : Nat) : Int)) = (i : Int) - ((kk / 64 : Nat) : Int) := wrapi (by omega)
  rw [hf]
  by_cases hlt : i < kk / 64
  · rw [cf (by omega), if_pos hlt, Option.bind_some]
    dsimp only
    rw [cf (by omega), Option.bind_some]
    dsimp only
    rw [cond_false, hi1]
  · rw [ct (by omega), if_neg hlt]
    have e : ((i : Int) - ((kk / 64 : Nat) : Int)) = ((i - kk / 64 : Nat) : Int) := by omega
    rw [e, inb_t (by omega) (by omega), cond_true, Int.toNat_natCast (i - kk / 64), blt_t (by omega), cond_true, cf (by omega), inb_t (by omega) (by omega), cond_true, Int.toNat_natCast i, blt_t (by omega), cond_true, Option.bind_some]
    dsimp only
    rw [at4 (show i - kk / 64 < 4 by omega), sh_wrap hs]
    by_cases h1 : kk / 64 < i
    · rw [ct (by omega), Option.bind_some]
      dsimp only
      rw [if_pos h1]
      by_cases h0 : kk % 64 = 0
      · rw [hm, h0, cf (by decide), hi1, Nat.pow_zero, Nat.mul_one, Nat.mul_one]
        have := at4_lt h (show i - kk / 64 - 1 < 4 by omega)
        rw [Nat.div_eq_of_lt this]
        rfl
      · rw [hm, ct (by omega), inb_t (by omega) (by omega), cond_true, Int.toNat_natCast i, blt_t (by omega), cond_true]
        have e2 : IntKind.wrap .i64 (((i - kk / 64 : Nat) : Int) - 1) = ((i - kk / 64 - 1 : Nat) : Int) := by rw [wrapi (by omega)]; omega
        have e3 : IntKind.wrap .i64 (64 - ((kk % 64 : Nat) : Int)) = ((64 - kk % 64 : Nat) : Int) := by rw [wrapi (by omega)]; omega
        rw [e2, e3, inb_t (by omega) (by omega), cond_true, Int.toNat_natCast (i - kk / 64 - 1), blt_t (by omega), cond_true, cf (by omega), cond_true, cond_true, hi1]
        rw [at4 (show i - kk / 64 - 1 < 4 by omega), Int.toNat_natCast, Nat.min_eq_left (by omega), fdivp, hi_eq _ hs, List.set_set]
        rw [List.getD_eq_getElem?_getD (l := List.set out i _), List.getElem?_set_self (by omega), Option.getD_some]
        have hlt2 := at4_lt h (show i - kk / 64 - 1 < 4 by omega)
        have hb := hi_lt hlt2 hs
        have h2s : 2 ^ (kk % 64) < 18446744073709551616 := Nat.pow_lt_pow_right (a := 2) (by decide) (n := 64) hs
        rw [or64 (Nat.mod_lt _ (by decide)) (by omega), lo_or hlt2 hs]
    · rw [cf (by omega), Option.bind_some]
      dsimp only
      rw [if_neg h1, cond_false, hi1]
      rfl

/-- Shifted to the left. -/
theorem Left_nat {k : Nat} (hk : 5 < k) {kk a0 a1 a2 a3 : Nat} (h : ∀ z ∈ [a0, a1, a2, a3], z < 18446744073709551616) (hkk : kk ≤ 256) :
    ∃ b0 b1 b2 b3 : Nat, iter (limb_Left.l4.once k) k ((kk : Int), 0, [(a0 : Int), a1, a2, a3], [0, 0, 0, 0], [0, 0, 0, 0]) = some ([0, 0, 0, 0], [(b0 : Int), b1, b2, b3]) ∧ (∀ z ∈ [b0, b1, b2, b3], z < 18446744073709551616) ∧
      VB [b0, b1, b2, b3] = VB [a0, a1, a2, a3] * 2 ^ kk % 115792089237316195423570985008687907853269984665640564039457584007913129639936 := by
  obtain ⟨k', rfl⟩ : ∃ n, k = n + 5 := ⟨k - 5, by omega⟩
  have s0 : ∀ out : List Int, out.length = 4 → limb_Left.l4.once (k' + 5) ((kk : Int), 0, [(a0 : Int), a1, a2, a3], [0, 0, 0, 0], out) = some (.inl ((kk : Int), 1, [(a0 : Int), a1, a2, a3], [0, 0, 0, 0], if 0 < kk / 64 then out else out.set 0 (([a0, a1, a2, a3].getD (0 - kk / 64) 0 * 2 ^ (kk % 64) % 18446744073709551616 + (if kk / 64 < 0 then [a0, a1, a2, a3].getD (0 - kk / 64 - 1) 0 * 2 ^ (kk % 64) / 18446744073709551616 else 0) : Nat) : Int))) := fun out hl => Left_step (k' + 5) h hkk (i := 0) (by decide) [0, 0, 0, 0] (out := out) hl
  have s1 : ∀ out : List Int, out.length = 4 → limb_Left.l4.once (k' + 5) ((kk : Int), 1, [(a0 : Int), a1, a2, a3], [0, 0, 0, 0], out) = some (.inl ((kk : Int), 2, [(a0 : Int), a1, a2, a3], [0, 0, 0, 0], if 1 < kk / 64 then out else out.set 1 (([a0, a1, a2, a3].getD (1 - kk / 64) 0 * 2 ^ (kk % 64) % 18446744073709551616 + (if kk / 64 < 1 then [a0, a1, a2, a3].getD (1 - kk / 64 - 1) 0 * 2 ^ (kk % 64) / 18446744073709551616 else 0) : Nat) : Int))) := fun out hl => Left_step (k' + 5) h hkk (i := 1) (by decide) [0, 0, 0, 0] (out := out) hl
  have s2 : ∀ out : List Int, out.length = 4 → limb_Left.l4.once (k' + 5) ((kk : Int), 2, [(a0 : Int), a1, a2, a3], [0, 0, 0, 0], out) = some (.inl ((kk : Int), 3, [(a0 : Int), a1, a2, a3], [0, 0, 0, 0], if 2 < kk / 64 then out else out.set 2 (([a0, a1, a2, a3].getD (2 - kk / 64) 0 * 2 ^ (kk % 64) % 18446744073709551616 + (if kk / 64 < 2 then [a0, a1, a2, a3].getD (2 - kk / 64 - 1) 0 * 2 ^ (kk % 64) / 18446744073709551616 else 0) : Nat) : Int))) := fun out hl => Left_step (k' + 5) h hkk (i := 2) (by decide) [0, 0, 0, 0] (out := out) hl
  have s3 : ∀ out : List Int, out.length = 4 → limb_Left.l4.once (k' + 5) ((kk : Int), 3, [(a0 : Int), a1, a2, a3], [0, 0, 0, 0], out) = some (.inl ((kk : Int), 4, [(a0 : Int), a1, a2, a3], [0, 0, 0, 0], if 3 < kk / 64 then out else out.set 3 (([a0, a1, a2, a3].getD (3 - kk / 64) 0 * 2 ^ (kk % 64) % 18446744073709551616 + (if kk / 64 < 3 then [a0, a1, a2, a3].getD (3 - kk / 64 - 1) 0 * 2 ^ (kk % 64) / 18446744073709551616 else 0) : Nat) : Int))) := fun out hl => Left_step (k' + 5) h hkk (i := 3) (by decide) [0, 0, 0, 0] (out := out) hl
  have s4 : ∀ out, limb_Left.l4.once (k' + 5) ((kk : Int), 4, [(a0 : Int), a1, a2, a3], [0, 0, 0, 0], out) = some (.inr ([0, 0, 0, 0], out)) := fun out => by unfold limb_Left.l4.once; rfl
  have hs : kk % 64 < 64 := Nat.mod_lt _ (by decide)
  have e : kk = 64 * (kk / 64) + kk % 64 := by omega
  have hw : kk / 64 = 0 ∨ kk / 64 = 1 ∨ kk / 64 = 2 ∨ kk / 64 = 3 ∨ kk / 64 = 4 := by omega
  have hP : (2 : Nat) ^ kk = 18446744073709551616 ^ (kk / 64) * 2 ^ (kk % 64) := by
    rw [show (18446744073709551616 : Nat) = 2 ^ 64 by decide, ← Nat.pow_mul, ← Nat.pow_add, ← e]
  have hh : ∀ z ∈ [a0, a1, a2, a3], z * 2 ^ (kk % 64) / 18446744073709551616 < 2 ^ (kk % 64) := fun z hz => hi_lt (h z hz) hs
  have h2s : 2 ^ (kk % 64) ≤ 9223372036854775808 := by
    have : 2 ^ (kk % 64) ≤ 2 ^ 63 := Nat.pow_le_pow_right (by decide) (by omega)
    omega
  have hor : ∀ a ∈ [a0, a1, a2, a3], ∀ b ∈ [a0, a1, a2, a3], a * 2 ^ (kk % 64) % 18446744073709551616 + b * 2 ^ (kk % 64) / 18446744073709551616 < 18446744073709551616 := fun a ha b hb => by
    rw [← lo_or (h b hb) hs]
    exact or_lt (Nat.mod_lt _ (by decide)) (by have := hh b hb; omega)
  rw [hP]
  generalize hPP : 2 ^ (kk % 64) = P at *
  have c01 := hor a1 (by simp) a0 (by simp)
  have c12 := hor a2 (by simp) a1 (by simp)
  have c23 := hor a3 (by simp) a2 (by simp)
  rcases hw with hw | hw | hw | hw | hw <;> rw [hw] at s0 s1 s2 s3 ⊢
  · rw [iter_step (s0 _ rfl), iter_step (s1 _ rfl), iter_step (s2 _ rfl), iter_step (s3 _ rfl), iter_stop (s4 _)]
    refine ⟨a0 * P % 18446744073709551616, a1 * P % 18446744073709551616 + a0 * P / 18446744073709551616, a2 * P % 18446744073709551616 + a1 * P / 18446744073709551616, a3 * P % 18446744073709551616 + a2 * P / 18446744073709551616, rfl, ?_, ?_⟩
    · simp only [List.mem_cons, List.not_mem_nil, or_false]; rintro z (rfl | rfl | rfl | rfl) <;> omega
    · have : VB [a0, a1, a2, a3] * (18446744073709551616 ^ 0 * P) = a0 * P + 18446744073709551616 * (a1 * P + 18446744073709551616 * (a2 * P + 18446744073709551616 * (a3 * P))) := by simp only [VB]; grind
      rw [this]; simp only [VB]; omega
  · rw [iter_step (s0 _ rfl), iter_step (s1 _ rfl), iter_step (s2 _ rfl), iter_step (s3 _ rfl), iter_stop (s4 _)]
    refine ⟨0, a0 * P % 18446744073709551616, a1 * P % 18446744073709551616 + a0 * P / 18446744073709551616, a2 * P % 18446744073709551616 + a1 * P / 18446744073709551616, rfl, ?_, ?_⟩
    · simp only [List.mem_cons, List.not_mem_nil, or_false]; rintro z (rfl | rfl | rfl | rfl) <;> omega
    · have : VB [a0, a1, a2, a3] * (18446744073709551616 ^ 1 * P) = 18446744073709551616 * (a0 * P + 18446744073709551616 * (a1 * P + 18446744073709551616 * (a2 * P + 18446744073709551616 * (a3 * P)))) := by simp only [VB]; grind
      rw [this]; simp only [VB]; omega
  · rw [iter_step (s0 _ rfl), iter_step (s1 _ rfl), iter_step (s2 _ rfl), iter_step (s3 _ rfl), iter_stop (s4 _)]
    refine ⟨0, 0, a0 * P % 18446744073709551616, a1 * P % 18446744073709551616 + a0 * P / 18446744073709551616, rfl, ?_, ?_⟩
    · simp only [List.mem_cons, List.not_mem_nil, or_false]; rintro z (rfl | rfl | rfl | rfl) <;> omega
    · have : VB [a0, a1, a2, a3] * (18446744073709551616 ^ 2 * P) = 340282366920938463463374607431768211456 * (a0 * P + 18446744073709551616 * (a1 * P + 18446744073709551616 * (a2 * P + 18446744073709551616 * (a3 * P)))) := by simp only [VB]; grind
      rw [this]; simp only [VB]; omega
  · rw [iter_step (s0 _ rfl), iter_step (s1 _ rfl), iter_step (s2 _ rfl), iter_step (s3 _ rfl), iter_stop (s4 _)]
    refine ⟨0, 0, 0, a0 * P % 18446744073709551616, rfl, ?_, ?_⟩
    · simp only [List.mem_cons, List.not_mem_nil, or_false]; rintro z (rfl | rfl | rfl | rfl) <;> omega
    · have : VB [a0, a1, a2, a3] * (18446744073709551616 ^ 3 * P) = 6277101735386680763835789423207666416102355444464034512896 * (a0 * P + 18446744073709551616 * (a1 * P + 18446744073709551616 * (a2 * P + 18446744073709551616 * (a3 * P)))) := by simp only [VB]; grind
      rw [this]; simp only [VB]; omega
  · rw [iter_step (s0 _ rfl), iter_step (s1 _ rfl), iter_step (s2 _ rfl), iter_step (s3 _ rfl), iter_stop (s4 _)]
    refine ⟨0, 0, 0, 0, rfl, by simp, ?_⟩
    have : VB [a0, a1, a2, a3] * (18446744073709551616 ^ 4 * P) = 115792089237316195423570985008687907853269984665640564039457584007913129639936 * (a0 * P + 18446744073709551616 * (a1 * P + 18446744073709551616 * (a2 * P + 18446744073709551616 * (a3 * P)))) := by simp only [VB]; grind
    rw [this]; simp only [VB]; omega

theorem Right_step (k : Nat) {kk a0 a1 a2 a3 i : Nat} (h : ∀ z ∈ [a0, a1, a2, a3], z < 18446744073709551616) (hkk : kk ≤ 256) (hi : i < 4) (L : List Int) {out : List Int} (hl : out.length = 4) :
    limb_Right.l4.once k ((kk : Int), (i : Int), [(a0 : Int), a1, a2, a3], L, out) = some (.inl ((kk : Int), ((i + 1 : Nat) : Int), [(a0 : Int), a1, a2, a3], L,
      if i + kk / 64 < 4 then out.set i (([a0, a1, a2, a3].getD (i + kk / 64) 0 / 2 ^ (kk % 64) + (if i + kk / 64 + 1 < 4 then [a0, a1, a2, a3].getD (i + kk / 64 + 1) 0 * 2 ^ (64 - kk % 64) % 18446744073709551616 else 0) : Nat) : Int) else out)) := by
  have hw : IntKind.wrap .i64 (Int.tdiv (kk : Int) 64) = ((kk / 64 : Nat) : Int) := by
    rw [show Int.tdiv (kk : Int) 64 = ((kk / 64 : Nat) : Int) from rfl, wrapi (by omega)]
  have hm : Int.tmod (kk : Int) 64 = ((kk % 64 : Nat) : Int) := rfl
  have hs : kk % 64 < 64 := Nat.mod_lt _ (by decide)
  have hi1 : IntKind.wrap .i64 ((i : Int) + 1) = ((i + 1 : Nat) : Int) := by rw [wrapi (by omega)]; omega
  unfold limb_Right.l4.once
  dsimp only
  rw [ct (by omega), hw, hm]
  have hf : IntKind.wrap .i64 ((i : Int) + ((kk / 64 : Nat) : Int)) = ((i + kk / 64 : Nat) : Int) := by rw [wrapi (by omega)]; omega
  have hf2 : IntKind.wrap .i64 (((i + kk / 64 : Nat) : Int) + 1) = ((i + kk / 64 + 1 : Nat) : Int) := by rw [wrapi (by omega)]; omega
  rw [hf]
  by_cases hlt : i + kk / 64 < 4
  · rw [ct (by omega), if_pos hlt, inb_t (by omega) (by omega), cond_true, Int.toNat_natCast (i + kk / 64), blt_t (by omega), cond_true, cf (by omega), inb_t (by omega) (by omega), cond_true, Int.toNat_natCast i, blt_t (by omega), cond_true, Option.bind_some]
    dsimp only
    rw [hf2, at4 (show i + kk / 64 < 4 by omega), Int.toNat_natCast (kk % 64), Nat.min_eq_left (show kk % 64 ≤ 64 by omega), fdivp]
    by_cases h1 : i + kk / 64 + 1 < 4
    · rw [ct (by omega), Option.bind_some]
      dsimp only
      rw [if_pos h1]
      by_cases h0 : kk % 64 = 0
      · rw [hm, h0, cf (by decide), hi1, Nat.sub_zero, Nat.pow_zero, Nat.div_one]
        rw [show (2 : Nat) ^ 64 = 18446744073709551616 by decide, Nat.mul_mod_left]
        rfl
      · rw [hm, ct (by omega), inb_t (by omega) (by omega), cond_true, Int.toNat_natCast i, blt_t (by omega), cond_true]
        have e3 : IntKind.wrap .i64 (64 - ((kk % 64 : Nat) : Int)) = ((64 - kk % 64 : Nat) : Int) := by rw [wrapi (by omega)]; omega
        rw [hf2, e3, inb_t (by omega) (by omega), cond_true, Int.toNat_natCast (i + kk / 64 + 1), blt_t (by omega), cond_true, cf (by omega), cond_true, cond_true, hi1]
        rw [at4 (show i + kk / 64 + 1 < 4 by omega), sh_wrap (show 64 - kk % 64 < 64 by omega), List.set_set]
        rw [List.getD_eq_getElem?_getD (l := List.set out i _), List.getElem?_set_self (by omega), Option.getD_some]
        have hlt1 := at4_lt h (show i + kk / 64 < 4 by omega)
        have hd : [a0, a1, a2, a3].getD (i + kk / 64) 0 / 2 ^ (kk % 64) < 2 ^ (64 - kk % 64) := by
          rw [Nat.div_lt_iff_lt_mul (Nat.two_pow_pos _), Nat.mul_comm, p64s (Nat.le_of_lt hs)]
          exact hlt1
        rw [or64 (Nat.lt_of_le_of_lt (Nat.div_le_self _ _) hlt1) (Nat.mod_lt _ (by decide)), lo_eq _ (show 64 - kk % 64 ≤ 64 by omega), Nat.or_comm, ← Nat.two_pow_add_eq_or_of_lt hd, Nat.add_comm (2 ^ (64 - kk % 64) * _)]
    · rw [cf (by omega), Option.bind_some]
      dsimp only
      rw [if_neg h1, cond_false, hi1]
      rfl
  · rw [cf (by omega), if_neg hlt, Option.bind_some]
    dsimp only
    rw [hf2, cf (by omega), Option.bind_some]
    dsimp only
    rw [cond_false, hi1]

theorem rshift (c0 c1 c2 c3 : Nat) {s : Nat} (hs : s < 64) (h0 : c0 < 18446744073709551616) : (c0 + 18446744073709551616 * (c1 + 18446744073709551616 * (c2 + 18446744073709551616 * c3))) / 2 ^ s =
    (c0 / 2 ^ s + c1 * 2 ^ (64 - s) % 18446744073709551616) + 18446744073709551616 * ((c1 / 2 ^ s + c2 * 2 ^ (64 - s) % 18446744073709551616) + 18446744073709551616 * ((c2 / 2 ^ s + c3 * 2 ^ (64 - s) % 18446744073709551616) + 18446744073709551616 * (c3 / 2 ^ s))) := by
  have hST := p64s (Nat.le_of_lt hs)
  have l : ∀ c : Nat, c * 2 ^ (64 - s) % 18446744073709551616 = 2 ^ (64 - s) * (c % 2 ^ s) := fun c => by
    rw [lo_eq c (show 64 - s ≤ 64 by omega), show 64 - (64 - s) = s by omega]
  rw [l, l, l]
  have d0 := Nat.div_add_mod c0 (2 ^ s)
  have d1 := Nat.div_add_mod c1 (2 ^ s)
  have d2 := Nat.div_add_mod c2 (2 ^ s)
  have d3 := Nat.div_add_mod c3 (2 ^ s)
  have hlt := Nat.mod_lt c0 (Nat.two_pow_pos s)
  have hpos := Nat.two_pow_pos s
  generalize 2 ^ (64 - s) = T at *
  generalize 2 ^ s = S at *
  generalize c0 / S = u0 at *
  generalize c1 / S = u1 at *
  generalize c2 / S = u2 at *
  generalize c3 / S = u3 at *
  generalize c0 % S = v0 at *
  generalize c1 % S = v1 at *
  generalize c2 % S = v2 at *
  generalize c3 % S = v3 at *
  have e : c0 + 18446744073709551616 * (c1 + 18446744073709551616 * (c2 + 18446744073709551616 * c3)) = S * ((u0 + T * v1) + 18446744073709551616 * ((u1 + T * v2) + 18446744073709551616 * ((u2 + T * v3) + 18446744073709551616 * u3))) + v0 := by
    subst d0; subst d1; subst d2; subst d3
    rw [← hST]
    grind
  rw [e, Nat.mul_add_div hpos, Nat.div_eq_of_lt hlt, Nat.add_zero]

/-- Shifted to the right. -/
theorem Right_nat {k : Nat} (hk : 5 < k) {kk a0 a1 a2 a3 : Nat} (h : ∀ z ∈ [a0, a1, a2, a3], z < 18446744073709551616) (hkk : kk ≤ 256) :
    ∃ b0 b1 b2 b3 : Nat, iter (limb_Right.l4.once k) k ((kk : Int), 0, [(a0 : Int), a1, a2, a3], [0, 0, 0, 0], [0, 0, 0, 0]) = some ([0, 0, 0, 0], [(b0 : Int), b1, b2, b3]) ∧ (∀ z ∈ [b0, b1, b2, b3], z < 18446744073709551616) ∧
      VB [b0, b1, b2, b3] = VB [a0, a1, a2, a3] / 2 ^ kk := by
  obtain ⟨k', rfl⟩ : ∃ n, k = n + 5 := ⟨k - 5, by omega⟩
  have s0 : ∀ out : List Int, out.length = 4 → limb_Right.l4.once (k' + 5) ((kk : Int), 0, [(a0 : Int), a1, a2, a3], [0, 0, 0, 0], out) = some (.inl ((kk : Int), 1, [(a0 : Int), a1, a2, a3], [0, 0, 0, 0], if 0 + kk / 64 < 4 then out.set 0 (([a0, a1, a2, a3].getD (0 + kk / 64) 0 / 2 ^ (kk % 64) + (if 0 + kk / 64 + 1 < 4 then [a0, a1, a2, a3].getD (0 + kk / 64 + 1) 0 * 2 ^ (64 - kk % 64) % 18446744073709551616 else 0) : Nat) : Int) else out)) := fun out hl => Right_step (k' + 5) h hkk (i := 0) (by decide) [0, 0, 0, 0] (out := out) hl
  have s1 : ∀ out : List Int, out.length = 4 → limb_Right.l4.once (k' + 5) ((kk : Int), 1, [(a0 : Int), a1, a2, a3], [0, 0, 0, 0], out) = some (.inl ((kk : Int), 2, [(a0 : Int), a1, a2, a3], [0, 0, 0, 0], if 1 + kk / 64 < 4 then out.set 1 (([a0, a1, a2, a3].getD (1 + kk / 64) 0 / 2 ^ (kk % 64) + (if 1 + kk / 64 + 1 < 4 then [a0, a1, a2, a3].getD (1 + kk / 64 + 1) 0 * 2 ^ (64 - kk % 64) % 18446744073709551616 else 0) : Nat) : Int) else out)) := fun out hl => Right_step (k' + 5) h hkk (i := 1) (by decide) [0, 0, 0, 0] (out := out) hl
  have s2 : ∀ out : List Int, out.length = 4 → limb_Right.l4.once (k' + 5) ((kk : Int), 2, [(a0 : Int), a1, a2, a3], [0, 0, 0, 0], out) = some (.inl ((kk : Int), 3, [(a0 : Int), a1, a2, a3], [0, 0, 0, 0], if 2 + kk / 64 < 4 then out.set 2 (([a0, a1, a2, a3].getD (2 + kk / 64) 0 / 2 ^ (kk % 64) + (if 2 + kk / 64 + 1 < 4 then [a0, a1, a2, a3].getD (2 + kk / 64 + 1) 0 * 2 ^ (64 - kk % 64) % 18446744073709551616 else 0) : Nat) : Int) else out)) := fun out hl => Right_step (k' + 5) h hkk (i := 2) (by decide) [0, 0, 0, 0] (out := out) hl
  have s3 : ∀ out : List Int, out.length = 4 → limb_Right.l4.once (k' + 5) ((kk : Int), 3, [(a0 : Int), a1, a2, a3], [0, 0, 0, 0], out) = some (.inl ((kk : Int), 4, [(a0 : Int), a1, a2, a3], [0, 0, 0, 0], if 3 + kk / 64 < 4 then out.set 3 (([a0, a1, a2, a3].getD (3 + kk / 64) 0 / 2 ^ (kk % 64) + (if 3 + kk / 64 + 1 < 4 then [a0, a1, a2, a3].getD (3 + kk / 64 + 1) 0 * 2 ^ (64 - kk % 64) % 18446744073709551616 else 0) : Nat) : Int) else out)) := fun out hl => Right_step (k' + 5) h hkk (i := 3) (by decide) [0, 0, 0, 0] (out := out) hl
  have s4 : ∀ out, limb_Right.l4.once (k' + 5) ((kk : Int), 4, [(a0 : Int), a1, a2, a3], [0, 0, 0, 0], out) = some (.inr ([0, 0, 0, 0], out)) := fun out => by unfold limb_Right.l4.once; rfl
  have hs : kk % 64 < 64 := Nat.mod_lt _ (by decide)
  have e : kk = 64 * (kk / 64) + kk % 64 := by omega
  have hw : kk / 64 = 0 ∨ kk / 64 = 1 ∨ kk / 64 = 2 ∨ kk / 64 = 3 ∨ kk / 64 = 4 := by omega
  have hP : VB [a0, a1, a2, a3] / 2 ^ kk = VB [a0, a1, a2, a3] / 18446744073709551616 ^ (kk / 64) / 2 ^ (kk % 64) := by
    rw [Nat.div_div_eq_div_mul, show (18446744073709551616 : Nat) = 2 ^ 64 by decide, ← Nat.pow_mul, ← Nat.pow_add, ← e]
  have q0 := h a0 (by simp)
  have q1 := h a1 (by simp)
  have q2 := h a2 (by simp)
  have q3 := h a3 (by simp)
  have hor : ∀ a ∈ [a0, a1, a2, a3], ∀ b ∈ [a0, a1, a2, a3], a / 2 ^ (kk % 64) + b * 2 ^ (64 - kk % 64) % 18446744073709551616 < 18446744073709551616 := fun a ha b hb => by
    have hlt1 := h a ha
    have hd : a / 2 ^ (kk % 64) < 2 ^ (64 - kk % 64) := by
      rw [Nat.div_lt_iff_lt_mul (Nat.two_pow_pos _), Nat.mul_comm, p64s (Nat.le_of_lt hs)]
      exact hlt1
    rw [lo_eq _ (show 64 - kk % 64 ≤ 64 by omega), Nat.add_comm, Nat.two_pow_add_eq_or_of_lt hd, ← lo_eq _ (show 64 - kk % 64 ≤ 64 by omega)]
    exact or_lt (Nat.mod_lt _ (by decide)) (Nat.lt_of_le_of_lt (Nat.div_le_self _ _) hlt1)
  have c01 := hor a0 (by simp) a1 (by simp)
  have c12 := hor a1 (by simp) a2 (by simp)
  have c23 := hor a2 (by simp) a3 (by simp)
  have c3 : a3 / 2 ^ (kk % 64) < 18446744073709551616 := Nat.lt_of_le_of_lt (Nat.div_le_self _ _) q3
  rw [hP]
  rcases hw with hw | hw | hw | hw | hw <;> rw [hw] at s0 s1 s2 s3 ⊢
  · rw [iter_step (s0 _ rfl), iter_step (s1 _ rfl), iter_step (s2 _ rfl), iter_step (s3 _ rfl), iter_stop (s4 _)]
    refine ⟨a0 / 2 ^ (kk % 64) + a1 * 2 ^ (64 - kk % 64) % 18446744073709551616, a1 / 2 ^ (kk % 64) + a2 * 2 ^ (64 - kk % 64) % 18446744073709551616, a2 / 2 ^ (kk % 64) + a3 * 2 ^ (64 - kk % 64) % 18446744073709551616, a3 / 2 ^ (kk % 64), rfl, ?_, ?_⟩
    · simp only [List.mem_cons, List.not_mem_nil, or_false]; rintro z (rfl | rfl | rfl | rfl) <;> assumption
    · have : VB [a0, a1, a2, a3] / 18446744073709551616 ^ 0 = a0 + 18446744073709551616 * (a1 + 18446744073709551616 * (a2 + 18446744073709551616 * a3)) := by simp only [VB]; omega
      rw [this, rshift _ _ _ _ hs q0]; simp only [VB]; omega
  · rw [iter_step (s0 _ rfl), iter_step (s1 _ rfl), iter_step (s2 _ rfl), iter_step (s3 _ rfl), iter_stop (s4 _)]
    refine ⟨a1 / 2 ^ (kk % 64) + a2 * 2 ^ (64 - kk % 64) % 18446744073709551616, a2 / 2 ^ (kk % 64) + a3 * 2 ^ (64 - kk % 64) % 18446744073709551616, a3 / 2 ^ (kk % 64), 0, rfl, ?_, ?_⟩
    · simp only [List.mem_cons, List.not_mem_nil, or_false]; rintro z (rfl | rfl | rfl | rfl) <;> first | assumption | decide
    · have : VB [a0, a1, a2, a3] / 18446744073709551616 ^ 1 = a1 + 18446744073709551616 * (a2 + 18446744073709551616 * (a3 + 18446744073709551616 * 0)) := by simp only [VB]; omega
      rw [this, rshift _ _ _ _ hs q1]; simp only [VB, Nat.zero_mul, Nat.zero_div, Nat.zero_mod]; try omega
  · rw [iter_step (s0 _ rfl), iter_step (s1 _ rfl), iter_step (s2 _ rfl), iter_step (s3 _ rfl), iter_stop (s4 _)]
    refine ⟨a2 / 2 ^ (kk % 64) + a3 * 2 ^ (64 - kk % 64) % 18446744073709551616, a3 / 2 ^ (kk % 64), 0, 0, rfl, ?_, ?_⟩
    · simp only [List.mem_cons, List.not_mem_nil, or_false]; rintro z (rfl | rfl | rfl | rfl) <;> first | assumption | decide
    · have : VB [a0, a1, a2, a3] / 18446744073709551616 ^ 2 = a2 + 18446744073709551616 * (a3 + 18446744073709551616 * (0 + 18446744073709551616 * 0)) := by simp only [VB]; omega
      rw [this, rshift _ _ _ _ hs q2]; simp only [VB, Nat.zero_mul, Nat.zero_div, Nat.zero_mod]; try omega
  · rw [iter_step (s0 _ rfl), iter_step (s1 _ rfl), iter_step (s2 _ rfl), iter_step (s3 _ rfl), iter_stop (s4 _)]
    refine ⟨a3 / 2 ^ (kk % 64), 0, 0, 0, rfl, ?_, ?_⟩
    · simp only [List.mem_cons, List.not_mem_nil, or_false]; rintro z (rfl | rfl | rfl | rfl) <;> first | assumption | decide
    · have : VB [a0, a1, a2, a3] / 18446744073709551616 ^ 3 = a3 := by simp only [VB]; omega
      rw [this]; simp only [VB]; omega
  · rw [iter_step (s0 _ rfl), iter_step (s1 _ rfl), iter_step (s2 _ rfl), iter_step (s3 _ rfl), iter_stop (s4 _)]
    refine ⟨0, 0, 0, 0, rfl, by simp, ?_⟩
    have : VB [a0, a1, a2, a3] / 18446744073709551616 ^ 4 = 0 := by simp only [VB]; omega
    rw [this]; simp only [VB, Nat.zero_div]

theorem odd_pos {d : Nat} (h : d % 2 = 1) : 1 ≤ d := by omega
theorem even_lt {d : Nat} (h : d < 2) (h' : ¬ d % 2 = 1) : d < 1 := by omega
/-- How many bits. -/
theorem Bits_nat {k : Nat} (hk : 260 < k) {a0 a1 a2 a3 : Nat} (h : ∀ z ∈ [a0, a1, a2, a3], z < 18446744073709551616) :
    ∃ b : Nat, limb_Bits.f k ((a0 : Int), (a1 : Int), (a2 : Int), (a3 : Int)) = some (b : Int) ∧ b ≤ 256 ∧ VB [a0, a1, a2, a3] < 2 ^ b ∧ (b = 0 ∨ 2 ^ (b - 1) ≤ VB [a0, a1, a2, a3]) := by
  have q0 := h a0 (by simp)
  have q1 := h a1 (by simp)
  have q2 := h a2 (by simp)
  have q3 := h a3 (by simp)
  unfold limb_Bits.f
  have key : ∀ (t m : Nat), t ≤ 256 → t < m → VB [a0, a1, a2, a3] < 2 ^ t → (VB [a0, a1, a2, a3] = 0 ∧ iter (limb_Bits.l2.once k) m ((t : Int) - 1, [(a0 : Int), a1, a2, a3]) = some (.inl ())) ∨
      ∃ b : Nat, 0 < b ∧ iter (limb_Bits.l2.once k) m ((t : Int) - 1, [(a0 : Int), a1, a2, a3]) = some (.inr (b : Int)) ∧ b ≤ 256 ∧ VB [a0, a1, a2, a3] < 2 ^ b ∧ 2 ^ (b - 1) ≤ VB [a0, a1, a2, a3] := by
    intro t
    induction t with
    | zero =>
      intro m _ hm hv
      obtain ⟨m, rfl⟩ : ∃ n, m = n + 1 := ⟨m - 1, by omega⟩
      left
      refine ⟨by simpa using hv, iter_stop ?_⟩
      unfold limb_Bits.l2.once
      dsimp only
      rw [cf (by omega)]
    | succ t ih =>
      intro m ht hm hv
      obtain ⟨m, rfl⟩ : ∃ n, m = n + 1 := ⟨m - 1, by omega⟩
      have hw : IntKind.wrap .i64 (Int.tdiv (t : Int) 64) = ((t / 64 : Nat) : Int) := by
        rw [show Int.tdiv (t : Int) 64 = ((t / 64 : Nat) : Int) from rfl, wrapi (by omega)]
      have hmm : Int.tmod (t : Int) 64 = ((t % 64 : Nat) : Int) := rfl
      have hi4 : t / 64 < 4 := by omega
      have hbit := bit_at (d := a3) q0 q1 q2 (show t < 256 by omega)
      have once : limb_Bits.l2.once k (((t + 1 : Nat) : Int) - 1, [(a0 : Int), a1, a2, a3]) = cond (decide (((VB [a0, a1, a2, a3] / 2 ^ t % 2 : Nat) : Int) > 0)) (some (.inr (.inr ((t + 1 : Nat) : Int)))) (some (.inl ((t : Int) - 1, [(a0 : Int), a1, a2, a3]))) := by
        unfold limb_Bits.l2.once
        dsimp only
        rw [show ((t + 1 : Nat) : Int) - 1 = (t : Int) by omega, ct (by omega), hw, hmm, inb_t (by omega) (by omega), cond_true, Int.toNat_natCast (t / 64), blt_t (by omega), cond_true, cf (show ¬ (((t % 64 : Nat) : Int) < 0) by omega), at4 hi4, Int.toNat_natCast, Nat.min_eq_left (show t % 64 ≤ 64 by omega), fdivp,
          and_one (Nat.lt_of_le_of_lt (Nat.div_le_self _ _) (at4_lt h hi4)), hbit, wrapi (show -9223372036854775808 ≤ (t : Int) + 1 ∧ (t : Int) + 1 < 9223372036854775808 by omega), wrapi (show -9223372036854775808 ≤ (t : Int) - 1 ∧ (t : Int) - 1 < 9223372036854775808 by omega)]
        rfl
      have hdl : VB [a0, a1, a2, a3] / 2 ^ t < 2 := by rw [Nat.div_lt_iff_lt_mul (Nat.two_pow_pos t), Nat.mul_comm, ← Nat.pow_succ]; exact hv
      by_cases hb : VB [a0, a1, a2, a3] / 2 ^ t % 2 = 1
      · right
        rw [ct (by omega)] at once
        refine ⟨t + 1, by omega, iter_stop once, by omega, hv, ?_⟩
        have : 1 ≤ VB [a0, a1, a2, a3] / 2 ^ t := odd_pos hb
        rw [Nat.le_div_iff_mul_le (Nat.two_pow_pos t), Nat.one_mul] at this
        exact this
      · rw [cf (by omega)] at once
        rw [iter_step once]
        refine ih m (by omega) (by omega) ?_
        have : VB [a0, a1, a2, a3] / 2 ^ t < 1 := even_lt hdl hb
        rw [Nat.div_lt_iff_lt_mul (Nat.two_pow_pos t), Nat.one_mul] at this
        exact this
  have hb : VB [a0, a1, a2, a3] < 2 ^ 256 := by simp only [VB]; omega
  rcases key 256 k (Nat.le_refl _) (by omega) hb with ⟨h0, h1⟩ | ⟨b, hb0, h1, h2, h3, h4⟩
  · have h1' : iter (limb_Bits.l2.once k) k (255, [(a0 : Int), a1, a2, a3]) = _ := h1
    rw [h1', Option.bind_some]
    exact ⟨0, rfl, by omega, by rw [h0]; decide, .inl rfl⟩
  · have h1' : iter (limb_Bits.l2.once k) k (255, [(a0 : Int), a1, a2, a3]) = _ := h1
    rw [h1', Option.bind_some]
    exact ⟨b, rfl, h2, h3, .inr h4⟩

/-- A number of four words as naturals. -/
theorem nat4 {x : Int × Int × Int × Int} (h : W4 x) : ∃ a0 a1 a2 a3 : Nat, x = ((a0 : Int), (a1 : Int), (a2 : Int), (a3 : Int)) ∧ (∀ z ∈ [a0, a1, a2, a3], z < 18446744073709551616) ∧ N4 x = ((VB [a0, a1, a2, a3] : Nat) : Int) := by
  obtain ⟨a, b, c, d⟩ := x
  obtain ⟨⟨h1, h2⟩, ⟨h3, h4⟩, ⟨h5, h6⟩, h7, h8⟩ := h
  dsimp only at *
  obtain ⟨a0, rfl⟩ := Int.eq_ofNat_of_zero_le h1
  obtain ⟨a1, rfl⟩ := Int.eq_ofNat_of_zero_le h3
  obtain ⟨a2, rfl⟩ := Int.eq_ofNat_of_zero_le h5
  obtain ⟨a3, rfl⟩ := Int.eq_ofNat_of_zero_le h7
  refine ⟨a0, a1, a2, a3, rfl, ?_, by unfold N4; simp only [VB]; omega⟩
  simp only [List.mem_cons, List.not_mem_nil, or_false]; rintro z (rfl | rfl | rfl | rfl) <;> omega
theorem w4_nat {b0 b1 b2 b3 : Nat} (h : ∀ z ∈ [b0, b1, b2, b3], z < 18446744073709551616) : W4 ((b0 : Int), (b1 : Int), (b2 : Int), (b3 : Int)) ∧ N4 ((b0 : Int), (b1 : Int), (b2 : Int), (b3 : Int)) = ((VB [b0, b1, b2, b3] : Nat) : Int) := by
  have q0 := h b0 (by simp)
  have q1 := h b1 (by simp)
  have q2 := h b2 (by simp)
  have q3 := h b3 (by simp)
  refine ⟨⟨⟨by dsimp only; omega, by dsimp only; omega⟩, ⟨by dsimp only; omega, by dsimp only; omega⟩, ⟨by dsimp only; omega, by dsimp only; omega⟩, by dsimp only; omega, by dsimp only; omega⟩, by unfold N4; simp only [VB]; omega⟩
theorem clamp_eq (p : Int) : ∃ kk : Nat, kk ≤ 256 ∧ (if (if 256 < p then 256 else p) > 0 then (if 256 < p then 256 else p) else 0) = (kk : Int) ∧ (kk : Int) = max 0 (min p 256) := by
  refine ⟨(max 0 (min p 256)).toNat, by omega, ?_, by omega⟩
  split <;> split <;> omega
theorem Left_eq {k : Nat} (hk : 5 < k) {x : Int × Int × Int × Int} (h : W4 x) (p : Int) : ∃ z, limb_Left.f k x p = some z ∧ W4 z ∧ N4 z = N4 x * 2 ^ (max 0 (min p 256)).toNat % 115792089237316195423570985008687907853269984665640564039457584007913129639936 := by
  obtain ⟨a0, a1, a2, a3, rfl, ha, hN⟩ := nat4 h
  obtain ⟨kk, hkk, e1, e2⟩ := clamp_eq p
  obtain ⟨b0, b1, b2, b3, h1, h2, h3⟩ := Left_nat hk ha hkk
  unfold limb_Left.f
  dsimp only
  rw [e1, h1, Option.bind_some]
  obtain ⟨w1, w2⟩ := w4_nat h2
  refine ⟨_, rfl, w1, ?_⟩
  have : N4 ((b0 : Int), (b1 : Int), (b2 : Int), (b3 : Int)) = _ := w2
  rw [← e2, Int.toNat_natCast, hN]
  refine this.trans ?_
  rw [h3, Int.natCast_emod, Int.natCast_mul, Int.natCast_pow]
  rfl
theorem Right_eq {k : Nat} (hk : 5 < k) {x : Int × Int × Int × Int} (h : W4 x) (p : Int) : ∃ z, limb_Right.f k x p = some z ∧ W4 z ∧ N4 z = N4 x / 2 ^ (max 0 (min p 256)).toNat := by
  obtain ⟨a0, a1, a2, a3, rfl, ha, hN⟩ := nat4 h
  obtain ⟨kk, hkk, e1, e2⟩ := clamp_eq p
  obtain ⟨b0, b1, b2, b3, h1, h2, h3⟩ := Right_nat hk ha hkk
  unfold limb_Right.f
  dsimp only
  rw [e1, h1, Option.bind_some]
  obtain ⟨w1, w2⟩ := w4_nat h2
  refine ⟨_, rfl, w1, ?_⟩
  have : N4 ((b0 : Int), (b1 : Int), (b2 : Int), (b3 : Int)) = _ := w2
  rw [← e2, Int.toNat_natCast, hN]
  refine this.trans ?_
  rw [h3, Int.natCast_ediv, Int.natCast_pow]
  rfl
theorem Bits_eq {k : Nat} (hk : 260 < k) {x : Int × Int × Int × Int} (h : W4 x) : ∃ b : Nat, limb_Bits.f k x = some (b : Int) ∧ b ≤ 256 ∧ N4 x < 2 ^ b ∧ (b = 0 ∨ 2 ^ (b - 1) ≤ N4 x) := by
  obtain ⟨a0, a1, a2, a3, rfl, ha, hN⟩ := nat4 h
  obtain ⟨b, h1, h2, h3, h4⟩ := Bits_nat hk ha
  refine ⟨b, h1, h2, ?_, ?_⟩
  · rw [hN, show (2 : Int) ^ b = ((2 ^ b : Nat) : Int) by simp]; omega
  · rw [hN, show (2 : Int) ^ (b - 1) = ((2 ^ (b - 1) : Nat) : Int) by simp]; omega
end Go.Proofs.Ythknecaigoilmaa.Pure
