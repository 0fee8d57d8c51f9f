/- Words of 64 bits as whole numbers: their sums, differences, bits. No conditions but that each is below 2^64. -/
import Derived.Laws.BitsLemmas
import Derived.ChangeShapes
import Derived.Test.YthknecaigoilmaaPu
namespace Go.Lm
open Go Go.Pu

theorem ofInt64 {a : Nat} (h : a < 18446744073709551616) : (BitVec.ofInt 64 (a : Int)).toNat = a := by
  rw [BitVec.ofInt_natCast, BitVec.toNat_ofNat]
  exact Nat.mod_eq_of_lt h
theorem not64 {a : Nat} (ha : a < 18446744073709551616) : bits .xor .u64 18446744073709551615 a = ((18446744073709551615 - a : Nat) : Int) := by
  have h : (BitVec.ofInt 64 18446744073709551615 ^^^ BitVec.ofInt 64 (a : Int)).toNat = 18446744073709551615 - a := by
    have e : BitVec.ofInt 64 18446744073709551615 = BitVec.allOnes 64 := by decide
    rw [e, BitVec.allOnes_xor, BitVec.toNat_not, ofInt64 ha]
  show IntKind.u64.wrap ((BitVec.ofInt 64 18446744073709551615 ^^^ BitVec.ofInt 64 (a : Int)).toNat : Int) = _
  rw [h, wrap64]
  omega
theorem andNot64 {a b : Nat} (ha : a < 18446744073709551616) (hb : b < 18446744073709551616) : bits .andNot .u64 a b = ((a &&& (18446744073709551615 - b) : Nat) : Int) := by
  have h : (BitVec.ofInt 64 (a : Int) &&& ~~~ BitVec.ofInt 64 (b : Int)).toNat = a &&& (18446744073709551615 - b) := by
    rw [BitVec.toNat_and, BitVec.toNat_not, ofInt64 ha, ofInt64 hb]
  have hl : a &&& (18446744073709551615 - b) < 18446744073709551616 := Nat.lt_of_le_of_lt Nat.and_le_left ha
  show IntKind.u64.wrap ((BitVec.ofInt 64 (a : Int) &&& ~~~ BitVec.ofInt 64 (b : Int)).toNat : Int) = _
  rw [h, wrap64]
  omega
theorem top_bit {n : Nat} (h : n < 18446744073709551616) : n / 2 ^ 63 = 0 ∨ n / 2 ^ 63 = 1 := by omega
theorem fdiv63 (n : Nat) : Int.fdiv (n : Int) (2 ^ 63) = ((n / 2 ^ 63 : Nat) : Int) := by
  rw [show ((2 : Int) ^ 63) = ((2 ^ 63 : Nat) : Int) by decide, Int.fdiv_eq_ediv_of_nonneg _ (Int.natCast_nonneg _)]
  exact (Int.natCast_ediv _ _).symm
/-- The carry of a sum. -/
theorem carry {a b c : Int} (ha : 0 ≤ a ∧ a < 18446744073709551616) (hb : 0 ≤ b ∧ b < 18446744073709551616) (hc : 0 ≤ c ∧ c ≤ 1) :
    Int.fdiv (bits .or .u64 (bits .and .u64 a b) (bits .andNot .u64 (bits .or .u64 a b) ((a + b + c) % 18446744073709551616))) (2 ^ 63) = (a + b + c) / 18446744073709551616 := by
  obtain ⟨x, rfl⟩ := Int.eq_ofNat_of_zero_le ha.1
  obtain ⟨y, rfl⟩ := Int.eq_ofNat_of_zero_le hb.1
  obtain ⟨z, rfl⟩ := Int.eq_ofNat_of_zero_le hc.1
  have hx : x < 18446744073709551616 := by omega
  have hy : y < 18446744073709551616 := by omega
  obtain ⟨s, hs⟩ : ∃ s : Nat, ((x : Int) + y + z) % 18446744073709551616 = (s : Int) := Int.eq_ofNat_of_zero_le (by omega)
  have hsl : s < 18446744073709551616 := by omega
  rw [hs, and64 hx hy, or64 hx hy]
  have ho : x ||| y < 18446744073709551616 := Nat.or_lt_two_pow (n := 64) hx hy
  have hn : x &&& y < 18446744073709551616 := Nat.lt_of_le_of_lt Nat.and_le_left hx
  rw [andNot64 ho hsl]
  rw [or64 hn (Nat.lt_of_le_of_lt Nat.and_le_left ho), fdiv63, Nat.or_div_two_pow, Nat.and_div_two_pow, Nat.and_div_two_pow, Nat.or_div_two_pow]
  rw [show (18446744073709551615 - s) / 2 ^ 63 = 1 - s / 2 ^ 63 by omega]
  have h1 := top_bit hx
  have h2 := top_bit hy
  have h3 := top_bit hsl
  rcases h1 with h1 | h1 <;> rcases h2 with h2 | h2 <;> rcases h3 with h3 | h3 <;> rw [h1, h2, h3] <;> simp <;> omega
/-- The borrow of a difference. -/
theorem borrow {a b c : Int} (ha : 0 ≤ a ∧ a < 18446744073709551616) (hb : 0 ≤ b ∧ b < 18446744073709551616) (hc : 0 ≤ c ∧ c ≤ 1) :
    Int.fdiv (bits .or .u64 (bits .and .u64 (bits .xor .u64 18446744073709551615 a) b) (bits .and .u64 (bits .or .u64 (bits .xor .u64 18446744073709551615 a) b) ((a - b - c) % 18446744073709551616))) (2 ^ 63) = -((a - b - c) / 18446744073709551616) := by
  obtain ⟨x, rfl⟩ := Int.eq_ofNat_of_zero_le ha.1
  obtain ⟨y, rfl⟩ := Int.eq_ofNat_of_zero_le hb.1
  obtain ⟨z, rfl⟩ := Int.eq_ofNat_of_zero_le hc.1
  have hx : x < 18446744073709551616 := by omega
  have hy : y < 18446744073709551616 := by omega
  obtain ⟨s, hs⟩ : ∃ s : Nat, ((x : Int) - y - z) % 18446744073709551616 = (s : Int) := Int.eq_ofNat_of_zero_le (by omega)
  have hsl : s < 18446744073709551616 := by omega
  have hx' : 18446744073709551615 - x < 18446744073709551616 := by omega
  rw [hs, not64 hx, and64 hx' hy, or64 hx' hy]
  have ho : (18446744073709551615 - x) ||| y < 18446744073709551616 := Nat.or_lt_two_pow (n := 64) hx' hy
  have hn : (18446744073709551615 - x) &&& y < 18446744073709551616 := Nat.lt_of_le_of_lt Nat.and_le_left hx'
  rw [and64 ho hsl]
  rw [or64 hn (Nat.lt_of_le_of_lt Nat.and_le_left ho), fdiv63, Nat.or_div_two_pow, Nat.and_div_two_pow, Nat.and_div_two_pow, Nat.or_div_two_pow]
  rw [show (18446744073709551615 - x) / 2 ^ 63 = 1 - x / 2 ^ 63 by omega]
  have h1 := top_bit hx
  have h2 := top_bit hy
  have h3 := top_bit hsl
  rcases h1 with h1 | h1 <;> rcases h2 with h2 | h2 <;> rcases h3 with h3 | h3 <;> rw [h1, h2, h3] <;> simp <;> omega
end Go.Lm
