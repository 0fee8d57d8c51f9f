/- Plain laws: Pu, Lm, Dl, Dm, Dt, Dg, Ra, Rb, Dc, Rd, Re, Vl, Iv, Ia, PureInterAlike. No conditions but size. -/
import Derived.Test.YtgfbcclfajcjnaaEvLaw
import Derived.Laws.BitsLemmas
import Derived.ChangeShapes
import Derived.Test.YtgfbcclfajcjnaaFs
/- Tools for the plain laws: loops, words of 64 bits, tests. No conditions. -/
namespace Go.Pu
set_option linter.unusedVariables false
set_option linter.unusedSimpArgs false
open Go Go.Ev

theorem iter_step {X Y : Type} {once : X → Option (X ⊕ Y)} {n : Nat} {x x' : X} (h : once x = some (.inl x')) : iter once (n + 1) x = iter once n x' := by
  simp only [iter, h, Option.bind_some]
theorem iter_stop {X Y : Type} {once : X → Option (X ⊕ Y)} {n : Nat} {x : X} {y : Y} (h : once x = some (.inr y)) : iter once (n + 1) x = some y := by
  simp only [iter, h, Option.bind_some]
/-- A loop, by what stays true and what falls. -/
theorem iter_rule {X Y : Type} {once : X → Option (X ⊕ Y)} (Inv : X → Prop) (m : X → Nat) (Q : Y → Prop)
    (h : ∀ x, Inv x → (∃ x', once x = some (.inl x') ∧ Inv x' ∧ m x' < m x) ∨ ∃ y, once x = some (.inr y) ∧ Q y) :
    ∀ (n : Nat) (x : X), Inv x → m x < n → ∃ y, iter once n x = some y ∧ Q y := by
  intro n
  induction n with
  | zero => intro x _ h; omega
  | succ n ih =>
    intro x hx hm
    rcases h x hx with ⟨x', h1, h2, h3⟩ | ⟨y, h1, h2⟩
    · rw [iter_step h1]
      exact ih x' h2 (by omega)
    · exact ⟨y, iter_stop h1, h2⟩
/-- A loop that steps through numbered states. -/
theorem iter_seq {X Y : Type} {once : X → Option (X ⊕ Y)} (s : Nat → X) (N : Nat) (h : ∀ i, i < N → once (s i) = some (.inl (s (i + 1)))) (y : Y) (hy : once (s N) = some (.inr y)) :
    ∀ n i, i ≤ N → N - i < n → iter once n (s i) = some y := by
  intro n
  induction n with
  | zero => intro i _ h; omega
  | succ n ih =>
    intro i hi hn
    by_cases e : i = N
    · subst e; exact iter_stop hy
    · rw [iter_step (h i (by omega))]
      exact ih (i + 1) (by omega) (by omega)
theorem ct {α : Type} {p : Prop} [Decidable p] (h : p) {a b : α} : cond (decide p) a b = a := by rw [decide_eq_true h]; rfl
theorem cf {α : Type} {p : Prop} [Decidable p] (h : ¬ p) {a b : α} : cond (decide p) a b = b := by rw [decide_eq_false h]; rfl
theorem inb_t {i : Int} {n : Nat} (h : 0 ≤ i) (h' : i < n) : inb i n = true := by unfold inb; simp [h, h']
theorem blt_t {i n : Nat} (h : i < n) : Nat.blt i n = true := Nat.ble_eq_true_of_le h
theorem wrapi {n : Int} (h : -9223372036854775808 ≤ n ∧ n < 9223372036854775808) : IntKind.wrap .i64 n = n := by rw [IntKind.wrap_i64]; omega
theorem wrapu {n : Int} (h : 0 ≤ n ∧ n < 18446744073709551616) : IntKind.wrap .u64 n = n := by
  have : IntKind.wrap .u64 n = n % 18446744073709551616 := by simp [IntKind.wrap, IntKind.bits, IntKind.signed]
  rw [this]; omega
theorem wrap64 (n : Int) : IntKind.u64.wrap n = n % 18446744073709551616 := by simp [IntKind.wrap, IntKind.bits, IntKind.signed]
theorem wrap32 (n : Int) : IntKind.u32.wrap n = n % 4294967296 := by simp [IntKind.wrap, IntKind.bits, IntKind.signed]
theorem and64 {a b : Nat} (ha : a < 18446744073709551616) (hb : b < 18446744073709551616) : bits .and .u64 a b = ((a &&& b : Nat) : Int) :=
  (bits_nat .u64 64 (by decide) (fun n h0 h1 => by rw [wrap64]; omega) a b ha hb).1
theorem or64 {a b : Nat} (ha : a < 18446744073709551616) (hb : b < 18446744073709551616) : bits .or .u64 a b = ((a ||| b : Nat) : Int) :=
  (bits_nat .u64 64 (by decide) (fun n h0 h1 => by rw [wrap64]; omega) a b ha hb).2
/-- One of 0 to m - 1. -/
def pick (n m : Int) : Int := if Int.tmod n m < 0 then Int.tmod n m + m else Int.tmod n m
theorem pick_bd (n : Int) {m : Int} (h : 0 < m) : 0 ≤ pick n m ∧ pick n m < m := by
  unfold pick
  have h1 : -m < Int.tmod n m := Int.lt_tmod_of_pos n h
  have h2 := Int.tmod_lt_of_pos n h
  split <;> omega
end Go.Pu
/- Words of 64 bits as whole numbers: their sums, differences, bits. No conditions but that each is below 2^64. -/
namespace Go.Lm
open Go Go.Pu

theorem ofInt64 {a : Nat} (h : a < 18446744073709551616) : (BitVec.ofInt 64 (a : Int)).toNat = a := by
  rw [BitVec.ofInt_natCast, BitVec.toNat_ofNat]
  exact Nat.mod_eq_of_lt h
theorem not64 {a : Nat} (ha : a < 18446744073709551616) : bits .xor .u64 18446744073709551615 a = ((18446744073709551615 - a : Nat) : Int) := by
  have h : (BitVec.ofInt 64 18446744073709551615 ^^^ BitVec.ofInt 64 (a : Int)).toNat = 18446744073709551615 - a := by
    have e : BitVec.ofInt 64 18446744073709551615 = BitVec.allOnes 64 := by decide
    rw [e, BitVec.allOnes_xor, BitVec.toNat_not, ofInt64 ha]
  show IntKind.u64.wrap ((BitVec.ofInt 64 18446744073709551615 ^^^ BitVec.ofInt 64 (a : Int)).toNat : Int) = _
  rw [h, wrap64]
  omega
theorem andNot64 {a b : Nat} (ha : a < 18446744073709551616) (hb : b < 18446744073709551616) : bits .andNot .u64 a b = ((a &&& (18446744073709551615 - b) : Nat) : Int) := by
  have h : (BitVec.ofInt 64 (a : Int) &&& ~~~ BitVec.ofInt 64 (b : Int)).toNat = a &&& (18446744073709551615 - b) := by
    rw [BitVec.toNat_and, BitVec.toNat_not, ofInt64 ha, ofInt64 hb]
  have hl : a &&& (18446744073709551615 - b) < 18446744073709551616 := Nat.lt_of_le_of_lt Nat.and_le_left ha
  show IntKind.u64.wrap ((BitVec.ofInt 64 (a : Int) &&& ~~~ BitVec.ofInt 64 (b : Int)).toNat : Int) = _
  rw [h, wrap64]
  omega
theorem top_bit {n : Nat} (h : n < 18446744073709551616) : n / 2 ^ 63 = 0 ∨ n / 2 ^ 63 = 1 := by omega
theorem fdiv63 (n : Nat) : Int.fdiv (n : Int) (2 ^ 63) = ((n / 2 ^ 63 : Nat) : Int) := by
  rw [show ((2 : Int) ^ 63) = ((2 ^ 63 : Nat) : Int) by decide, Int.fdiv_eq_ediv_of_nonneg _ (Int.natCast_nonneg _)]
  exact (Int.natCast_ediv _ _).symm
/-- The carry of a sum. -/
theorem carry {a b c : Int} (ha : 0 ≤ a ∧ a < 18446744073709551616) (hb : 0 ≤ b ∧ b < 18446744073709551616) (hc : 0 ≤ c ∧ c ≤ 1) :
    Int.fdiv (bits .or .u64 (bits .and .u64 a b) (bits .andNot .u64 (bits .or .u64 a b) ((a + b + c) % 18446744073709551616))) (2 ^ 63) = (a + b + c) / 18446744073709551616 := by
  obtain ⟨x, rfl⟩ := Int.eq_ofNat_of_zero_le ha.1
  obtain ⟨y, rfl⟩ := Int.eq_ofNat_of_zero_le hb.1
  obtain ⟨z, rfl⟩ := Int.eq_ofNat_of_zero_le hc.1
  have hx : x < 18446744073709551616 := by omega
  have hy : y < 18446744073709551616 := by omega
  obtain ⟨s, hs⟩ : ∃ s : Nat, ((x : Int) + y + z) % 18446744073709551616 = (s : Int) := Int.eq_ofNat_of_zero_le (by omega)
  have hsl : s < 18446744073709551616 := by omega
  rw [hs, and64 hx hy, or64 hx hy]
  have ho : x ||| y < 18446744073709551616 := Nat.or_lt_two_pow (n := 64) hx hy
  have hn : x &&& y < 18446744073709551616 := Nat.lt_of_le_of_lt Nat.and_le_left hx
  rw [andNot64 ho hsl]
  rw [or64 hn (Nat.lt_of_le_of_lt Nat.and_le_left ho), fdiv63, Nat.or_div_two_pow, Nat.and_div_two_pow, Nat.and_div_two_pow, Nat.or_div_two_pow]
  rw [show (18446744073709551615 - s) / 2 ^ 63 = 1 - s / 2 ^ 63 by omega]
  have h1 := top_bit hx
  have h2 := top_bit hy
  have h3 := top_bit hsl
  rcases h1 with h1 | h1 <;> rcases h2 with h2 | h2 <;> rcases h3 with h3 | h3 <;> rw [h1, h2, h3] <;> simp <;> omega
/-- The borrow of a difference. -/
theorem borrow {a b c : Int} (ha : 0 ≤ a ∧ a < 18446744073709551616) (hb : 0 ≤ b ∧ b < 18446744073709551616) (hc : 0 ≤ c ∧ c ≤ 1) :
    Int.fdiv (bits .or .u64 (bits .and .u64 (bits .xor .u64 18446744073709551615 a) b) (bits .and .u64 (bits .or .u64 (bits .xor .u64 18446744073709551615 a) b) ((a - b - c) % 18446744073709551616))) (2 ^ 63) = -((a - b - c) / 18446744073709551616) := by
  obtain ⟨x, rfl⟩ := Int.eq_ofNat_of_zero_le ha.1
  obtain ⟨y, rfl⟩ := Int.eq_ofNat_of_zero_le hb.1
  obtain ⟨z, rfl⟩ := Int.eq_ofNat_of_zero_le hc.1
  have hx : x < 18446744073709551616 := by omega
  have hy : y < 18446744073709551616 := by omega
  obtain ⟨s, hs⟩ : ∃ s : Nat, ((x : Int) - y - z) % 18446744073709551616 = (s : Int) := Int.eq_ofNat_of_zero_le (by omega)
  have hsl : s < 18446744073709551616 := by omega
  have hx' : 18446744073709551615 - x < 18446744073709551616 := by omega
  rw [hs, not64 hx, and64 hx' hy, or64 hx' hy]
  have ho : (18446744073709551615 - x) ||| y < 18446744073709551616 := Nat.or_lt_two_pow (n := 64) hx' hy
  have hn : (18446744073709551615 - x) &&& y < 18446744073709551616 := Nat.lt_of_le_of_lt Nat.and_le_left hx'
  rw [and64 ho hsl]
  rw [or64 hn (Nat.lt_of_le_of_lt Nat.and_le_left ho), fdiv63, Nat.or_div_two_pow, Nat.and_div_two_pow, Nat.and_div_two_pow, Nat.or_div_two_pow]
  rw [show (18446744073709551615 - x) / 2 ^ 63 = 1 - x / 2 ^ 63 by omega]
  have h1 := top_bit hx
  have h2 := top_bit hy
  have h3 := top_bit hsl
  rcases h1 with h1 | h1 <;> rcases h2 with h2 | h2 <;> rcases h3 with h3 | h3 <;> rw [h1, h2, h3] <;> simp <;> omega
end Go.Lm
/- What the calls on numbers of two words compute, told by whole numbers. No conditions but that each word is below 2^64. -/
namespace Go.Proofs.Ytgfbcclfajcjnaa.Pure
open Go Go.Ev Go.Lm Go.Pu

def Wd (n : Int) : Prop := 0 ≤ n ∧ n < 18446744073709551616
def W2 (x : Int × Int) : Prop := Wd x.1 ∧ Wd x.2
def N2 (x : Int × Int) : Int := x.1 + 18446744073709551616 * x.2

theorem N2_inj {x y : Int × Int} (hx : W2 x) (hy : W2 y) (h : N2 x = N2 y) : x = y := by
  obtain ⟨⟨a, b⟩, c, d⟩ := hx
  obtain ⟨⟨e, f⟩, g, i⟩ := hy
  unfold N2 at h
  exact Prod.ext (by omega) (by omega)
theorem N2_bd {x : Int × Int} (hx : W2 x) : 0 ≤ N2 x ∧ N2 x < 340282366920938463463374607431768211456 := by
  obtain ⟨⟨a, b⟩, c, d⟩ := hx
  unfold N2
  omega

theorem plus_eq (k : Nat) {a b c : Int} (ha : Wd a) (hb : Wd b) (hc : 0 ≤ c ∧ c ≤ 1) : limb_plus.f k a b c = some ((a + b + c) % 18446744073709551616, (a + b + c) / 18446744073709551616) := by
  unfold limb_plus.f
  have : IntKind.wrap .u64 (IntKind.wrap .u64 (a + b) + c) = (a + b + c) % 18446744073709551616 := by rw [wrap64, wrap64]; omega
  rw [this, carry ha hb hc]
theorem less_eq (k : Nat) {a b c : Int} (ha : Wd a) (hb : Wd b) (hc : 0 ≤ c ∧ c ≤ 1) : limb_less.f k a b c = some ((a - b - c) % 18446744073709551616, -((a - b - c) / 18446744073709551616)) := by
  unfold limb_less.f
  have : IntKind.wrap .u64 (IntKind.wrap .u64 (a - b) - c) = (a - b - c) % 18446744073709551616 := by rw [wrap64, wrap64]; omega
  rw [this, borrow ha hb hc]

/-- A sum: the number, where it fits. -/
theorem Add_eq (k : Nat) {x y : Int × Int} (hx : W2 x) (hy : W2 y) : ∃ z b, limb_Add.f k x y = some (z, b) ∧ W2 z ∧
    (b = true → N2 z = N2 x + N2 y) ∧ (b = false → z = (0, 0)) ∧ (b = true ↔ N2 x + N2 y < 340282366920938463463374607431768211456) := by
  unfold limb_Add.f
  obtain ⟨hx1, hx2⟩ := hx
  obtain ⟨hy1, hy2⟩ := hy
  rw [plus_eq k hx1 hy1 (by omega), Option.bind_some, plus_eq k hx2 hy2 (by obtain ⟨_, _⟩ := hx1; obtain ⟨_, _⟩ := hy1; constructor <;> omega), Option.bind_some]
  obtain ⟨a, b⟩ := x
  obtain ⟨c, d⟩ := y
  obtain ⟨h1, h2⟩ := hx1
  obtain ⟨h3, h4⟩ := hy1
  obtain ⟨h5, h6⟩ := hx2
  obtain ⟨h7, h8⟩ := hy2
  dsimp only at *
  by_cases h : (b + d + (a + c + 0) / 18446744073709551616) / 18446744073709551616 > 0
  · refine ⟨(0, 0), false, (by rw [decide_eq_true h]; rfl), ⟨⟨by decide, by decide⟩, by decide, by decide⟩, fun h => (by cases h), fun _ => rfl, ?_⟩
    unfold N2
    dsimp only
    constructor
    · intro h; cases h
    · intro h'; omega
  · refine ⟨((a + c + 0) % 18446744073709551616, (b + d + (a + c + 0) / 18446744073709551616) % 18446744073709551616), true, (by rw [decide_eq_false h]; rfl), ⟨⟨(by dsimp only; omega), (by dsimp only; omega)⟩, (by dsimp only; omega), (by dsimp only; omega)⟩, fun _ => ?_, fun h => (by cases h), ?_⟩
    · unfold N2
      dsimp only
      omega
    · unfold N2
      dsimp only
      constructor
      · intro _; omega
      · intro _; rfl
theorem Sub_eq (k : Nat) {x y : Int × Int} (hx : W2 x) (hy : W2 y) : ∃ z b, limb_Sub.f k x y = some (z, b) ∧ W2 z ∧
    (b = true → N2 z = N2 x - N2 y) ∧ (b = false → z = (0, 0)) ∧ (b = true ↔ N2 y ≤ N2 x) := by
  unfold limb_Sub.f
  obtain ⟨hx1, hx2⟩ := hx
  obtain ⟨hy1, hy2⟩ := hy
  rw [less_eq k hx1 hy1 (by omega), Option.bind_some, less_eq k hx2 hy2 (by obtain ⟨_, _⟩ := hx1; obtain ⟨_, _⟩ := hy1; constructor <;> omega), Option.bind_some]
  obtain ⟨a, b⟩ := x
  obtain ⟨c, d⟩ := y
  obtain ⟨h1, h2⟩ := hx1
  obtain ⟨h3, h4⟩ := hy1
  obtain ⟨h5, h6⟩ := hx2
  obtain ⟨h7, h8⟩ := hy2
  dsimp only at *
  by_cases h : -((b - d - -((a - c - 0) / 18446744073709551616)) / 18446744073709551616) > 0
  · refine ⟨(0, 0), false, (by rw [decide_eq_true h]; rfl), ⟨⟨by decide, by decide⟩, by decide, by decide⟩, fun h => (by cases h), fun _ => rfl, ?_⟩
    unfold N2
    dsimp only
    constructor
    · intro h; cases h
    · intro h'; omega
  · refine ⟨((a - c - 0) % 18446744073709551616, (b - d - -((a - c - 0) / 18446744073709551616)) % 18446744073709551616), true, (by rw [decide_eq_false h]; rfl), ⟨⟨(by dsimp only; omega), (by dsimp only; omega)⟩, (by dsimp only; omega), (by dsimp only; omega)⟩, fun _ => ?_, fun h => (by cases h), ?_⟩
    · unfold N2
      dsimp only
      omega
    · unfold N2
      dsimp only
      constructor
      · intro _; omega
      · intro _; rfl
/-- Which is the greater. -/
theorem Cmp_eq (k : Nat) {x y : Int × Int} (hx : W2 x) (hy : W2 y) : limb_Cmp.f (k + 3) x y = some (if N2 x < N2 y then -1 else if N2 x = N2 y then 0 else 1) := by
  obtain ⟨a, b⟩ := x
  obtain ⟨c, d⟩ := y
  obtain ⟨⟨h1, h2⟩, h5, h6⟩ := hx
  obtain ⟨⟨h3, h4⟩, h7, h8⟩ := hy
  dsimp only at *
  have o1 : limb_Cmp.l2.once (k + 3) (1, [a, b], [c, d]) = cond (b != d) (cond (decide (b < d)) (some (.inr (.inr (-1)))) (some (.inr (.inr 1)))) (some (.inl (0, [a, b], [c, d]))) := by kernel_rfl
  have o2 : limb_Cmp.l2.once (k + 3) (0, [a, b], [c, d]) = cond (a != c) (cond (decide (a < c)) (some (.inr (.inr (-1)))) (some (.inr (.inr 1)))) (some (.inl (-1, [a, b], [c, d]))) := by kernel_rfl
  have o3 : limb_Cmp.l2.once (k + 3) (-1, [a, b], [c, d]) = some (.inr (.inl ())) := by kernel_rfl
  unfold limb_Cmp.f N2
  dsimp only
  by_cases e1 : b = d
  · subst e1
    rw [show (b != b) = false by simp, cond_false] at o1
    rw [iter_step o1]
    by_cases e2 : a = c
    · subst e2
      rw [show (a != a) = false by simp, cond_false] at o2
      rw [iter_step o2, iter_stop o3]
      simp
    · rw [show (a != c) = true by simp [e2], cond_true] at o2
      by_cases e3 : a < c
      · rw [decide_eq_true e3, cond_true] at o2
        rw [iter_stop o2, if_pos (by omega)]; rfl
      · rw [decide_eq_false e3, cond_false] at o2
        rw [iter_stop o2, if_neg (by omega), if_neg (by omega)]; rfl
  · rw [show (b != d) = true by simp [e1], cond_true] at o1
    by_cases e3 : b < d
    · rw [decide_eq_true e3, cond_true] at o1
      rw [iter_stop o1, if_pos (by omega)]; rfl
    · rw [decide_eq_false e3, cond_false] at o1
      rw [iter_stop o1, if_neg (by omega), if_neg (by omega)]; rfl
end Go.Proofs.Ytgfbcclfajcjnaa.Pure
/- The product of two numbers of two words, told by whole numbers. No conditions but that each word is below 2^64. -/
namespace Go.Proofs.Ytgfbcclfajcjnaa.Pure
set_option linter.unusedVariables false
set_option linter.unusedSimpArgs false
open Go Go.Ev Go.Lm Go.Pu

/-- A number of halves, the lowest first. -/
def V : List Int → Int
  | [] => 0
  | x :: l => x + 4294967296 * V l
def H32 (n : Int) : Prop := 0 ≤ n ∧ n < 4294967296
theorem V_set : ∀ (l : List Int) (a : Nat) (v : Int), a < l.length → V (l.set a v) = V l + (v - l.getD a 0) * 4294967296 ^ a
  | [], a, v, h => by simp at h
  | x :: l, 0, v, h => by simp [V]; omega
  | x :: l, a + 1, v, h => by
    have := V_set l a v (by simpa using h)
    simp only [List.set_cons_succ, V, this, List.getD_cons_succ, Int.pow_succ]
    rw [Int.mul_add]
    have e : (v - l.getD a 0) * (4294967296 ^ a * 4294967296) = 4294967296 * ((v - l.getD a 0) * 4294967296 ^ a) := by rw [← Int.mul_assoc, Int.mul_comm]
    rw [e]
    omega
theorem getD_set0 {α : Type} (l : List α) (i j : Nat) (v d : α) : (l.set i v).getD j d = if i = j ∧ j < l.length then v else l.getD j d := by
  simp only [List.getD_eq_getElem?_getD, List.getElem?_set]
  by_cases h : i = j
  · subst h
    by_cases h2 : i < l.length
    · simp [h2]
    · simp [h2]
  · simp [h]

theorem mul_bd {a b : Int} (ha : H32 a) (hb : H32 b) : 0 ≤ a * b ∧ a * b ≤ 18446744065119617025 := by
  obtain ⟨h1, h2⟩ := ha
  obtain ⟨h3, h4⟩ := hb
  refine ⟨Int.mul_nonneg h1 h3, ?_⟩
  have : a * b ≤ 4294967295 * 4294967295 := Int.mul_le_mul (by omega) (by omega) h3 (by omega)
  omega

theorem Mul_in_step (k : Nat) {p c y0 y1 y2 y3 : Int} (s0 s1 s2 s3 s4 : Int) (L L' : List Int) {out : List Int} {i j : Nat} (hi : i < 4) (hj : j < 4) (hlen : out.length = 8) (hp : H32 p) (hc : H32 c) (hq : H32 ([y0, y1, y2, y3].getD j 0)) (ho : H32 (out.getD (i + j) 0)) :
    limb_Mul.l8.once k ((i : Int), p, c, s0, s1, s2, s3, s4, y0, y1, y2, y3, (j : Int), L, out, L') =
      some (.inl ((i : Int), p, (p * [y0, y1, y2, y3].getD j 0 + out.getD (i + j) 0 + c) / 4294967296, s0, s1, s2, s3, s4, y0, y1, y2, y3, ((j + 1 : Nat) : Int), L, out.set (i + j) ((p * [y0, y1, y2, y3].getD j 0 + out.getD (i + j) 0 + c) % 4294967296), L')) := by
  unfold limb_Mul.l8.once
  dsimp only
  have hw : IntKind.wrap .i64 ((i : Int) + (j : Int)) = ((i + j : Nat) : Int) := by rw [wrapi (by omega)]; omega
  have hw2 : IntKind.wrap .i64 ((j : Int) + 1) = ((j + 1 : Nat) : Int) := by rw [wrapi (by omega)]; omega
  rw [hw, hw2, ct (by omega), inb_t (by omega) (by omega), inb_t (by omega) (by omega), cond_true, cond_true, Int.toNat_natCast, Int.toNat_natCast, blt_t (by omega), cond_true, cond_true, cond_true]
  have hm := mul_bd hp hq
  generalize [y0, y1, y2, y3].getD j 0 = q at *
  generalize out.getD (i + j) 0 = o at *
  obtain ⟨p1, p2⟩ := hp
  obtain ⟨q1, q2⟩ := hq
  obtain ⟨o1, o2⟩ := ho
  obtain ⟨c1, c2⟩ := hc
  rw [wrapu (show 0 ≤ p ∧ p < 18446744073709551616 by omega), wrapu (show 0 ≤ q ∧ q < 18446744073709551616 by omega)]
  generalize p * q = m at *
  rw [wrapu (show 0 ≤ m ∧ m < 18446744073709551616 by omega), wrapu (show 0 ≤ m + o ∧ m + o < 18446744073709551616 by omega), wrapu (show 0 ≤ m + o + c ∧ m + o + c < 18446744073709551616 by omega), wrap32, wrapu (show 0 ≤ (m + o + c) % 4294967296 ∧ (m + o + c) % 4294967296 < 18446744073709551616 by omega)]
  have : Int.fdiv (m + o + c) (2 ^ 32) = (m + o + c) / 4294967296 := by
    rw [show (2 : Int) ^ 32 = 4294967296 by decide, Int.fdiv_eq_ediv_of_nonneg _ (by decide)]
  rw [this]

/-- A row of the product. -/
theorem Mul_row (k : Nat) {p y0 y1 y2 y3 : Int} (s0 s1 s2 s3 s4 : Int) (L L' : List Int) {i : Nat} (hi : i < 4) (hp : H32 p) (hy : ∀ j, j < 4 → H32 ([y0, y1, y2, y3].getD j 0)) {out0 : List Int} (hl0 : out0.length = 8) (h0 : ∀ t, t < 8 → H32 (out0.getD t 0)) (hz : ∀ t, i + 4 ≤ t → t < 8 → out0.getD t 0 = 0) (hk : 4 < k) :
    ∃ (c : Int) (out : List Int), iter (limb_Mul.l8.once k) k ((i : Int), p, 0, s0, s1, s2, s3, s4, y0, y1, y2, y3, 0, L, out0, L') = some ((i : Int), c, s0, s1, s2, s3, s4, L, out, L') ∧ H32 c ∧ out.length = 8 ∧ (∀ t, t < 8 → H32 (out.getD t 0)) ∧
      (∀ t, i + 4 ≤ t → t < 8 → out.getD t 0 = 0) ∧ V out + c * 4294967296 ^ (i + 4) = V out0 + p * V [y0, y1, y2, y3] * 4294967296 ^ i := by
  obtain ⟨y, h1, h2⟩ := iter_rule (once := limb_Mul.l8.once k) (fun x => ∃ (j : Nat) (c : Int) (out : List Int), x = ((i : Int), p, c, s0, s1, s2, s3, s4, y0, y1, y2, y3, (j : Int), L, out, L') ∧ j ≤ 4 ∧ H32 c ∧ out.length = 8 ∧ (∀ t, t < 8 → H32 (out.getD t 0)) ∧
      (∀ t, i + 4 ≤ t → t < 8 → out.getD t 0 = 0) ∧ V out + c * 4294967296 ^ (i + j) = V out0 + p * V ([y0, y1, y2, y3].take j) * 4294967296 ^ i)
    (fun x => 4 - x.2.2.2.2.2.2.2.2.2.2.2.2.1.toNat) (fun r => ∃ (c : Int) (out : List Int), r = ((i : Int), c, s0, s1, s2, s3, s4, L, out, L') ∧ H32 c ∧ out.length = 8 ∧ (∀ t, t < 8 → H32 (out.getD t 0)) ∧
      (∀ t, i + 4 ≤ t → t < 8 → out.getD t 0 = 0) ∧ V out + c * 4294967296 ^ (i + 4) = V out0 + p * V [y0, y1, y2, y3] * 4294967296 ^ i) (by
    rintro _ ⟨j, c, out, rfl, hj, hc, hlen, hb, hzz, hV⟩
    by_cases hlt : j < 4
    · left
      have hq := hy j hlt
      have ho := hb (i + j) (by omega)
      have hm := mul_bd hp hq
      refine ⟨_, Mul_in_step k s0 s1 s2 s3 s4 L L' hi hlt hlen hp hc hq ho, ⟨j + 1, _, _, rfl, by omega, ?_, by simp [hlen], fun t ht => ?_, fun t ht ht8 => ?_, ?_⟩, by dsimp only; omega⟩
      · obtain ⟨o1, o2⟩ := ho
        obtain ⟨c1, c2⟩ := hc
        exact ⟨by omega, by omega⟩
      · rw [getD_set0]
        split
        · exact ⟨by omega, by omega⟩
        · exact hb t ht
      · rw [getD_set0, if_neg (by omega)]
        exact hzz t ht ht8
      · rw [V_set _ _ _ (by omega)]
        have et : V ([y0, y1, y2, y3].take (j + 1)) = V ([y0, y1, y2, y3].take j) + [y0, y1, y2, y3].getD j 0 * 4294967296 ^ j := by
          have hj' : j = 0 ∨ j = 1 ∨ j = 2 ∨ j = 3 := by omega
          rcases hj' with rfl | rfl | rfl | rfl <;> simp [V] <;> omega
        rw [et]
        generalize [y0, y1, y2, y3].getD j 0 = q at *
        generalize out.getD (i + j) 0 = o at *
        generalize V ([y0, y1, y2, y3].take j) = Y at *
        have hd : (p * q + o + c) / 4294967296 * 4294967296 + (p * q + o + c) % 4294967296 = p * q + o + c := by omega
        generalize (p * q + o + c) / 4294967296 = d at *
        generalize (p * q + o + c) % 4294967296 = r at *
        have e1 : (4294967296 : Int) ^ (i + (j + 1)) = 4294967296 ^ (i + j) * 4294967296 := by rw [← Nat.add_assoc, Int.pow_succ]
        have e2 : (4294967296 : Int) ^ (i + j) = 4294967296 ^ i * 4294967296 ^ j := by rw [Int.pow_add]
        rw [e1]
        generalize hP : (4294967296 : Int) ^ (i + j) = P at *
        generalize (4294967296 : Int) ^ i = A at *
        generalize (4294967296 : Int) ^ j = B at *
        subst e2
        have hr : r = p * q + o + c - d * 4294967296 := by omega
        subst hr
        grind
    · right
      have : j = 4 := by omega
      subst this
      refine ⟨((i : Int), c, s0, s1, s2, s3, s4, L, out, L'), ?_, c, out, rfl, hc, hlen, hb, hzz, hV⟩
      unfold limb_Mul.l8.once
      dsimp only
      rw [cf (by omega)]) k ((i : Int), p, 0, s0, s1, s2, s3, s4, y0, y1, y2, y3, 0, L, out0, L') ⟨0, 0, out0, rfl, by omega, ⟨by decide, by decide⟩, hl0, h0, hz, by simp [V]⟩ (by dsimp only; omega)
  obtain ⟨c, out, rfl, h3⟩ := h2
  exact ⟨c, out, h1, h3⟩

def W4 (x : Int × Int × Int × Int) : Prop := Wd x.1 ∧ Wd x.2.1 ∧ Wd x.2.2.1 ∧ Wd x.2.2.2
def N4 (x : Int × Int × Int × Int) : Int := x.1 + 18446744073709551616 * (x.2.1 + 18446744073709551616 * (x.2.2.1 + 18446744073709551616 * x.2.2.2))
theorem or_shift {a b : Int} (ha : H32 a) (hb : H32 b) : bits .or .u64 a (IntKind.wrap .u64 (b * 2 ^ 32)) = a + 4294967296 * b := by
  obtain ⟨x, rfl⟩ := Int.eq_ofNat_of_zero_le ha.1
  obtain ⟨y, rfl⟩ := Int.eq_ofNat_of_zero_le hb.1
  have hx := ha.2
  have hy := hb.2
  rw [show (2 : Int) ^ 32 = 4294967296 by decide, wrapu (by omega), show ((y : Int) * 4294967296) = ((y * 4294967296 : Nat) : Int) by omega, or64 (by omega) (by omega)]
  have := Nat.two_pow_add_eq_or_of_lt (i := 32) (b := x) (by omega) y
  rw [Nat.or_comm, Nat.mul_comm y, ← this]
  omega
theorem list8 {l : List Int} (h : l.length = 8) : ∃ a b c d e f g i, l = [a, b, c, d, e, f, g, i] := by
  match l, h with
  | [a, b, c, d, e, f, g, i], _ => exact ⟨a, b, c, d, e, f, g, i, rfl⟩
theorem Mul_join (k : Nat) (L : List Int) {o0 o1 o2 o3 o4 o5 o6 o7 : Int} (h : ∀ t, t < 8 → H32 ([o0, o1, o2, o3, o4, o5, o6, o7].getD t 0)) (hk : 4 < k) :
    iter (limb_Mul.l18.once k) k (0, L, [o0, o1, o2, o3, o4, o5, o6, o7], [0, 0, 0, 0]) = some (L, [o0 + 4294967296 * o1, o2 + 4294967296 * o3, o4 + 4294967296 * o5, o6 + 4294967296 * o7]) := by
  obtain ⟨k', rfl⟩ : ∃ q, k = q + 5 := ⟨k - 5, by omega⟩
  have h0 : H32 o0 := h 0 (by decide)
  have h1 : H32 o1 := h 1 (by decide)
  have h2 : H32 o2 := h 2 (by decide)
  have h3 : H32 o3 := h 3 (by decide)
  have h4 : H32 o4 := h 4 (by decide)
  have h5 : H32 o5 := h 5 (by decide)
  have h6 : H32 o6 := h 6 (by decide)
  have h7 : H32 o7 := h 7 (by decide)
  have s0 : limb_Mul.l18.once (k' + 5) (0, L, [o0, o1, o2, o3, o4, o5, o6, o7], [0, 0, 0, 0]) = some (.inl (1, L, [o0, o1, o2, o3, o4, o5, o6, o7], [bits .or .u64 o0 (IntKind.wrap .u64 (o1 * 2 ^ 32)), 0, 0, 0])) := by kernel_rfl
  have s1 : ∀ r0 : Int, limb_Mul.l18.once (k' + 5) (1, L, [o0, o1, o2, o3, o4, o5, o6, o7], [r0, 0, 0, 0]) = some (.inl (2, L, [o0, o1, o2, o3, o4, o5, o6, o7], [r0, bits .or .u64 o2 (IntKind.wrap .u64 (o3 * 2 ^ 32)), 0, 0])) := by intro r0; kernel_rfl
  have s2 : ∀ r0 r1 : Int, limb_Mul.l18.once (k' + 5) (2, L, [o0, o1, o2, o3, o4, o5, o6, o7], [r0, r1, 0, 0]) = some (.inl (3, L, [o0, o1, o2, o3, o4, o5, o6, o7], [r0, r1, bits .or .u64 o4 (IntKind.wrap .u64 (o5 * 2 ^ 32)), 0])) := by intro r0 r1; kernel_rfl
  have s3 : ∀ r0 r1 r2 : Int, limb_Mul.l18.once (k' + 5) (3, L, [o0, o1, o2, o3, o4, o5, o6, o7], [r0, r1, r2, 0]) = some (.inl (4, L, [o0, o1, o2, o3, o4, o5, o6, o7], [r0, r1, r2, bits .or .u64 o6 (IntKind.wrap .u64 (o7 * 2 ^ 32))])) := by intro r0 r1 r2; kernel_rfl
  have s4 : ∀ r0 r1 r2 r3 : Int, limb_Mul.l18.once (k' + 5) (4, L, [o0, o1, o2, o3, o4, o5, o6, o7], [r0, r1, r2, r3]) = some (.inr (L, [r0, r1, r2, r3])) := by intro r0 r1 r2 r3; kernel_rfl
  rw [iter_step s0, or_shift h0 h1, iter_step (s1 _), or_shift h2 h3, iter_step (s2 _ _), or_shift h4 h5, iter_step (s3 _ _ _), or_shift h6 h7, iter_stop (s4 _ _ _ _)]
theorem halves_eq (k : Nat) {x : Int × Int} (h : W2 x) : ∃ p0 p1 p2 p3, limb_halves.f k x = some (p0, p1, p2, p3) ∧ H32 p0 ∧ H32 p1 ∧ H32 p2 ∧ H32 p3 ∧ V [p0, p1, p2, p3] = N2 x := by
  obtain ⟨a, b⟩ := x
  obtain ⟨⟨h1, h2⟩, h3, h4⟩ := h
  dsimp only at h1 h2 h3 h4
  unfold limb_halves.f
  dsimp only
  have f : ∀ {z : Int}, 0 ≤ z → Int.fdiv z (2 ^ 32) = z / 4294967296 := fun hz => by
    rw [show (2 : Int) ^ 32 = 4294967296 by decide, Int.fdiv_eq_ediv_of_nonneg _ (by decide)]
  rw [f h1, f h3, wrap32, wrap32, wrap32, wrap32]
  refine ⟨_, _, _, _, rfl, ⟨by omega, by omega⟩, ⟨by omega, by omega⟩, ⟨by omega, by omega⟩, ⟨by omega, by omega⟩, ?_⟩
  simp only [V, N2]
  omega
/-- A product. -/
theorem Mul_eq {k : Nat} (hk : 8 < k) {x y : Int × Int} (hx : W2 x) (hy : W2 y) : ∃ z, limb_Mul.f k x y = some z ∧ W4 z ∧ N4 z = N2 x * N2 y := by
  unfold limb_Mul.f
  obtain ⟨p0, p1, p2, p3, e1, a0, a1, a2, a3, ev⟩ := halves_eq k hx
  obtain ⟨q0, q1, q2, q3, e2, b0, b1, b2, b3, ew⟩ := halves_eq k hy
  rw [Prod.eta, Prod.eta, e1, Option.bind_some, e2, Option.bind_some]
  have hq : ∀ j, j < 4 → H32 ([q0, q1, q2, q3].getD j 0) := fun j hj => by
    have : j = 0 ∨ j = 1 ∨ j = 2 ∨ j = 3 := by omega
    rcases this with rfl | rfl | rfl | rfl <;> assumption
  have hp : ∀ j, j < 4 → H32 ([p0, p1, p2, p3].getD j 0) := fun j hj => by
    have : j = 0 ∨ j = 1 ∨ j = 2 ∨ j = 3 := by omega
    rcases this with rfl | rfl | rfl | rfl <;> assumption
  obtain ⟨r, h1, h2⟩ := iter_rule (once := limb_Mul.l4.once k) (fun s => ∃ (i : Nat) (out : List Int), s = (p0, p1, p2, p3, (i : Int), [0, 0, 0, 0], out, [q0, q1, q2, q3]) ∧ i ≤ 4 ∧ out.length = 8 ∧ (∀ t, t < 8 → H32 (out.getD t 0)) ∧
      (∀ t, i + 4 ≤ t → t < 8 → out.getD t 0 = 0) ∧ V out = V ([p0, p1, p2, p3].take i) * V [q0, q1, q2, q3])
    (fun s => 4 - s.2.2.2.2.1.toNat) (fun r => ∃ out : List Int, r = ([0, 0, 0, 0], out) ∧ out.length = 8 ∧ (∀ t, t < 8 → H32 (out.getD t 0)) ∧ V out = V [p0, p1, p2, p3] * V [q0, q1, q2, q3]) (by
    rintro _ ⟨i, out, rfl, hi, hlen, hb, hz, hV⟩
    by_cases hlt : i < 4
    · left
      obtain ⟨c, out', g1, hc, g2, g3, g4, g5⟩ := Mul_row k p0 p1 p2 p3 (i : Int) [0, 0, 0, 0] [q0, q1, q2, q3] hlt (hp i hlt) hq hlen hb hz (by omega)
      refine ⟨(p0, p1, p2, p3, ((i + 1 : Nat) : Int), [0, 0, 0, 0], out'.set (i + 4) c, [q0, q1, q2, q3]), ?_, ⟨i + 1, _, rfl, by omega, by simp [g2], fun t ht => ?_, fun t ht ht8 => ?_, ?_⟩, by dsimp only; omega⟩
      · unfold limb_Mul.l4.once
        dsimp only
        rw [ct (by omega), inb_t (by omega) (by omega), cond_true, Int.toNat_natCast]
        have e : ([q0, q1, q2, q3].getD 0 0, [q0, q1, q2, q3].getD 1 0, [q0, q1, q2, q3].getD 2 0, [q0, q1, q2, q3].getD 3 0) = (q0, q1, q2, q3) := rfl
        have g1' : iter (limb_Mul.l8.once k) k ((i : Int), [p0, p1, p2, p3].getD i 0, 0, p0, p1, p2, p3, (i : Int), [q0, q1, q2, q3].getD 0 0, [q0, q1, q2, q3].getD 1 0, [q0, q1, q2, q3].getD 2 0, [q0, q1, q2, q3].getD 3 0, 0, [0, 0, 0, 0], out, [q0, q1, q2, q3]) = _ := g1
        rw [g1', Option.bind_some]
        dsimp only
        have hw : IntKind.wrap .i64 ((i : Int) + 4) = ((i + 4 : Nat) : Int) := by rw [wrapi (by omega)]; omega
        have hw2 : IntKind.wrap .i64 ((i : Int) + 1) = ((i + 1 : Nat) : Int) := by rw [wrapi (by omega)]; omega
        rw [hw, hw2, inb_t (by omega) (by omega), cond_true, Int.toNat_natCast, blt_t (by omega), cond_true]
      · rw [getD_set0]
        split
        · exact hc
        · exact g3 t ht
      · rw [getD_set0, if_neg (by omega)]
        exact g4 t (by omega) ht8
      · rw [V_set _ _ _ (by omega), g4 (i + 4) (by omega) (by omega), Int.sub_zero, g5, hV]
        have et : V ([p0, p1, p2, p3].take (i + 1)) = V ([p0, p1, p2, p3].take i) + [p0, p1, p2, p3].getD i 0 * 4294967296 ^ i := by
          have hj' : i = 0 ∨ i = 1 ∨ i = 2 ∨ i = 3 := by omega
          rcases hj' with rfl | rfl | rfl | rfl <;> simp [V] <;> omega
        rw [et]
        generalize [p0, p1, p2, p3].getD i 0 = p
        generalize V ([p0, p1, p2, p3].take i) = X
        generalize V [q0, q1, q2, q3] = Y
        generalize (4294967296 : Int) ^ i = A
        grind
    · right
      have : i = 4 := by omega
      subst this
      refine ⟨([0, 0, 0, 0], out), ?_, out, rfl, hlen, hb, hV⟩
      unfold limb_Mul.l4.once
      dsimp only
      rw [cf (by omega)]) k (p0, p1, p2, p3, 0, [0, 0, 0, 0], [0, 0, 0, 0, 0, 0, 0, 0], [q0, q1, q2, q3]) ⟨0, _, rfl, by omega, rfl, fun t ht => by
        have : ∀ t : Fin 8, H32 (([0, 0, 0, 0, 0, 0, 0, 0] : List Int).getD t.val 0) := by unfold H32; decide
        exact this ⟨t, ht⟩, fun t _ ht => by
        have : ∀ t : Fin 8, ([0, 0, 0, 0, 0, 0, 0, 0] : List Int).getD t.val 0 = 0 := by decide
        exact this ⟨t, ht⟩, by simp [V]⟩ (by dsimp only; omega)
  obtain ⟨out, rfl, g1, g2, g3⟩ := h2
  have h1' : iter (limb_Mul.l4.once k) k ([p0, p1, p2, p3].getD 0 0, [p0, p1, p2, p3].getD 1 0, [p0, p1, p2, p3].getD 2 0, [p0, p1, p2, p3].getD 3 0, 0, [0, 0, 0, 0], [0, 0, 0, 0, 0, 0, 0, 0], [q0, q1, q2, q3]) = _ := h1
  dsimp only
  rw [h1', Option.bind_some]
  obtain ⟨o0, o1, o2, o3, o4, o5, o6, o7, rfl⟩ := list8 g1
  dsimp only
  rw [Mul_join k _ g2 (by omega), Option.bind_some]
  have w : ∀ {a b : Int}, H32 a → H32 b → Wd (a + 4294967296 * b) := fun ⟨_, _⟩ ⟨_, _⟩ => ⟨by omega, by omega⟩
  refine ⟨_, rfl, ⟨w (g2 0 (by decide)) (g2 1 (by decide)), w (g2 2 (by decide)) (g2 3 (by decide)), w (g2 4 (by decide)) (g2 5 (by decide)), w (g2 6 (by decide)) (g2 7 (by decide))⟩, ?_⟩
  rw [← ev, ← ew, ← g3]
  simp only [V, N4, List.getD_cons_zero, List.getD_cons_succ]
  omega
end Go.Proofs.Ytgfbcclfajcjnaa.Pure
/- Small calls on numbers of words, powers of ten, the raw words of chapter 1's laws. No conditions but that each word is below 2^64. -/
namespace Go.Proofs.Ytgfbcclfajcjnaa.Pure
set_option linter.unusedVariables false
set_option linter.unusedSimpArgs false
open Go Go.Ev Go.Lm Go.Pu

theorem Pick_eq (k : Nat) (n : Int) {m : Int} (h0 : 0 < m) (h1 : m ≤ 4611686018427387904) : pyxhand_Pick.f k n m = some (pick n m) := by
  unfold pyxhand_Pick.f pick
  rw [show (m == 0) = false by simp; omega, cond_false]
  have h2 : -m < Int.tmod n m := Int.lt_tmod_of_pos n h0
  by_cases h : Int.tmod n m < 0
  · rw [ct h, if_pos h, wrapi (by omega)]
  · rw [cf h, if_neg h]
theorem Wd0 : Wd 0 := ⟨by decide, by decide⟩
theorem W2_of {n : Int} (h : Wd n) : W2 (n, 0) := ⟨h, Wd0⟩
theorem W20 : W2 (0, 0) := ⟨Wd0, Wd0⟩
theorem N2_of (n : Int) : N2 (n, 0) = n := by unfold N2; dsimp only; omega
theorem Of_eq (k : Nat) (n : Int) : limb_Of.f k n = some (n, 0) := rfl
theorem N4_bd {x : Int × Int × Int × Int} (h : W4 x) : 0 ≤ N4 x ∧ N4 x < 115792089237316195423570985008687907853269984665640564039457584007913129639936 := by
  obtain ⟨a, b, c, d⟩ := x
  obtain ⟨⟨_, _⟩, ⟨_, _⟩, ⟨_, _⟩, _, _⟩ := h
  unfold N4
  dsimp only at *
  omega
theorem Short_eq (k : Nat) {x : Int × Int × Int × Int} (h : W4 x) : ∃ z b, limb_Short.f k x = some (z, b) ∧ W2 z ∧ (b = true ↔ N4 x < 340282366920938463463374607431768211456) ∧ (b = true → N2 z = N4 x) ∧ (b = false → z = (0, 0)) := by
  obtain ⟨a, b, c, d⟩ := x
  obtain ⟨⟨h1, h2⟩, ⟨h3, h4⟩, ⟨h5, h6⟩, h7, h8⟩ := h
  dsimp only at *
  unfold limb_Short.f N4
  dsimp only
  by_cases hc : c = 0
  · subst hc
    rw [bne_self_eq_false, cond_false, Option.bind_some]
    dsimp only
    by_cases hd : d = 0
    · subst hd
      rw [bne_self_eq_false, cond_false]
      exact ⟨_, _, rfl, ⟨⟨h1, h2⟩, h3, h4⟩, ⟨fun _ => (by omega), fun _ => rfl⟩, fun _ => (by unfold N2; dsimp only; omega), fun h => (by cases h)⟩
    · rw [show (d != 0) = true by simp [hd], cond_true]
      exact ⟨_, _, rfl, W20, ⟨fun h => (by cases h), fun h => (by omega)⟩, fun h => (by cases h), fun _ => rfl⟩
  · rw [show (c != 0) = true by simp [hc], cond_true, Option.bind_some]
    exact ⟨_, _, rfl, W20, ⟨fun h => (by cases h), fun h => (by omega)⟩, fun h => (by cases h), fun _ => rfl⟩

theorem ten_lt {i : Nat} (h : i ≤ 38) : (10 : Int) ^ i < 340282366920938463463374607431768211456 := by
  have : ∀ i : Fin 39, (10 : Int) ^ i.val < 340282366920938463463374607431768211456 := by decide +kernel
  exact this ⟨i, by omega⟩
/-- A power of ten. -/
theorem Ten_eq {k : Nat} (hk : 60 < k) {i : Nat} (hi : i ≤ 38) : ∃ x, limb_Ten.f k (i : Int) = some (x, true) ∧ W2 x ∧ N2 x = 10 ^ i := by
  unfold limb_Ten.f
  rw [cf (by omega), decide_eq_false (by omega), Option.bind_some]
  dsimp only
  rw [cond_false, Of_eq, Option.bind_some]
  obtain ⟨y, h1, h2⟩ := iter_rule (once := limb_Ten.l5.once k) (fun s => ∃ (j : Nat) (x : Int × Int), s = ((i : Int), (j : Int), 0, 0, x.1, x.2) ∧ j ≤ i ∧ W2 x ∧ N2 x = 10 ^ j) (fun s => i - s.2.1.toNat)
    (fun r => ∃ x : Int × Int, r = (0, 0, x.1, x.2) ∧ W2 x ∧ N2 x = 10 ^ i) (by
    rintro _ ⟨j, x, rfl, hj, hx, hN⟩
    unfold limb_Ten.l5.once
    dsimp only
    by_cases hlt : j < i
    · left
      rw [ct (by omega), Of_eq, Option.bind_some]
      obtain ⟨z, g1, g2, g3⟩ := Mul_eq (k := k) (by omega) hx (W2_of (n := 10) ⟨by decide, by decide⟩)
      rw [N2_of, hN] at g3
      have e1 : limb_Mul.f k (x.1, x.2) (10, 0) = some z := g1
      rw [e1, Option.bind_some]
      obtain ⟨u, b, g4, g5, g6, g7, g8⟩ := Short_eq k g2
      have e2 : limb_Short.f k (z.1, z.2.1, z.2.2.1, z.2.2.2) = some (u, b) := g4
      rw [e2, Option.bind_some]
      have hb : b = true := g6.2 (by rw [g3, ← Int.pow_succ]; exact ten_lt (by omega))
      subst hb
      refine ⟨_, rfl, ⟨j + 1, u, ?_, by omega, g5, by rw [g7 rfl, g3, Int.pow_succ]⟩, ?_⟩
      · simp only [wrapi (show -9223372036854775808 ≤ (j : Int) + 1 ∧ (j : Int) + 1 < 9223372036854775808 by omega)]
        rfl
      · simp only [wrapi (show -9223372036854775808 ≤ (j : Int) + 1 ∧ (j : Int) + 1 < 9223372036854775808 by omega)]
        omega
    · right
      rw [cf (by omega)]
      have : j = i := by omega
      subst this
      exact ⟨_, rfl, x, rfl, hx, hN⟩) k ((i : Int), 0, 0, 0, 1, 0) ⟨0, (1, 0), rfl, by omega, W2_of ⟨by decide, by decide⟩, by rw [N2_of]; rfl⟩ (by dsimp only; omega)
  obtain ⟨x, rfl, h3, h4⟩ := h2
  rw [h1, Option.bind_some]
  exact ⟨x, rfl, h3, h4⟩
end Go.Proofs.Ytgfbcclfajcjnaa.Pure
/- Numbers as lists of decimal digits, the lowest first. No conditions. -/
namespace Go.Dg
set_option linter.unusedVariables false
set_option linter.unusedSimpArgs false
open Go Go.Ev Go.Pu
def V10 : List Int → Int
  | [] => 0
  | d :: t => d + 10 * V10 t
def D10 (l : List Int) : Prop := ∀ z ∈ l, 0 ≤ z ∧ z < 10
def dig (n : Nat) : List Int := if h : n = 0 then [] else ((n % 10 : Nat) : Int) :: dig (n / 10)
termination_by n
decreasing_by omega
theorem dig_0 : dig 0 = [] := by rw [dig]; rfl
theorem dig_pos {n : Nat} (h : n ≠ 0) : dig n = ((n % 10 : Nat) : Int) :: dig (n / 10) := by rw [dig, dif_neg h]
theorem D10_nil : D10 [] := fun z h => by cases h
theorem D10_cons {d : Int} {l : List Int} (h0 : 0 ≤ d) (h1 : d < 10) (h : D10 l) : D10 (d :: l) := by
  intro z hz
  rcases List.mem_cons.1 hz with rfl | hz
  · exact ⟨h0, h1⟩
  · exact h z hz
theorem D10_tail {d : Int} {l : List Int} (h : D10 (d :: l)) : D10 l := fun z hz => h z (List.mem_cons_of_mem _ hz)
theorem D10_head {d : Int} {l : List Int} (h : D10 (d :: l)) : 0 ≤ d ∧ d < 10 := h d List.mem_cons_self
theorem D10_append {a b : List Int} (h : D10 a) (h' : D10 b) : D10 (a ++ b) := by
  intro z hz
  rcases List.mem_append.1 hz with hz | hz
  · exact h z hz
  · exact h' z hz
theorem D10_left {a b : List Int} (h : D10 (a ++ b)) : D10 a := fun z hz => h z (List.mem_append_left _ hz)
theorem D10_getD {l : List Int} (h : D10 l) (i : Nat) : 0 ≤ l.getD i 0 ∧ l.getD i 0 < 10 := by
  rw [List.getD_eq_getElem?_getD]
  by_cases hi : i < l.length
  · rw [List.getElem?_eq_getElem hi, Option.getD_some]; exact h _ (List.getElem_mem hi)
  · rw [List.getElem?_eq_none (by omega)]; exact ⟨by decide, by decide⟩
theorem D10_set {l : List Int} (h : D10 l) (i : Nat) {d : Int} (h0 : 0 ≤ d) (h1 : d < 10) : D10 (l.set i d) := by
  intro z hz
  rcases List.mem_or_eq_of_mem_set hz with hz | rfl
  · exact h z hz
  · exact ⟨h0, h1⟩
theorem D10_replicate (n : Nat) : D10 (List.replicate n 0) := by
  intro z hz
  rw [(List.mem_replicate.1 hz).2]; exact ⟨by decide, by decide⟩
theorem D10_dig (n : Nat) : D10 (dig n) := by
  induction n using Nat.strongRecOn with
  | ind n ih =>
    by_cases h : n = 0
    · subst h; rw [dig_0]; exact D10_nil
    · rw [dig_pos h]; exact D10_cons (by omega) (by omega) (ih _ (by omega))
theorem V10_dig (n : Nat) : V10 (dig n) = n := by
  induction n using Nat.strongRecOn with
  | ind n ih =>
    by_cases h : n = 0
    · subst h; rw [dig_0]; rfl
    · rw [dig_pos h, V10, ih _ (by omega)]; omega
theorem V10_nonneg {l : List Int} (h : D10 l) : 0 ≤ V10 l := by
  induction l with
  | nil => exact Int.le_refl _
  | cons d t ih =>
    have := ih (D10_tail h)
    have := D10_head h
    rw [V10]; omega
theorem V10_append (a b : List Int) : V10 (a ++ b) = V10 a + 10 ^ a.length * V10 b := by
  induction a with
  | nil => simp [V10]
  | cons d t ih => rw [List.cons_append, V10, ih, V10, List.length_cons]; grind
theorem V10_lt {l : List Int} (h : D10 l) : V10 l < 10 ^ l.length := by
  induction l with
  | nil => simp [V10]
  | cons d t ih =>
    have h1 := ih (D10_tail h)
    have h2 := D10_head h
    rw [V10, List.length_cons, Int.pow_succ]; omega
theorem V10_replicate (n : Nat) : V10 (List.replicate n 0) = 0 := by
  induction n with
  | zero => rfl
  | succ n ih => rw [List.replicate_succ, V10, ih]; rfl
theorem V10_set {l : List Int} {i : Nat} (h : i < l.length) (v : Int) : V10 (l.set i v) = V10 l + (v - l.getD i 0) * 10 ^ i := by
  induction l generalizing i with
  | nil => simp at h
  | cons d t ih =>
    cases i with
    | zero => rw [List.set_cons_zero, V10, V10, List.getD_cons_zero]; simp; omega
    | succ i =>
      rw [List.set_cons_succ, V10, V10, ih (by simp at h; omega), List.getD_cons_succ]; grind
/-- What lies from a place on. -/
theorem V10_drop (l : List Int) (i : Nat) : V10 (l.drop i) = l.getD i 0 + 10 * V10 (l.drop (i + 1)) := by
  by_cases h : i < l.length
  · rw [List.drop_eq_getElem_cons h, V10, List.getD_eq_getElem?_getD, List.getElem?_eq_getElem h]; rfl
  · rw [List.drop_eq_nil_of_le (by omega), List.drop_eq_nil_of_le (by omega), List.getD_eq_getElem?_getD, List.getElem?_eq_none (by omega)]; rfl
theorem V10_drop_all {l : List Int} {i : Nat} (h : l.length ≤ i) : V10 (l.drop i) = 0 := by rw [List.drop_eq_nil_of_le h]; rfl
theorem D10_drop {l : List Int} (h : D10 l) (i : Nat) : D10 (l.drop i) := fun z hz => h z (List.mem_of_mem_drop hz)
theorem D10_take {l : List Int} (h : D10 l) (i : Nat) : D10 (l.take i) := fun z hz => h z (List.mem_of_mem_take hz)
theorem V10_split (l : List Int) {i : Nat} (h : i ≤ l.length) : V10 l = V10 (l.take i) + 10 ^ i * V10 (l.drop i) := by
  have := V10_append (l.take i) (l.drop i)
  rw [List.take_append_drop, List.length_take, Nat.min_eq_left h] at this
  exact this
theorem V10_take_lt {l : List Int} (h : D10 l) {i : Nat} (hi : i ≤ l.length) : V10 (l.take i) < 10 ^ i := by
  have := V10_lt (D10_take h i)
  rw [List.length_take, Nat.min_eq_left hi] at this
  exact this
theorem dig_len {n m : Nat} (h : n < 10 ^ m) : (dig n).length ≤ m := by
  induction m generalizing n with
  | zero => rw [show n = 0 by simp at h; exact h, dig_0]; exact Nat.le_refl _
  | succ m ih =>
    by_cases h0 : n = 0
    · rw [h0, dig_0]; exact Nat.zero_le _
    · rw [dig_pos h0, List.length_cons]
      have := ih (n := n / 10) (by rw [Nat.pow_succ] at h; omega)
      omega
theorem dig_lt (n : Nat) : n < 10 ^ (dig n).length := by
  have h := V10_lt (D10_dig n)
  rw [V10_dig, show (10 : Int) ^ (dig n).length = ((10 ^ (dig n).length : Nat) : Int) by simp] at h
  omega
theorem dig_ge {n : Nat} (h : n ≠ 0) : 10 ^ ((dig n).length - 1) ≤ n := by
  induction n using Nat.strongRecOn with
  | ind n ih =>
    rw [dig_pos h, List.length_cons, Nat.add_sub_cancel]
    by_cases h1 : n / 10 = 0
    · rw [h1, dig_0]; simp; omega
    · have h2 := ih (n / 10) (by omega) h1
      have h3 : (dig (n / 10)).length = (dig (n / 10)).length - 1 + 1 := by rw [dig_pos h1, List.length_cons]; omega
      rw [h3, Nat.pow_succ]; omega
/-- A list of digits with no zero at its end is the number's own. -/
theorem dig_of {l : List Int} (h : D10 l) (hl : l.getLast? ≠ some 0) : l = dig (V10 l).toNat := by
  induction l with
  | nil => rw [V10]; exact dig_0.symm
  | cons d t ih =>
    have h0 := D10_head h
    have h1 := V10_nonneg (D10_tail h)
    have ht : t = dig (V10 t).toNat := by
      refine ih (D10_tail h) ?_
      intro hc
      cases t with
      | nil => cases hc
      | cons e u => exact hl (by rw [List.getLast?_cons_cons]; exact hc)
    have hne : (V10 (d :: t)).toNat ≠ 0 := by
      intro hz
      rw [V10] at hz
      have h2 : V10 t = 0 := by omega
      have h3 : d = 0 := by omega
      rw [h2] at ht
      rw [ht, h3] at hl
      exact hl (by rw [show (0 : Int).toNat = 0 from rfl, dig_0]; rfl)
    rw [dig_pos hne, V10]
    have e1 : (((d + 10 * V10 t).toNat % 10 : Nat) : Int) = d := by omega
    have e2 : (d + 10 * V10 t).toNat / 10 = (V10 t).toNat := by omega
    rw [e1, e2, ← ht]
theorem dig_len_lt {a b : Nat} (h : (dig a).length < (dig b).length) : a < b := by
  have hb : b ≠ 0 := by rintro rfl; rw [dig_0] at h; simp at h
  have h1 := dig_lt a
  have h2 := dig_ge hb
  have h3 := Nat.pow_le_pow_right (show 0 < 10 by decide) (show (dig a).length ≤ (dig b).length - 1 by omega)
  omega
theorem inS_t {a b : Int} {n : Nat} (h0 : 0 ≤ a) (h1 : a ≤ b) (h2 : b ≤ n) : inS a b n = true := by unfold inS; simp [h0, h1, h2]
theorem okLen_t {n b : Nat} (h : n * b ≤ 140737488355328) : okLen n b = true := by unfold okLen; simp [h]
end Go.Dg
/- What the plain sums on lists of digits compute: words, trim, sums, differences, order. No conditions but size. -/
namespace Go.Proofs.Ytgfbcclfajcjnaa.Pure
set_option linter.unusedVariables false
set_option linter.unusedSimpArgs false
open Go Go.Ev Go.Lm Go.Pu Go.Dg
theorem dig_1 : dig 1 = [1] := by rw [dig_pos (by decide), show 1 / 10 = 0 by decide, dig_0]; rfl
theorem Word_iter (k : Nat) : ∀ (m f n : Nat) (acc : List Int), m < f → n < 10 ^ m → n < 18446744073709551616 → acc.length + m ≤ 1000 → iter (pyxref1_Word.l2.once k) f ((n : Int), acc) = some (acc ++ dig n) := by
  have stop : ∀ (f : Nat) (acc : List Int), 0 < f → iter (pyxref1_Word.l2.once k) f (((0 : Nat) : Int), acc) = some (acc ++ dig 0) := by
    intro f acc hf
    obtain ⟨f, rfl⟩ : ∃ g, f = g + 1 := ⟨f - 1, by omega⟩
    rw [dig_0, List.append_nil]
    refine iter_stop ?_
    unfold pyxref1_Word.l2.once
    rfl
  intro m
  induction m with
  | zero =>
    intro f n acc hf hn _ _
    obtain rfl : n = 0 := by simp at hn; exact hn
    exact stop f acc (by omega)
  | succ m ih =>
    intro f n acc hf hn hn' hl
    by_cases h0 : n = 0
    · subst h0; exact stop f acc (by omega)
    · obtain ⟨f, rfl⟩ : ∃ g, f = g + 1 := ⟨f - 1, by omega⟩
      have once : pyxref1_Word.l2.once k ((n : Int), acc) = some (.inl (((n / 10 : Nat) : Int), acc ++ [((n % 10 : Nat) : Int)])) := by
        unfold pyxref1_Word.l2.once
        dsimp only
        rw [ct (by omega), okLen_t (by simp only [List.length_cons, List.length_nil]; omega), cond_true, show Int.tdiv (n : Int) 10 = ((n / 10 : Nat) : Int) from rfl, show Int.tmod (n : Int) 10 = ((n % 10 : Nat) : Int) from rfl, wrapu (by omega), wrapi (by omega)]
      rw [iter_step once, ih f (n / 10) _ (by omega) (by rw [Nat.pow_succ] at hn; omega) (by omega) (by simp only [List.length_append, List.length_cons, List.length_nil]; omega), dig_pos h0, List.append_assoc]
      rfl
theorem Word_eq {k : Nat} (hk : 30 < k) {n : Nat} (h : n < 18446744073709551616) : pyxref1_Word.f k (n : Int) = some (dig n) := by
  unfold pyxref1_Word.f
  rw [Word_iter k 20 k n [] (by omega) (by omega) h (by simp), Option.bind_some, List.nil_append]
theorem digit_eq (k : Nat) (l : List Int) (i : Nat) : pyxref1_digit.f k l (i : Int) = some (l.getD i 0) := by
  unfold pyxref1_digit.f
  by_cases h : i < l.length
  · rw [ct (by omega), inb_t (by omega) (by omega), cond_true]; rfl
  · rw [cf (by omega), List.getD_eq_getElem?_getD, List.getElem?_eq_none (by omega)]; rfl
theorem trim_iter (k : Nat) : ∀ (n : Nat) (l : List Int), D10 l → l.length ≤ 1000 → l.length < n → iter (pyxref1_trim.l1.once k) n l = some (dig (V10 l).toNat) := by
  intro n
  induction n with
  | zero => intro l _ _ h; omega
  | succ n ih =>
    intro l hd hl hn
    rcases List.eq_nil_or_concat l with rfl | ⟨a, d, rfl⟩
    · rw [V10, show (0 : Int).toNat = 0 from rfl, dig_0]
      exact iter_stop (by unfold pyxref1_trim.l1.once; rfl)
    · rw [List.concat_eq_append] at *
      have hlen : (a ++ [d]).length = a.length + 1 := by simp
      have hg : (a ++ [d]).getD a.length 0 = d := by simp
      have hw : IntKind.wrap .i64 (((a.length + 1 : Nat) : Int) - 1) = (a.length : Int) := by rw [wrapi (by omega)]; omega
      have once : pyxref1_trim.l1.once k (a ++ [d]) = cond (d == 0) (some (.inl a)) (some (.inr (a ++ [d]))) := by
        unfold pyxref1_trim.l1.once
        dsimp only
        rw [hlen, ct (by omega), hw, inb_t (by omega) (by omega), cond_true, Option.bind_some]
        dsimp only
        rw [hlen, hw, Int.toNat_natCast, hg, inS_t (by omega) (by omega) (by omega), cond_true, List.take_left]
      by_cases h0 : d = 0
      · subst h0
        rw [iter_step once, ih a (D10_left hd) (by omega) (by omega), V10_append]
        simp [V10]
      · rw [show (d == 0) = false by simp [h0], cond_false] at once
        rw [iter_stop once]
        exact congrArg some (dig_of hd (by simp [h0]))
theorem trim_eq {k : Nat} {l : List Int} (hd : D10 l) (hl : l.length ≤ 1000) (hk : l.length < k) : pyxref1_trim.f k l = some (dig (V10 l).toNat) := by
  unfold pyxref1_trim.f
  rw [trim_iter k k l hd hl hk, Option.bind_some]
theorem tdiv10 {s : Int} (h : 0 ≤ s) : Int.tdiv s 10 = s / 10 := Int.tdiv_eq_ediv_of_nonneg h
theorem tmod10 {s : Int} (h : 0 ≤ s) : Int.tmod s 10 = s % 10 := Int.tmod_eq_emod_of_nonneg h
theorem AddNat_raw {k : Nat} (hk : 600 < k) {l1 l2 : List Int} (h1 : D10 l1) (h2 : D10 l2) (hl1 : l1.length ≤ 400) (hl2 : l2.length ≤ 400) : pyxref1_AddNat.f k l1 l2 = some (dig (V10 l1 + V10 l2).toNat) := by
  unfold pyxref1_AddNat.f
  obtain ⟨M, hM1, hM2, hM3, hM4⟩ : ∃ M : Nat, l1.length ≤ M ∧ l2.length ≤ M ∧ M ≤ 400 ∧ (M = l1.length ∨ M = l2.length) := ⟨max l1.length l2.length, by omega, by omega, by omega, by omega⟩
  obtain ⟨y, e1, e2, e3, e4⟩ := iter_rule (once := pyxref1_AddNat.l4.once k) (fun x => ∃ (i : Nat) (c : Int) (out : List Int), x = (l1, l2, out, c, (i : Int)) ∧ out.length = i ∧ D10 out ∧ (c = 0 ∨ c = 1) ∧ (i ≤ M ∨ (i = M + 1 ∧ c = 0)) ∧ V10 out + 10 ^ i * (c + V10 (l1.drop i) + V10 (l2.drop i)) = V10 l1 + V10 l2)
    (fun x => M + 1 - x.2.2.2.2.toNat) (fun y => D10 y ∧ y.length ≤ 401 ∧ V10 y = V10 l1 + V10 l2) (by
    rintro x ⟨i, c, out, rfl, ho, hd, hc, hi, hv⟩
    have b1 := D10_getD h1 i
    have b2 := D10_getD h2 i
    by_cases run : i < l1.length ∨ i < l2.length ∨ c > 0
    · left
      have once : pyxref1_AddNat.l4.once k (l1, l2, out, c, (i : Int)) = some (.inl (l1, l2, out ++ [(l1.getD i 0 + l2.getD i 0 + c) % 10], (l1.getD i 0 + l2.getD i 0 + c) / 10, ((i + 1 : Nat) : Int))) := by
        unfold pyxref1_AddNat.l4.once
        dsimp only
        have tail : ∀ (o : Option (List Int × List Int × List Int × Int × Int × Bool)), o = some (l1, l2, out, c, (i : Int), true) → (o.bind fun y12 => (cond (y12.2.2.2.2.2) ((pyxref1_digit.f k y12.1 y12.2.2.2.2.1).bind fun t13 => ((pyxref1_digit.f k y12.2.1 y12.2.2.2.2.1).bind fun t14 => (cond (okLen (List.length y12.2.2.1 + List.length [Int.tmod (IntKind.wrap .i64 ((IntKind.wrap .i64 (t13 + t14)) + y12.2.2.2.1)) 10]) 8) (some (.inl (y12.1, y12.2.1, y12.2.2.1 ++ [Int.tmod (IntKind.wrap .i64 ((IntKind.wrap .i64 (t13 + t14)) + y12.2.2.2.1)) 10], IntKind.wrap .i64 (Int.tdiv (IntKind.wrap .i64 ((IntKind.wrap .i64 (t13 + t14)) + y12.2.2.2.1)) 10), IntKind.wrap .i64 (y12.2.2.2.2.1 + 1)))) none))) (some (.inr y12.2.2.1)))) = some ((.inl (l1, l2, out ++ [(l1.getD i 0 + l2.getD i 0 + c) % 10], (l1.getD i 0 + l2.getD i 0 + c) / 10, ((i + 1 : Nat) : Int))) : (List Int × List Int × List Int × Int × Int) ⊕ (List Int)) := by
          rintro o rfl
          rw [Option.bind_some]
          dsimp only
          rw [cond_true, digit_eq, Option.bind_some, digit_eq, Option.bind_some]
          generalize l1.getD i 0 = p at *
          generalize l2.getD i 0 = q at *
          rw [okLen_t (by simp only [List.length_cons, List.length_nil]; omega), cond_true, wrapi (n := p + q) (by omega), wrapi (n := p + q + c) (by omega), tdiv10 (by omega), tmod10 (by omega), wrapi (n := (p + q + c) / 10) (by omega), wrapi (n := (i : Int) + 1) (by omega)]
          rfl
        refine tail _ ?_
        by_cases r1 : i < l1.length
        · rw [ct (by omega)]
        · rw [cf (by omega)]
          by_cases r2 : i < l2.length
          · rw [ct (by omega)]
          · rw [cf (by omega), decide_eq_true (by omega)]
      refine ⟨_, once, ⟨i + 1, _, _, rfl, by simp [ho], D10_append hd (D10_cons (by omega) (by omega) D10_nil), by omega, ?_, ?_⟩, ?_⟩
      · by_cases hlt : i < M
        · left; omega
        · right
          have g1 : l1.getD i 0 = 0 := by rw [List.getD_eq_getElem?_getD, List.getElem?_eq_none (by omega)]; rfl
          have g2 : l2.getD i 0 = 0 := by rw [List.getD_eq_getElem?_getD, List.getElem?_eq_none (by omega)]; rfl
          rw [g1, g2]; omega
      · rw [V10_append, ho, ← hv, V10_drop l1 i, V10_drop l2 i]
        generalize l1.getD i 0 = p at *
        generalize l2.getD i 0 = q at *
        have := Int.mul_ediv_add_emod (p + q + c) 10
        simp only [V10]
        grind
      · dsimp only; omega
    · right
      refine ⟨out, ?_, hd, by omega, ?_⟩
      · unfold pyxref1_AddNat.l4.once
        dsimp only
        rw [cf (by omega), cf (by omega), decide_eq_false (by omega)]
        rfl
      · rw [V10_drop_all (by omega), V10_drop_all (by omega)] at hv
        rw [← hv, show c = 0 by omega]; simp) k (l1, l2, [], 0, ((0 : Nat) : Int)) ⟨0, 0, [], rfl, rfl, D10_nil, .inl rfl, .inl (by omega), by simp [V10]⟩ (by dsimp only; omega)
  have e1' : iter (pyxref1_AddNat.l4.once k) k (l1, l2, [], 0, 0) = some y := e1
  rw [e1', Option.bind_some, trim_eq e2 (by omega) (by omega), e4, Option.bind_some]
theorem AddNat_eq {k : Nat} (hk : 600 < k) {a b : Nat} (ha : a < 10 ^ 200) (hb : b < 10 ^ 200) : pyxref1_AddNat.f k (dig a) (dig b) = some (dig (a + b)) := by
  have l1 := dig_len ha
  have l2 := dig_len hb
  rw [AddNat_raw hk (D10_dig a) (D10_dig b) (by omega) (by omega), V10_dig, V10_dig]
  exact congrArg (fun z => some (dig z)) (by omega)
theorem SubNat_eq {k : Nat} (hk : 600 < k) {a b : Nat} (ha : a < 10 ^ 200) (hb : b ≤ a) : pyxref1_SubNat.f k (dig a) (dig b) = some (dig (a - b)) := by
  have hl1 := dig_len ha
  have hl2 := dig_len (Nat.lt_of_le_of_lt hb ha)
  have h1 := D10_dig a
  have h2 := D10_dig b
  have v1 := V10_dig a
  have v2 := V10_dig b
  generalize dig a = l1 at *
  generalize dig b = l2 at *
  unfold pyxref1_SubNat.f
  obtain ⟨y, e1, e2, e3, e4⟩ := iter_rule (once := pyxref1_SubNat.l4.once k) (fun x => ∃ (i : Nat) (c : Int) (out : List Int), x = (l1, l2, out, c, (i : Int)) ∧ out.length = i ∧ D10 out ∧ (c = 0 ∨ c = 1) ∧ i ≤ l1.length ∧ V10 out + 10 ^ i * (V10 (l1.drop i) - V10 (l2.drop i) - c) = V10 l1 - V10 l2)
    (fun x => l1.length - x.2.2.2.2.toNat) (fun y => D10 y ∧ y.length ≤ 200 ∧ V10 y = V10 l1 - V10 l2) (by
    rintro x ⟨i, c, out, rfl, ho, hd, hc, hi, hv⟩
    have b1 := D10_getD h1 i
    have b2 := D10_getD h2 i
    by_cases run : i < l1.length
    · left
      have once : pyxref1_SubNat.l4.once k (l1, l2, out, c, (i : Int)) = some (.inl (l1, l2, out ++ [(l1.getD i 0 - l2.getD i 0 - c) % 10], if l1.getD i 0 - l2.getD i 0 - c < 0 then 1 else 0, ((i + 1 : Nat) : Int))) := by
        unfold pyxref1_SubNat.l4.once
        dsimp only
        rw [ct (by omega), inb_t (by omega) (by omega), cond_true, digit_eq, Option.bind_some, Int.toNat_natCast]
        generalize l1.getD i 0 = p at *
        generalize l2.getD i 0 = q at *
        rw [wrapi (n := p - q) (by omega), wrapi (n := p - q - c) (by omega)]
        by_cases hn : p - q - c < 0
        · rw [ct hn, Option.bind_some]
          dsimp only
          rw [wrapi (n := p - q - c + 10) (by omega), okLen_t (by simp only [List.length_cons, List.length_nil]; omega), cond_true, Option.bind_some]
          dsimp only
          rw [wrapi (n := (i : Int) + 1) (by omega), if_pos hn, show (p - q - c) % 10 = p - q - c + 10 by omega]
          rfl
        · rw [cf hn, Option.bind_some]
          dsimp only
          rw [okLen_t (by simp only [List.length_cons, List.length_nil]; omega), cond_true, Option.bind_some]
          dsimp only
          rw [wrapi (n := (i : Int) + 1) (by omega), if_neg hn, show (p - q - c) % 10 = p - q - c by omega]
          rfl
      refine ⟨_, once, ⟨i + 1, _, _, rfl, by simp [ho], D10_append hd (D10_cons (by omega) (by omega) D10_nil), by split <;> omega, by omega, ?_⟩, ?_⟩
      · rw [V10_append, ho, ← hv, V10_drop l1 i, V10_drop l2 i]
        generalize l1.getD i 0 = p at *
        generalize l2.getD i 0 = q at *
        have hs : (p - q - c) % 10 = p - q - c + 10 * (if p - q - c < 0 then 1 else 0) := by split <;> omega
        simp only [V10]
        generalize (if p - q - c < 0 then (1 : Int) else 0) = c' at *
        rw [hs]
        grind
      · dsimp only; omega
    · right
      refine ⟨out, ?_, hd, by omega, ?_⟩
      · unfold pyxref1_SubNat.l4.once
        dsimp only
        rw [cf (by omega)]
      · rw [V10_drop_all (l := l1) (by omega)] at hv
        have p1 := V10_lt hd
        rw [ho] at p1
        have p2 := V10_nonneg (D10_drop h2 i)
        have p3 : 0 < (10 : Int) ^ i := Int.pow_pos (by decide)
        by_cases hz : V10 (l2.drop i) + c = 0
        · rw [← hv, show 0 - V10 (l2.drop i) - c = 0 by omega]; simp
        · exfalso
          have : (10 : Int) ^ i * 1 ≤ 10 ^ i * (V10 (l2.drop i) + c) := Int.mul_le_mul_of_nonneg_left (by omega) (Int.le_of_lt p3)
          have e : (10 : Int) ^ i * (0 - V10 (l2.drop i) - c) = - (10 ^ i * (V10 (l2.drop i) + c)) := by grind
          rw [e] at hv
          omega) k (l1, l2, [], 0, ((0 : Nat) : Int)) ⟨0, 0, [], rfl, rfl, D10_nil, .inl rfl, by omega, by simp [V10]⟩ (by dsimp only; omega)
  have e1' : iter (pyxref1_SubNat.l4.once k) k (l1, l2, [], 0, 0) = some y := e1
  rw [e1', Option.bind_some, trim_eq e2 (by omega) (by omega), e4, Option.bind_some, v1, v2]
  exact congrArg (fun z => some (dig z)) (by omega)
theorem drop_lt {l1 l2 : List Int} (h1 : D10 l1) (h2 : D10 l2) {t : Nat} (t1 : t ≤ l1.length) (t2 : t ≤ l2.length) (h : V10 (l1.drop t) < V10 (l2.drop t)) : V10 l1 < V10 l2 := by
  rw [V10_split l1 t1, V10_split l2 t2]
  have p1 := V10_take_lt h1 t1
  have p2 := V10_nonneg (D10_take h2 t)
  have p3 : 0 < (10 : Int) ^ t := Int.pow_pos (by decide)
  have : (10 : Int) ^ t * (V10 (l1.drop t) + 1) ≤ 10 ^ t * V10 (l2.drop t) := Int.mul_le_mul_of_nonneg_left (by omega) (Int.le_of_lt p3)
  rw [Int.mul_add] at this
  omega
theorem Cmp_iter (k : Nat) {l1 l2 : List Int} (h1 : D10 l1) (h2 : D10 l2) (hl : l1.length = l2.length) (hL : l1.length ≤ 1000) : ∀ (t m : Nat), t ≤ l1.length → t < m → V10 (l1.drop t) = V10 (l2.drop t) →
    (V10 l1 = V10 l2 ∧ iter (pyxref1_CmpNat.l6.once k) m (l1, l2, (t : Int) - 1) = some (.inl ())) ∨ (V10 l1 < V10 l2 ∧ iter (pyxref1_CmpNat.l6.once k) m (l1, l2, (t : Int) - 1) = some (.inr (-1))) ∨ (V10 l2 < V10 l1 ∧ iter (pyxref1_CmpNat.l6.once k) m (l1, l2, (t : Int) - 1) = some (.inr 1)) := by
  intro t
  induction t with
  | zero =>
    intro m _ hm hv
    obtain ⟨m, rfl⟩ : ∃ n, m = n + 1 := ⟨m - 1, by omega⟩
    left
    exact ⟨hv, iter_stop (by unfold pyxref1_CmpNat.l6.once; rfl)⟩
  | succ t ih =>
    intro m ht hm hv
    obtain ⟨m, rfl⟩ : ∃ n, m = n + 1 := ⟨m - 1, by omega⟩
    have once : pyxref1_CmpNat.l6.once k (l1, l2, ((t + 1 : Nat) : Int) - 1) = cond (decide (l1.getD t 0 < l2.getD t 0)) (some (.inr (.inr (-1)))) (cond (decide (l1.getD t 0 > l2.getD t 0)) (some (.inr (.inr 1))) (some (.inl (l1, l2, (t : Int) - 1)))) := by
      unfold pyxref1_CmpNat.l6.once
      dsimp only
      rw [show ((t + 1 : Nat) : Int) - 1 = (t : Int) by omega, ct (by omega), inb_t (by omega) (by omega), cond_true, inb_t (by omega) (by omega), cond_true, Int.toNat_natCast, wrapi (show -9223372036854775808 ≤ (t : Int) - 1 ∧ (t : Int) - 1 < 9223372036854775808 by omega)]
      rfl
    have d1 := V10_drop l1 t
    have d2 := V10_drop l2 t
    by_cases hlt : l1.getD t 0 < l2.getD t 0
    · rw [ct hlt] at once
      right; left
      exact ⟨drop_lt h1 h2 (t := t) (by omega) (by omega) (by omega), iter_stop once⟩
    · rw [cf hlt] at once
      by_cases hgt : l1.getD t 0 > l2.getD t 0
      · rw [ct hgt] at once
        right; right
        exact ⟨drop_lt h2 h1 (t := t) (by omega) (by omega) (by omega), iter_stop once⟩
      · rw [cf hgt] at once
        rw [iter_step once]
        exact ih m (by omega) (by omega) (by omega)
theorem CmpNat_eq {k : Nat} (hk : 600 < k) {a b : Nat} (ha : a < 10 ^ 200) (hb : b < 10 ^ 200) : pyxref1_CmpNat.f k (dig a) (dig b) = some (if a < b then -1 else if a = b then 0 else 1) := by
  have hl1 := dig_len ha
  have hl2 := dig_len hb
  unfold pyxref1_CmpNat.f
  by_cases hl : (dig a).length = (dig b).length
  · rw [show (((dig a).length : Int) != ((dig b).length : Int)) = false by rw [hl]; simp, cond_false, wrapi (by omega)]
    rcases Cmp_iter k (D10_dig a) (D10_dig b) hl (by omega) (dig a).length k (Nat.le_refl _) (by omega) (by rw [V10_drop_all (Nat.le_refl _), V10_drop_all (by omega)]) with ⟨h, e⟩ | ⟨h, e⟩ | ⟨h, e⟩
    all_goals rw [V10_dig, V10_dig] at h; rw [e, Option.bind_some]; dsimp only
    · rw [if_neg (by omega), if_pos (by omega)]
    · rw [if_pos (by omega)]
    · rw [if_neg (by omega), if_neg (by omega)]
  · rw [show (((dig a).length : Int) != ((dig b).length : Int)) = true by simp only [bne_iff_ne, ne_eq]; omega, cond_true]
    by_cases hlt : (dig a).length < (dig b).length
    · rw [ct (by omega), if_pos (dig_len_lt hlt)]
    · have := dig_len_lt (show (dig b).length < (dig a).length by omega)
      rw [cf (by omega), if_neg (by omega), if_neg (by omega)]
theorem radix_eq {k : Nat} (hk : 600 < k) : pyxref1_radix.f k = some (dig 18446744073709551616) := by
  unfold pyxref1_radix.f
  have h : pyxref1_Word.f k 18446744073709551615 = some (dig 18446744073709551615) := Word_eq (by omega) (n := 18446744073709551615) (by decide)
  rw [h, Option.bind_some, ← dig_1, AddNat_eq hk (by omega) (by omega), Option.bind_some]
end Go.Proofs.Ytgfbcclfajcjnaa.Pure
/- What the plain sums on lists of digits compute: products, quotients, words. No conditions but size. -/
namespace Go.Proofs.Ytgfbcclfajcjnaa.Pure
set_option linter.unusedVariables false
set_option linter.unusedSimpArgs false
open Go Go.Ev Go.Lm Go.Pu Go.Dg
theorem take_succ10 (l : List Int) {i : Nat} (h : i < l.length) : V10 (l.take (i + 1)) = V10 (l.take i) + 10 ^ i * l.getD i 0 := by
  have e : l.take (i + 1) = l.take i ++ [l.getD i 0] := by rw [List.take_succ_eq_append_getElem h, List.getD_eq_getElem?_getD, List.getElem?_eq_getElem h]; rfl
  rw [e, V10_append, List.length_take, Nat.min_eq_left (by omega)]; simp [V10]
theorem Mul_row10 {k : Nat} (hk : 602 < k) {l1 l2 out0 : List Int} {i : Nat} (h1 : D10 l1) (h2 : D10 l2) (hi : i < l1.length) (h0 : D10 out0) (hL : out0.length = l1.length + l2.length + 1) (hLb : out0.length ≤ 600) (hT : V10 out0 + 10 ^ i * (l1.getD i 0 * V10 l2) < 10 ^ out0.length) :
    ∃ out, iter (pyxref1_MulNat.l7.once k) k (l1, l2, (i : Int), 0, 0, out0) = some (l1, l2, (i : Int), out) ∧ D10 out ∧ out.length = out0.length ∧ V10 out = V10 out0 + 10 ^ i * (l1.getD i 0 * V10 l2) := by
  have hd := D10_getD h1 i
  generalize hdd : l1.getD i 0 = d at *
  generalize hTT : V10 out0 + 10 ^ i * (d * V10 l2) = T at *
  obtain ⟨y, e1, out, rfl, e2, e3, e4⟩ := iter_rule (once := pyxref1_MulNat.l7.once k) (fun x => ∃ (j : Nat) (c : Int) (out : List Int), x = (l1, l2, (i : Int), c, (j : Int), out) ∧ D10 out ∧ out.length = out0.length ∧ 0 ≤ c ∧ c ≤ 9 ∧ i + j ≤ out0.length ∧ V10 out + 10 ^ (i + j) * (c + d * V10 (l2.drop j)) = T)
    (fun x => out0.length - x.2.2.2.2.1.toNat) (fun y => ∃ out, y = (l1, l2, (i : Int), out) ∧ D10 out ∧ out.length = out0.length ∧ V10 out = T) (by
    rintro x ⟨j, c, out, rfl, ho, hlen, hc0, hc9, hij, hv⟩
    have b2 := D10_getD h2 j
    have p1 := V10_nonneg ho
    have p2 := V10_nonneg (D10_drop h2 j)
    have p3 : 0 ≤ d * V10 (l2.drop j) := Int.mul_nonneg hd.1 p2
    by_cases run : j < l2.length ∨ c > 0
    · left
      have hb : i + j < out0.length := by
        rcases run with h | h
        · omega
        · refine Nat.lt_of_not_le fun hle => ?_
          have : i + j = out0.length := by omega
          rw [this] at hv
          have p4 : 0 < (10 : Int) ^ out0.length := Int.pow_pos (by decide)
          have : (10 : Int) ^ out0.length * 1 ≤ 10 ^ out0.length * (c + d * V10 (l2.drop j)) := Int.mul_le_mul_of_nonneg_left (by omega) (Int.le_of_lt p4)
          omega
      have b3 := D10_getD ho (i + j)
      have hdq : 0 ≤ d * l2.getD j 0 ∧ d * l2.getD j 0 ≤ 81 := by
        refine ⟨Int.mul_nonneg hd.1 b2.1, ?_⟩
        have g1 : d * l2.getD j 0 ≤ 9 * l2.getD j 0 := Int.mul_le_mul_of_nonneg_right (by omega) b2.1
        omega
      have once : pyxref1_MulNat.l7.once k (l1, l2, (i : Int), c, (j : Int), out) = some (.inl (l1, l2, (i : Int), (out.getD (i + j) 0 + d * l2.getD j 0 + c) / 10, ((j + 1 : Nat) : Int), out.set (i + j) ((out.getD (i + j) 0 + d * l2.getD j 0 + c) % 10))) := by
        unfold pyxref1_MulNat.l7.once
        dsimp only
        have first : (cond (decide ((j : Int) < (l2.length : Int))) (some (l1, l2, (i : Int), c, (j : Int), true, out)) (some (l1, l2, (i : Int), c, (j : Int), decide (c > 0), out)) : Option (List Int × List Int × Int × Int × Int × Bool × List Int)) = some (l1, l2, (i : Int), c, (j : Int), true, out) := by
          by_cases h : j < l2.length
          · rw [ct (by omega)]
          · rw [cf (by omega), decide_eq_true (by omega)]
        refine (congrArg (Option.bind · _) first).trans ?_
        rw [Option.bind_some]
        dsimp only
        have hw : IntKind.wrap .i64 ((i : Int) + (j : Int)) = ((i + j : Nat) : Int) := by rw [wrapi (by omega)]; omega
        rw [cond_true, hw, inb_t (by omega) (by omega), cond_true, Int.toNat_natCast, blt_t (by omega), cond_true, inb_t (by omega) (by omega), cond_true, digit_eq, Option.bind_some, cond_true, cond_true, Int.toNat_natCast, hdd, wrapi (n := d * l2.getD j 0) (by omega)]
        generalize d * l2.getD j 0 = q at *
        generalize out.getD (i + j) 0 = p at *
        rw [wrapi (n := p + q) (by omega), wrapi (n := p + q + c) (by omega), tdiv10 (by omega), tmod10 (by omega), wrapi (n := (p + q + c) / 10) (by omega), wrapi (n := (j : Int) + 1) (by omega)]
        rfl
      refine ⟨_, once, ⟨j + 1, _, _, rfl, D10_set ho _ (by omega) (by omega), by rw [List.length_set, hlen], by omega, by omega, by omega, ?_⟩, ?_⟩
      · rw [V10_set (by omega), ← hv, V10_drop l2 j]
        generalize l2.getD j 0 = q at *
        generalize out.getD (i + j) 0 = p at *
        have := Int.mul_ediv_add_emod (p + d * q + c) 10
        generalize (p + d * q + c) / 10 = u at *
        generalize (p + d * q + c) % 10 = w at *
        rw [show i + (j + 1) = i + j + 1 by omega, Int.pow_succ]
        generalize (10 : Int) ^ (i + j) = P at *
        grind
      · dsimp only; omega
    · right
      refine ⟨(l1, l2, (i : Int), out), ?_, out, rfl, ho, hlen, ?_⟩
      · unfold pyxref1_MulNat.l7.once
        dsimp only
        rw [cf (by omega), decide_eq_false (by omega)]
        rfl
      · rw [V10_drop_all (by omega)] at hv
        rw [← hv, show c = 0 by omega]; simp) k (l1, l2, (i : Int), 0, ((0 : Nat) : Int), out0) ⟨0, 0, out0, rfl, h0, rfl, by decide, by decide, by omega, by rw [← hTT]; simp⟩ (by dsimp only; omega)
  exact ⟨out, e1, e2, e3, e4⟩
theorem MulNat_eq {k : Nat} (hk : 602 < k) {a b : Nat} (ha : a < 10 ^ 200) (hb : b < 10 ^ 200) : pyxref1_MulNat.f k (dig a) (dig b) = some (dig (a * b)) := by
  have hl1 := dig_len ha
  have hl2 := dig_len hb
  have h1 := D10_dig a
  have h2 := D10_dig b
  have v1 := V10_dig a
  have v2 := V10_dig b
  generalize dig a = l1 at *
  generalize dig b = l2 at *
  unfold pyxref1_MulNat.f
  have hw : IntKind.wrap .i64 (IntKind.wrap .i64 ((l1.length : Int) + (l2.length : Int)) + 1) = ((l1.length + l2.length + 1 : Nat) : Int) := by rw [wrapi (n := (l1.length : Int) + (l2.length : Int)) (by omega), wrapi (by omega)]; omega
  rw [hw, decide_eq_true (show (0 : Int) ≤ ((l1.length + l2.length + 1 : Nat) : Int) by omega), decide_eq_true (show ((l1.length + l2.length + 1 : Nat) : Int) = ((l1.length + l2.length + 1 : Nat) : Int) from rfl), decide_eq_true (show ((l1.length + l2.length + 1 : Nat) : Int) * 8 ≤ 140737488355328 by omega), Bool.and_true, Bool.and_true, cond_true, Int.toNat_natCast]
  generalize hn : l1.length + l2.length + 1 = n at *
  obtain ⟨y, e1, e2, e3, e4⟩ := iter_rule (once := pyxref1_MulNat.l3.once k) (fun x => ∃ (i : Nat) (out : List Int), x = (l1, l2, (i : Int), out) ∧ i ≤ l1.length ∧ D10 out ∧ out.length = n ∧ V10 out = V10 (l1.take i) * V10 l2)
    (fun x => l1.length - x.2.2.1.toNat) (fun y => D10 y ∧ y.length = n ∧ V10 y = V10 l1 * V10 l2) (by
    rintro x ⟨i, out, rfl, hi, ho, hlen, hv⟩
    by_cases run : i < l1.length
    · left
      have htk := take_succ10 l1 run
      have hT : V10 out + 10 ^ i * (l1.getD i 0 * V10 l2) = V10 (l1.take (i + 1)) * V10 l2 := by rw [hv, htk]; grind
      have q1 := V10_nonneg (D10_take h1 (i + 1))
      have q2 := V10_take_lt h1 (i := i + 1) (by omega)
      have q3 := V10_nonneg h2
      have q4 := V10_lt h2
      have q5 : 0 < (10 : Int) ^ l2.length := Int.pow_pos (by decide)
      have q6 : V10 (l1.take (i + 1)) * V10 l2 ≤ V10 (l1.take (i + 1)) * 10 ^ l2.length := Int.mul_le_mul_of_nonneg_left (by omega) q1
      have q7 : V10 (l1.take (i + 1)) * 10 ^ l2.length < 10 ^ (i + 1) * 10 ^ l2.length := Int.mul_lt_mul_of_pos_right q2 q5
      have q8 : (10 : Int) ^ (i + 1) * 10 ^ l2.length ≤ 10 ^ n := by
        rw [← Int.pow_add, show (10 : Int) ^ (i + 1 + l2.length) = ((10 ^ (i + 1 + l2.length) : Nat) : Int) by simp, show (10 : Int) ^ n = ((10 ^ n : Nat) : Int) by simp]
        have := Nat.pow_le_pow_right (show 0 < 10 by decide) (show i + 1 + l2.length ≤ n by omega)
        omega
      obtain ⟨out', r1, r2, r3, r4⟩ := Mul_row10 (k := k) (i := i) hk h1 h2 run ho (by omega) (by omega) (by rw [hT, hlen]; omega)
      refine ⟨(l1, l2, ((i + 1 : Nat) : Int), out'), ?_, ⟨i + 1, out', rfl, by omega, r2, by omega, by rw [r4, hT]⟩, by dsimp only; omega⟩
      unfold pyxref1_MulNat.l3.once
      dsimp only
      rw [ct (by omega), r1, Option.bind_some]
      dsimp only
      rw [wrapi (by omega)]
      rfl
    · right
      refine ⟨out, ?_, ho, hlen, ?_⟩
      · unfold pyxref1_MulNat.l3.once
        dsimp only
        rw [cf (by omega)]
      · rw [hv, List.take_of_length_le (by omega)]) k (l1, l2, ((0 : Nat) : Int), List.replicate n 0) ⟨0, _, rfl, by omega, D10_replicate n, by simp, by rw [V10_replicate]; simp [V10]⟩ (by dsimp only; omega)
  have e1' : iter (pyxref1_MulNat.l3.once k) k (l1, l2, 0, List.replicate n 0) = some y := e1
  rw [e1', Option.bind_some, trim_eq e2 (by omega) (by omega), e4, Option.bind_some, v1, v2, ← Int.natCast_mul, Int.toNat_natCast]
theorem Div_sub {k : Nat} (hk : 602 < k) (l1 : List Int) {a b : Nat} (hb : 0 < b) (hb' : b < 10 ^ 100) (ha : a < 10 * b) {i : Nat} {q : List Int} (hi : i < q.length) (hq : q.getD i 0 = 0) (hqb : q.length ≤ 600) :
    iter (pyxref1_DivNat.l7.once k) k (l1, dig b, dig a, (i : Int), q) = some (l1, dig b, dig (a % b), (i : Int), q.set i ((a / b : Nat) : Int)) := by
  have hq0 : q.set i 0 = q := by
    have : q[i] = 0 := by rw [List.getD_eq_getElem?_getD, List.getElem?_eq_getElem hi] at hq; exact hq
    rw [← this, List.set_getElem_self]
  obtain ⟨y, e1, e2⟩ := iter_rule (once := pyxref1_DivNat.l7.once k) (fun x => ∃ c : Nat, x = (l1, dig b, dig (a - b * c), (i : Int), q.set i (c : Int)) ∧ b * c ≤ a ∧ c ≤ 9)
    (fun x => 10 - (x.2.2.2.2.getD i 0).toNat) (fun y => y = (l1, dig b, dig (a % b), (i : Int), q.set i ((a / b : Nat) : Int))) (by
    rintro x ⟨c, rfl, hc, hc9⟩
    have hlen : (q.set i (c : Int)).length = q.length := List.length_set
    have hg : (q.set i (c : Int)).getD i 0 = (c : Int) := by rw [List.getD_eq_getElem?_getD, List.getElem?_set_self hi, Option.getD_some]
    have hcmp := CmpNat_eq (k := k) (a := a - b * c) (b := b) (by omega) (by omega) (by omega)
    by_cases run : b ≤ a - b * c
    · left
      have hc' : b * (c + 1) ≤ a := by rw [Nat.mul_add]; omega
      have hc9' : c + 1 ≤ 9 := by
        refine Nat.le_of_not_lt fun h => ?_
        have := Nat.mul_le_mul_left b (show 10 ≤ c + 1 by omega)
        omega
      refine ⟨(l1, dig b, dig (a - b * (c + 1)), (i : Int), q.set i ((c + 1 : Nat) : Int)), ?_, ⟨c + 1, rfl, hc', hc9'⟩, ?_⟩
      · unfold pyxref1_DivNat.l7.once
        dsimp only
        rw [hcmp, Option.bind_some, if_neg (by omega)]
        rw [show decide ((if a - b * c = b then (0 : Int) else 1) ≥ 0) = true by split <;> rfl, cond_true, SubNat_eq (by omega) (by omega) run, Option.bind_some, hlen, inb_t (by omega) (by omega), cond_true, Int.toNat_natCast, blt_t hi, cond_true, cond_true, cond_true, hg, List.set_set, wrapi (by omega), Nat.mul_add, Nat.mul_one, Nat.sub_sub]
        rfl
      · dsimp only
        rw [hg, show (q.set i ((c + 1 : Nat) : Int)).getD i 0 = ((c + 1 : Nat) : Int) by rw [List.getD_eq_getElem?_getD, List.getElem?_set_self hi, Option.getD_some]]
        omega
    · right
      have hdiv : a / b = c := Nat.div_eq_of_lt_le (by rw [Nat.mul_comm]; exact hc) (by rw [Nat.succ_mul, Nat.mul_comm]; omega)
      have hmod : a % b = a - b * c := by have := Nat.div_add_mod a b; rw [hdiv] at this; omega
      refine ⟨_, ?_, rfl⟩
      rw [hdiv, hmod]
      unfold pyxref1_DivNat.l7.once
      dsimp only
      rw [hcmp, Option.bind_some, if_pos (by omega)]
      rfl) k (l1, dig b, dig a, (i : Int), q) ⟨0, by rw [Nat.mul_zero, Nat.sub_zero, show ((0 : Nat) : Int) = 0 from rfl, hq0], by omega, by omega⟩ (by dsimp only; omega)
  rw [e1, e2]
theorem DivNat_eq {k : Nat} (hk : 602 < k) {a b : Nat} (ha : a < 10 ^ 200) (hb : 0 < b) (hb' : b < 10 ^ 100) : pyxref1_DivNat.f k (dig a) (dig b) = some (dig (a / b), dig (a % b)) := by
  have hl1 := dig_len ha
  have h1 := D10_dig a
  have v1 := V10_dig a
  generalize dig a = l1 at *
  have hlb := dig_len hb'
  unfold pyxref1_DivNat.f
  rw [decide_eq_true (show (0 : Int) ≤ (l1.length : Int) by omega), decide_eq_true (show (l1.length : Int) = (l1.length : Int) from rfl), decide_eq_true (show (l1.length : Int) * 8 ≤ 140737488355328 by omega), Bool.and_true, Bool.and_true, cond_true, Int.toNat_natCast, wrapi (by omega)]
  obtain ⟨y, e1, r, q, rfl, e2, e3, e4, e5⟩ := iter_rule (once := pyxref1_DivNat.l4.once k) (fun x => ∃ (t r : Nat) (q : List Int), x = (l1, dig b, dig r, (t : Int) - 1, q) ∧ t ≤ l1.length ∧ q.length = l1.length ∧ D10 q ∧ r < b ∧ (∀ j, j < t → q.getD j 0 = 0) ∧ V10 (l1.drop t) = (b : Int) * V10 (q.drop t) + r)
    (fun x => (x.2.2.2.1 + 1).toNat) (fun y => ∃ (r : Nat) (q : List Int), y = (dig r, q) ∧ D10 q ∧ q.length = l1.length ∧ r < b ∧ V10 l1 = (b : Int) * V10 q + r) (by
    rintro x ⟨t, r, q, rfl, ht, hql, hq, hr, hz, hv⟩
    cases t with
    | zero =>
      right
      refine ⟨(dig r, q), ?_, r, q, rfl, hq, hql, hr, hv⟩
      unfold pyxref1_DivNat.l4.once
      rfl
    | succ t =>
      left
      have bd := D10_getD h1 t
      obtain ⟨d, hd⟩ : ∃ d : Nat, l1.getD t 0 = (d : Int) := ⟨(l1.getD t 0).toNat, by omega⟩
      rw [hd] at bd
      have hlr : (dig r).length ≤ 100 := dig_len (by omega)
      have htr : pyxref1_trim.f k ([(d : Int)] ++ dig r) = some (dig (d + 10 * r)) := by
        rw [trim_eq (D10_append (D10_cons bd.1 bd.2 D10_nil) (D10_dig r)) (by simp; omega) (by simp; omega), List.singleton_append, V10, V10_dig]
        exact congrArg (fun z => some (dig z)) (by omega)
      have hsub := Div_sub (k := k) hk l1 hb hb' (a := d + 10 * r) (by omega) (i := t) (q := q) (by omega) (hz t (by omega)) (by omega)
      have hmod := Nat.mod_lt (d + 10 * r) hb
      have hdlt : (d + 10 * r) / b < 10 := by rw [Nat.div_lt_iff_lt_mul hb]; omega
      refine ⟨(l1, dig b, dig ((d + 10 * r) % b), (t : Int) - 1, q.set t (((d + 10 * r) / b : Nat) : Int)), ?_, ⟨t, _, _, rfl, by omega, by rw [List.length_set, hql], D10_set hq _ (Int.natCast_nonneg _) (Int.ofNat_lt.2 hdlt), hmod, ?_, ?_⟩, by dsimp only; omega⟩
      · unfold pyxref1_DivNat.l4.once
        dsimp only
        rw [show ((t + 1 : Nat) : Int) - 1 = (t : Int) by omega, ct (by omega), inb_t (by omega) (by omega), cond_true, Int.toNat_natCast, hd, okLen_t (by simp only [List.length_cons, List.length_nil]; omega), cond_true, htr, Option.bind_some, hsub, Option.bind_some]
        dsimp only
        rw [wrapi (show -9223372036854775808 ≤ (t : Int) - 1 ∧ (t : Int) - 1 < 9223372036854775808 by omega)]
      · intro j hj
        rw [List.getD_eq_getElem?_getD, List.getElem?_set_ne (by omega), ← List.getD_eq_getElem?_getD]
        exact hz j (by omega)
      · have hdr : (q.set t (((d + 10 * r) / b : Nat) : Int)).getD t 0 = (((d + 10 * r) / b : Nat) : Int) := by rw [List.getD_eq_getElem?_getD, List.getElem?_set_self (by omega), Option.getD_some]
        rw [V10_drop l1 t, V10_drop (q.set t _) t, hdr, hd, hv, List.drop_set_of_lt (by omega)]
        have := Nat.div_add_mod (d + 10 * r) b
        generalize (d + 10 * r) / b = u at *
        generalize (d + 10 * r) % b = w at *
        have h2 : (b : Int) * (u : Int) + (w : Int) = (d : Int) + 10 * (r : Int) := by rw [← Int.natCast_mul]; omega
        grind) k (l1, dig b, dig 0, (l1.length : Int) - 1, List.replicate l1.length 0) ⟨l1.length, 0, _, rfl, Nat.le_refl _, by simp, D10_replicate _, hb, fun j hj => by rw [List.getD_eq_getElem?_getD, List.getElem?_replicate, if_pos hj]; rfl, by rw [V10_drop_all (Nat.le_refl _), V10_drop_all (by simp)]; simp⟩ (by dsimp only; omega)
  rw [dig_0] at e1
  have p := V10_nonneg e2
  rw [e1, Option.bind_some, trim_eq e2 (by omega) (by omega), Option.bind_some]
  obtain ⟨n, hn⟩ : ∃ n : Nat, V10 q = (n : Int) := ⟨(V10 q).toNat, by omega⟩
  rw [hn] at e5 ⊢
  rw [v1] at e5
  have e6 : a = b * n + r := by rw [← Int.natCast_mul] at e5; omega
  have h3 : a / b = n := by rw [e6, Nat.mul_add_div hb, Nat.div_eq_of_lt e4, Nat.add_zero]
  have h4 : a % b = r := by rw [e6, Nat.mul_add_mod, Nat.mod_eq_of_lt e4]
  rw [h3, h4, Int.toNat_natCast]
theorem drop_le {l : List Int} (h : D10 l) {t : Nat} (ht : t ≤ l.length) : V10 (l.drop t) ≤ V10 l := by
  rw [V10_split l ht]
  have p1 := V10_nonneg (D10_take h t)
  have p2 := V10_nonneg (D10_drop h t)
  have p3 : 0 < (10 : Int) ^ t := Int.pow_pos (by decide)
  have : 1 * V10 (l.drop t) ≤ 10 ^ t * V10 (l.drop t) := Int.mul_le_mul_of_nonneg_right (by omega) p2
  omega
theorem short_eq {k : Nat} (hk : 602 < k) {n : Nat} (hn : n < 18446744073709551616) : pyxref1_short.f k (dig n) = some (n : Int) := by
  have hl := dig_len (n := n) (m := 20) (by omega)
  have h := D10_dig n
  have v := V10_dig n
  generalize dig n = l at *
  unfold pyxref1_short.f
  rw [wrapi (by omega)]
  obtain ⟨y, e1, e2⟩ := iter_rule (once := pyxref1_short.l3.once k) (fun x => ∃ t : Nat, x = (l, V10 (l.drop t), (t : Int) - 1) ∧ t ≤ l.length) (fun x => (x.2.2 + 1).toNat) (fun y => y = V10 l) (by
    rintro x ⟨t, rfl, ht⟩
    cases t with
    | zero =>
      right
      exact ⟨V10 l, by unfold pyxref1_short.l3.once; rfl, rfl⟩
    | succ t =>
      left
      have p1 := drop_le h ht
      have p2 := drop_le h (t := t) (by omega)
      have p3 := V10_nonneg (D10_drop h (t + 1))
      have p4 := V10_nonneg (D10_drop h t)
      have p5 := D10_getD h t
      have p6 := V10_drop l t
      refine ⟨(l, V10 (l.drop t), (t : Int) - 1), ?_, ⟨t, rfl, by omega⟩, by dsimp only; omega⟩
      unfold pyxref1_short.l3.once
      dsimp only
      rw [show ((t + 1 : Nat) : Int) - 1 = (t : Int) by omega, ct (by omega), inb_t (by omega) (by omega), cond_true, Int.toNat_natCast, wrapu (n := 10 * V10 (l.drop (t + 1))) (by omega), wrapu (n := l.getD t 0) (by omega), wrapu (by omega), wrapi (by omega), p6, Int.add_comm]) k (l, 0, (l.length : Int) - 1) ⟨l.length, by rw [V10_drop_all (Nat.le_refl _)], Nat.le_refl _⟩ (by dsimp only; omega)
  rw [e1, Option.bind_some, e2, v]
theorem Nat2_eq {k : Nat} (hk : 602 < k) {x : Int × Int} (hx : W2 x) {n : Nat} (hn : N2 x = (n : Int)) : pyxref1_Nat2.f k x = some (dig n) := by
  obtain ⟨a, b⟩ := x
  obtain ⟨⟨h1, h2⟩, h3, h4⟩ := hx
  unfold N2 at hn
  dsimp only at *
  obtain ⟨a, rfl⟩ := Int.eq_ofNat_of_zero_le h1
  obtain ⟨b, rfl⟩ := Int.eq_ofNat_of_zero_le h3
  unfold pyxref1_Nat2.f
  dsimp only
  rw [Word_eq (by omega) (by omega), Option.bind_some, radix_eq (by omega), Option.bind_some, MulNat_eq hk (by omega) (by omega), Option.bind_some, Word_eq (by omega) (by omega), Option.bind_some, AddNat_eq (by omega) (by omega) (by omega), Option.bind_some]
  exact congrArg (fun z => some (dig z)) (by omega)
theorem TenNat_eq {k : Nat} {i : Nat} (hi : i ≤ 100) : pyxref1_TenNat.f k (i : Int) = some (dig (10 ^ i)) := by
  unfold pyxref1_TenNat.f
  have hw : IntKind.wrap .i64 ((i : Int) + 1) = ((i + 1 : Nat) : Int) := by rw [wrapi (by omega)]; omega
  rw [hw, decide_eq_true (show (0 : Int) ≤ ((i + 1 : Nat) : Int) by omega), decide_eq_true (show ((i + 1 : Nat) : Int) = ((i + 1 : Nat) : Int) from rfl), decide_eq_true (show ((i + 1 : Nat) : Int) * 8 ≤ 140737488355328 by omega), Bool.and_true, Bool.and_true, cond_true, Int.toNat_natCast, List.length_replicate, inb_t (by omega) (by omega), cond_true, Int.toNat_natCast, blt_t (by omega), cond_true]
  have hd : D10 ((List.replicate (i + 1) (0 : Int)).set i 1) := D10_set (D10_replicate _) _ (by decide) (by decide)
  have hlast : ((List.replicate (i + 1) (0 : Int)).set i 1).getLast? ≠ some 0 := by
    rw [List.getLast?_eq_getElem?, List.length_set, List.length_replicate, Nat.add_sub_cancel, List.getElem?_set_self (by simp)]
    simp
  rw [dig_of hd hlast, V10_set (by simp), V10_replicate]
  have : (List.replicate (i + 1) (0 : Int)).getD i 0 = 0 := by simp [List.getD_eq_getElem?_getD, List.getElem?_replicate]
  rw [this]
  refine congrArg (fun z => some (dig z)) ?_
  rw [show (0 : Int) + (1 - 0) * 10 ^ i = ((10 ^ i : Nat) : Int) by simp, Int.toNat_natCast]
end Go.Proofs.Ytgfbcclfajcjnaa.Pure
/- What sums on numbers with places after the point compute: the whole of dec's sums, told by whole numbers. No conditions but size. -/
namespace Go.Proofs.Ytgfbcclfajcjnaa.Pure
set_option linter.unusedVariables false
set_option linter.unusedSimpArgs false
open Go Go.Ev Go.Lm Go.Pu
/-- A number as two words. -/
def w2 (n : Nat) : Int × Int := (((n % 18446744073709551616 : Nat) : Int), ((n / 18446744073709551616 : Nat) : Int))
theorem W2_w2 {n : Nat} (h : n < 340282366920938463463374607431768211456) : W2 (w2 n) := by
  unfold w2 W2 Wd
  dsimp only
  omega
theorem N2_w2 (n : Nat) : N2 (w2 n) = (n : Int) := by
  unfold w2 N2
  dsimp only
  omega
theorem w2_of {x : Int × Int} (h : W2 x) {n : Nat} (hn : N2 x = (n : Int)) : x = w2 n := by
  have hb := N2_bd h
  exact N2_inj h (W2_w2 (by omega)) (by rw [hn, N2_w2])
/-- The number i at s places. -/
def DV (i : Int) (s : Nat) : Sapi_Dec := ⟨decide (i < 0), w2 i.natAbs, (s : Int)⟩
def Sm (i : Int) : Prop := i.natAbs < 1000000000000000000000000000000
def nil0 : Sapi_Dec := ⟨false, (0, 0), 0⟩
/-- The number that a sum is, or the word that it does not fit. -/
def mkD (v : Int) (m : Nat) : Sapi_Dec × Int := if v.natAbs < 1000000000000000000000000000000 then (DV v m, 0) else (nil0, 3)
theorem small_all {k : Nat} (hk : 60 < k) {x : Int × Int} (hx : W2 x) : dec_small.f k x = some (decide (N2 x < 1000000000000000000000000000000)) := by
  unfold dec_small.f dec_ten.f
  obtain ⟨t, t1, t2, t3⟩ := Ten_eq (k := k) hk (i := 30) (by decide)
  have t1' : limb_Ten.f k 30 = some (t, true) := t1
  rw [t1', Option.bind_some, Option.bind_some]
  obtain ⟨j, rfl⟩ : ∃ j, k = j + 3 := ⟨k - 3, by omega⟩
  have e : limb_Cmp.f (j + 3) (x.1, x.2) (t.1, t.2) = _ := Cmp_eq j hx t2
  rw [e, Option.bind_some, t3, show (10 : Int) ^ 30 = 1000000000000000000000000000000 by decide]
  refine congrArg some ?_
  by_cases h : N2 x < 1000000000000000000000000000000
  · rw [if_pos h, decide_eq_true h]; rfl
  · rw [if_neg h, decide_eq_false h]; split <;> rfl
theorem nought_eq (k : Nat) {x : Int × Int} (hx : W2 x) : dec_nought.f k x = some (decide (N2 x = 0)) := by
  unfold dec_nought.f
  obtain ⟨a, b⟩ := x
  obtain ⟨⟨h1, h2⟩, h3, h4⟩ := hx
  dsimp only at *
  refine congrArg some ?_
  unfold N2
  dsimp only
  by_cases ha : a = 0
  · subst ha
    by_cases hb : b = 0
    · subst hb; rfl
    · rw [show ((b == 0) : Bool) = false by simp [hb], Bool.and_false, decide_eq_false (by omega)]
  · rw [show ((a == 0) : Bool) = false by simp [ha], Bool.false_and, decide_eq_false (by omega)]
theorem Sm_w2 {i : Int} (h : Sm i) : W2 (w2 i.natAbs) := W2_w2 (by unfold Sm at h; omega)
theorem Right_DV {k : Nat} (hk : 60 < k) {i : Int} {s : Nat} (hi : Sm i) (hs : s ≤ 9) : dec_Right.f k (DV i s) = some true := by
  unfold dec_Right.f DV
  dsimp only
  have e1 : dec_small.f k ((w2 i.natAbs).1, (w2 i.natAbs).2) = some (decide (N2 (w2 i.natAbs) < 1000000000000000000000000000000)) := small_all hk (Sm_w2 hi)
  have e2 : dec_nought.f k ((w2 i.natAbs).1, (w2 i.natAbs).2) = some (decide (N2 (w2 i.natAbs) = 0)) := nought_eq k (Sm_w2 hi)
  unfold Sm at hi
  rw [e1, Option.bind_some, e2, N2_w2, ct (by omega), ct (by omega), ct (by omega)]
  by_cases h : i < 0
  · rw [ct h, Option.bind_some, decide_eq_false (by omega)]; rfl
  · rw [cf h]
theorem Sign_DV {k : Nat} (hk : 60 < k) {i : Int} {s : Nat} (hi : Sm i) (hs : s ≤ 9) : dec_Sign.f k (DV i s) = some (if i = 0 then 0 else if i < 0 then -1 else 1) := by
  unfold dec_Sign.f
  have h : dec_Right.f k ⟨(DV i s).f_Neg, ((DV i s).f_C.1, (DV i s).f_C.2), (DV i s).f_Scale⟩ = some true := Right_DV hk hi hs
  have e2 : dec_nought.f k ((DV i s).f_C.1, (DV i s).f_C.2) = some (decide (N2 (w2 i.natAbs) = 0)) := nought_eq k (Sm_w2 hi)
  rw [h, Option.bind_some, Bool.not_true, cond_false, e2, Option.bind_some, Option.bind_some, N2_w2]
  dsimp only
  unfold DV
  dsimp only
  by_cases h0 : i = 0
  · rw [ct (by omega), if_pos h0]
  · rw [cf (by omega), if_neg h0]
    by_cases h1 : i < 0
    · rw [ct h1, if_pos h1]
    · rw [cf h1, if_neg h1]
theorem made_eq {k : Nat} (hk : 60 < k) (neg : Bool) {x : Int × Int × Int × Int} (hx : W4 x) (s : Nat) : dec_made.f k neg x (s : Int) = some (mkD (if neg then -(N4 x) else N4 x) s) := by
  unfold dec_made.f mkD
  obtain ⟨z, b, z1, z2, z3, z4, z5⟩ := Short_eq k hx
  have z1' : limb_Short.f k (x.1, x.2.1, x.2.2.1, x.2.2.2) = some (z, b) := z1
  have hb := N4_bd hx
  rw [z1', Option.bind_some]
  have e1 : dec_small.f k (z.1, z.2) = some (decide (N2 z < 1000000000000000000000000000000)) := small_all hk z2
  have e2 : dec_nought.f k (z.1, z.2) = some (decide (N2 z = 0)) := nought_eq k z2
  have hna : (if neg = true then -(N4 x) else N4 x).natAbs = (N4 x).natAbs := by split <;> omega
  rw [hna]
  cases b
  · have : ¬ N4 x < 340282366920938463463374607431768211456 := fun h => by have := z3.2 h; cases this
    rw [Bool.not_false, cond_true, Option.bind_some, if_neg (by omega)]
    rfl
  · have hN := z4 rfl
    rw [Bool.not_true, cond_false, e1, Option.bind_some, Option.bind_some, e2, hN]
    dsimp only
    by_cases h : N4 x < 1000000000000000000000000000000
    · rw [decide_eq_true h, Bool.not_true, cond_false, if_pos (by omega)]
      have hz : z = w2 (N4 x).natAbs := w2_of z2 (by omega)
      unfold DV
      rw [hna, ← hz]
      cases neg
      · rw [cond_false]
        refine congrArg some ?_
        rw [decide_eq_false]
        simp only [Bool.false_eq_true, if_false]
        omega
      · rw [cond_true, Option.bind_some]
        refine congrArg some ?_
        have : (!decide (N4 x = 0)) = decide ((if true = true then -(N4 x) else N4 x) < 0) := by
          rw [if_pos rfl]
          by_cases h0 : N4 x = 0
          · rw [decide_eq_true h0, decide_eq_false (by omega)]; rfl
          · rw [decide_eq_false h0, decide_eq_true (by omega)]; rfl
        rw [this]
    · rw [decide_eq_false h, Bool.not_false, cond_true, if_neg (by omega)]
      rfl
theorem wide_eq {k : Nat} (hk : 60 < k) (n : Bool) {c : Int × Int} (hc : W2 c) {s t : Nat} (hst : s ≤ t) (ht : t ≤ s + 38) (h9 : t ≤ 100) : ∃ z, dec_wide.f k ⟨n, c, (s : Int)⟩ (t : Int) = some z ∧ W4 z ∧ N4 z = N2 c * 10 ^ (t - s) := by
  unfold dec_wide.f dec_ten.f
  dsimp only
  obtain ⟨u, u1, u2, u3⟩ := Ten_eq hk (i := t - s) (by omega)
  rw [wrapi (by omega), show (t : Int) - (s : Int) = ((t - s : Nat) : Int) by omega, u1, Option.bind_some, Option.bind_some]
  obtain ⟨z, z1, z2, z3⟩ := Mul_eq (k := k) (by omega) hc u2
  have z1' : limb_Mul.f k (c.1, c.2) (u.1, u.2) = some z := z1
  dsimp only
  rw [z1', Option.bind_some]
  exact ⟨z, rfl, z2, by rw [z3, u3]⟩
theorem not2 {x : Int × Int} (hx : W2 x) : W2 (bits .xor .u64 18446744073709551615 x.1, bits .xor .u64 18446744073709551615 x.2) ∧ N2 (bits .xor .u64 18446744073709551615 x.1, bits .xor .u64 18446744073709551615 x.2) = 340282366920938463463374607431768211455 - N2 x := by
  obtain ⟨a, b⟩ := x
  obtain ⟨⟨h1, h2⟩, h3, h4⟩ := hx
  dsimp only at *
  obtain ⟨a', rfl⟩ := Int.eq_ofNat_of_zero_le h1
  obtain ⟨b', rfl⟩ := Int.eq_ofNat_of_zero_le h3
  rw [not64 (by omega), not64 (by omega)]
  unfold W2 Wd N2
  dsimp only
  omega
def lo (x : Int × Int × Int × Int) : Int × Int := (x.1, x.2.1)
def hi (x : Int × Int × Int × Int) : Int × Int := (x.2.2.1, x.2.2.2)
theorem N4_halves (x : Int × Int × Int × Int) : N4 x = N2 (lo x) + 340282366920938463463374607431768211456 * N2 (hi x) := by
  unfold N4 N2 lo hi
  dsimp only
  omega
theorem W2_lo {x : Int × Int × Int × Int} (h : W4 x) : W2 (lo x) := ⟨h.1, h.2.1⟩
theorem W2_hi {x : Int × Int × Int × Int} (h : W4 x) : W2 (hi x) := ⟨h.2.2.1, h.2.2.2⟩
theorem W2_one : W2 (1, 0) := W2_of ⟨by decide, by decide⟩
theorem plus4 (k : Nat) {x y : Int × Int × Int × Int} (hx : W4 x) (hy : W4 y) (bx : N4 x < 28948022309329048855892746252171976963317496166410141009864396001978282409984) (by_ : N4 y < 28948022309329048855892746252171976963317496166410141009864396001978282409984) :
    ∃ z, dec_plus.f k x y = some z ∧ W4 z ∧ N4 z = N4 x + N4 y := by
  have h1 := N4_halves x
  have h2 := N4_halves y
  have l1 := N2_bd (W2_lo hx)
  have l2 := N2_bd (W2_lo hy)
  have m1 := N2_bd (W2_hi hx)
  have m2 := N2_bd (W2_hi hy)
  unfold dec_plus.f dec_halves.f
  rw [Option.bind_some, Option.bind_some]
  dsimp only
  obtain ⟨a, b, a1, a2, a3, a4, a5⟩ := Add_eq k (W2_hi hx) (W2_hi hy)
  obtain rfl : b = true := a5.2 (by omega)
  have a1' : limb_Add.f k (x.2.2.1, x.2.2.2) (y.2.2.1, y.2.2.2) = some (a, true) := a1
  have a3 := a3 rfl
  obtain ⟨c, e, c1, c2, c3, c4, c5⟩ := Add_eq k (W2_lo hx) (W2_lo hy)
  have c1' : limb_Add.f k (x.1, x.2.1) (y.1, y.2.1) = some (c, e) := c1
  rw [a1', Option.bind_some, c1', Option.bind_some]
  cases e
  · have hov : ¬ N2 (lo x) + N2 (lo y) < 340282366920938463463374607431768211456 := fun h => by have := c5.2 h; cases this
    rw [Bool.not_false, cond_true]
    obtain ⟨n1, n2⟩ := not2 (W2_lo hx)
    obtain ⟨d, f, d1, d2, d3, d4, d5⟩ := Sub_eq k (W2_lo hy) n1
    obtain rfl : f = true := d5.2 (by omega)
    have d1' : limb_Sub.f k (y.1, y.2.1) (bits .xor .u64 18446744073709551615 x.1, bits .xor .u64 18446744073709551615 x.2.1) = some (d, true) := d1
    have d3 := d3 rfl
    rw [d1', Option.bind_some, Of_eq, Option.bind_some]
    obtain ⟨g, f, g1, g2, g3, g4, g5⟩ := Sub_eq k d2 W2_one
    have hone : N2 (1, 0) = 1 := N2_of 1
    obtain rfl : f = true := g5.2 (by omega)
    have g1' : limb_Sub.f k (d.1, d.2) (1, 0) = some (g, true) := g1
    have g3 := g3 rfl
    dsimp only
    rw [g1', Option.bind_some, Option.bind_some]
    obtain ⟨u, f, u1, u2, u3, u4, u5⟩ := Add_eq k a2 W2_one
    obtain rfl : f = true := u5.2 (by omega)
    have u1' : limb_Add.f k (a.1, a.2) (1, 0) = some (u, true) := u1
    have u3 := u3 rfl
    rw [u1', Option.bind_some, Option.bind_some]
    refine ⟨_, rfl, ⟨g2.1, g2.2, u2.1, u2.2⟩, ?_⟩
    rw [N4_halves]
    show N2 g + 340282366920938463463374607431768211456 * N2 u = _
    omega
  · rw [Bool.not_true, cond_false, Option.bind_some]
    have c3 := c3 rfl
    refine ⟨_, rfl, ⟨c2.1, c2.2, a2.1, a2.2⟩, ?_⟩
    rw [N4_halves]
    show N2 c + 340282366920938463463374607431768211456 * N2 a = _
    omega
theorem less4 (k : Nat) {x y : Int × Int × Int × Int} (hx : W4 x) (hy : W4 y) (h : N4 y ≤ N4 x) :
    ∃ z, dec_less.f k x y = some z ∧ W4 z ∧ N4 z = N4 x - N4 y := by
  have h1 := N4_halves x
  have h2 := N4_halves y
  have l1 := N2_bd (W2_lo hx)
  have l2 := N2_bd (W2_lo hy)
  have m1 := N2_bd (W2_hi hx)
  have m2 := N2_bd (W2_hi hy)
  unfold dec_less.f dec_halves.f
  rw [Option.bind_some, Option.bind_some]
  dsimp only
  obtain ⟨a, b, a1, a2, a3, a4, a5⟩ := Sub_eq k (W2_hi hx) (W2_hi hy)
  obtain rfl : b = true := a5.2 (by omega)
  have a1' : limb_Sub.f k (x.2.2.1, x.2.2.2) (y.2.2.1, y.2.2.2) = some (a, true) := a1
  have a3 := a3 rfl
  obtain ⟨c, e, c1, c2, c3, c4, c5⟩ := Sub_eq k (W2_lo hx) (W2_lo hy)
  have c1' : limb_Sub.f k (x.1, x.2.1) (y.1, y.2.1) = some (c, e) := c1
  rw [a1', Option.bind_some, c1', Option.bind_some]
  cases e
  · have hov : ¬ N2 (lo y) ≤ N2 (lo x) := fun h => by have := c5.2 h; cases this
    rw [Bool.not_false, cond_true]
    obtain ⟨d, f, d1, d2, d3, d4, d5⟩ := Sub_eq k (W2_lo hy) (W2_lo hx)
    obtain rfl : f = true := d5.2 (by omega)
    have d1' : limb_Sub.f k (y.1, y.2.1) (x.1, x.2.1) = some (d, true) := d1
    have d3 := d3 rfl
    rw [d1', Option.bind_some, Of_eq, Option.bind_some]
    obtain ⟨g, f, g1, g2, g3, g4, g5⟩ := Sub_eq k d2 W2_one
    have hone : N2 (1, 0) = 1 := N2_of 1
    obtain rfl : f = true := g5.2 (by omega)
    have g1' : limb_Sub.f k (d.1, d.2) (1, 0) = some (g, true) := g1
    have g3 := g3 rfl
    dsimp only
    rw [g1', Option.bind_some, Option.bind_some]
    obtain ⟨u, f, u1, u2, u3, u4, u5⟩ := Sub_eq k a2 W2_one
    obtain rfl : f = true := u5.2 (by omega)
    have u1' : limb_Sub.f k (a.1, a.2) (1, 0) = some (u, true) := u1
    have u3 := u3 rfl
    rw [u1', Option.bind_some, Option.bind_some]
    obtain ⟨n1, n2⟩ := not2 g2
    refine ⟨_, rfl, ⟨n1.1, n1.2, u2.1, u2.2⟩, ?_⟩
    rw [N4_halves]
    show N2 (bits .xor .u64 18446744073709551615 g.1, bits .xor .u64 18446744073709551615 g.2) + 340282366920938463463374607431768211456 * N2 u = _
    omega
  · rw [Bool.not_true, cond_false, Option.bind_some]
    have c3 := c3 rfl
    refine ⟨_, rfl, ⟨c2.1, c2.2, a2.1, a2.2⟩, ?_⟩
    rw [N4_halves]
    show N2 c + 340282366920938463463374607431768211456 * N2 a = _
    omega
theorem cmp_step (k : Nat) {a0 a1 a2 a3 b0 b1 b2 b3 : Int} {i : Nat} (hi : i < 4) : dec_cmp.l2.once k ((i : Int), [a0, a1, a2, a3], [b0, b1, b2, b3]) = cond ([a0, a1, a2, a3].getD i 0 != [b0, b1, b2, b3].getD i 0) (cond (decide ([a0, a1, a2, a3].getD i 0 < [b0, b1, b2, b3].getD i 0)) (some (.inr (.inr (-1)))) (some (.inr (.inr 1)))) (some (.inl ((i : Int) - 1, [a0, a1, a2, a3], [b0, b1, b2, b3]))) := by
  unfold dec_cmp.l2.once
  dsimp only
  rw [ct (by omega), inb_t (by omega) (by omega), cond_true, Int.toNat_natCast, blt_t hi, cond_true, cond_true, cond_true, cond_true, cond_true, cond_true, cond_true, wrapi (by omega)]
theorem cmp4 {k : Nat} (hk : 5 < k) {x y : Int × Int × Int × Int} (hx : W4 x) (hy : W4 y) : dec_cmp.f k x y = some (if N4 x < N4 y then -1 else if N4 x = N4 y then 0 else 1) := by
  obtain ⟨j, rfl⟩ : ∃ j, k = j + 5 := ⟨k - 5, by omega⟩
  obtain ⟨a0, a1, a2, a3⟩ := x
  obtain ⟨b0, b1, b2, b3⟩ := y
  obtain ⟨⟨_, _⟩, ⟨_, _⟩, ⟨_, _⟩, _, _⟩ := hx
  obtain ⟨⟨_, _⟩, ⟨_, _⟩, ⟨_, _⟩, _, _⟩ := hy
  unfold dec_cmp.f N4
  dsimp only at *
  have s3 : dec_cmp.l2.once (j + 5) (3, [a0, a1, a2, a3], [b0, b1, b2, b3]) = cond (a3 != b3) (cond (decide (a3 < b3)) (some (.inr (.inr (-1)))) (some (.inr (.inr 1)))) (some (.inl (((3 : Nat) : Int) - 1, [a0, a1, a2, a3], [b0, b1, b2, b3]))) := cmp_step (j + 5) (i := 3) (by decide)
  have s2 : dec_cmp.l2.once (j + 5) (((3 : Nat) : Int) - 1, [a0, a1, a2, a3], [b0, b1, b2, b3]) = cond (a2 != b2) (cond (decide (a2 < b2)) (some (.inr (.inr (-1)))) (some (.inr (.inr 1)))) (some (.inl (((2 : Nat) : Int) - 1, [a0, a1, a2, a3], [b0, b1, b2, b3]))) := cmp_step (j + 5) (i := 2) (by decide)
  have s1 : dec_cmp.l2.once (j + 5) (((2 : Nat) : Int) - 1, [a0, a1, a2, a3], [b0, b1, b2, b3]) = cond (a1 != b1) (cond (decide (a1 < b1)) (some (.inr (.inr (-1)))) (some (.inr (.inr 1)))) (some (.inl (((1 : Nat) : Int) - 1, [a0, a1, a2, a3], [b0, b1, b2, b3]))) := cmp_step (j + 5) (i := 1) (by decide)
  have s0 : dec_cmp.l2.once (j + 5) (((1 : Nat) : Int) - 1, [a0, a1, a2, a3], [b0, b1, b2, b3]) = cond (a0 != b0) (cond (decide (a0 < b0)) (some (.inr (.inr (-1)))) (some (.inr (.inr 1)))) (some (.inl (((0 : Nat) : Int) - 1, [a0, a1, a2, a3], [b0, b1, b2, b3]))) := cmp_step (j + 5) (i := 0) (by decide)
  have s : dec_cmp.l2.once (j + 5) (((0 : Nat) : Int) - 1, [a0, a1, a2, a3], [b0, b1, b2, b3]) = some (.inr (.inl ())) := by unfold dec_cmp.l2.once; rfl
  have way : ∀ {a b : Int} {n : Nat} {u v : (Int × List Int × List Int)}, dec_cmp.l2.once (j + 5) u = cond (a != b) (cond (decide (a < b)) (some (.inr (.inr (-1)))) (some (.inr (.inr 1)))) (some (.inl v)) → iter (dec_cmp.l2.once (j + 5)) (n + 1) u = if a < b then some (.inr (-1)) else if a = b then iter (dec_cmp.l2.once (j + 5)) n v else some (.inr 1) := by
    intro a b n u v h
    by_cases he : a = b
    · subst he
      rw [bne_self_eq_false, cond_false] at h
      rw [iter_step h, if_neg (by omega), if_pos rfl]
    · rw [show (a != b) = true by simp [he], cond_true] at h
      by_cases hlt : a < b
      · rw [ct hlt] at h
        rw [iter_stop h, if_pos hlt]
      · rw [cf hlt] at h
        rw [iter_stop h, if_neg hlt, if_neg he]
  rw [way (n := j + 4) s3, way (n := j + 3) s2, way (n := j + 2) s1, way (n := j + 1) s0, iter_stop s]
  by_cases g3 : a3 < b3
  · rw [if_pos g3, if_pos (by omega)]; rfl
  rw [if_neg g3]
  by_cases e3 : a3 = b3
  · rw [if_pos e3]
    by_cases g2 : a2 < b2
    · rw [if_pos g2, if_pos (by omega)]; rfl
    rw [if_neg g2]
    by_cases e2 : a2 = b2
    · rw [if_pos e2]
      by_cases g1 : a1 < b1
      · rw [if_pos g1, if_pos (by omega)]; rfl
      rw [if_neg g1]
      by_cases e1 : a1 = b1
      · rw [if_pos e1]
        by_cases g0 : a0 < b0
        · rw [if_pos g0, if_pos (by omega)]; rfl
        rw [if_neg g0]
        by_cases e0 : a0 = b0
        · rw [if_pos e0, if_neg (by omega), if_pos (by omega)]; rfl
        · rw [if_neg e0, if_neg (by omega), if_neg (by omega)]; rfl
      · rw [if_neg e1, if_neg (by omega), if_neg (by omega)]; rfl
    · rw [if_neg e2, if_neg (by omega), if_neg (by omega)]; rfl
  · rw [if_neg e3, if_neg (by omega), if_neg (by omega)]; rfl
theorem ten9 {a : Nat} (h : a ≤ 9) : (10 : Nat) ^ a ≤ 1000000000 := Nat.le_trans (Nat.pow_le_pow_right (by decide) h) (by decide)
theorem mx (s t : Nat) : (if (t : Int) > (s : Int) then (t : Int) else (s : Int)) = ((max s t : Nat) : Int) := by split <;> omega
/-- The sum of two. -/
theorem Add_DV {k : Nat} (hk : 60 < k) {i j : Int} {s t : Nat} (hi : Sm i) (hj : Sm j) (hs : s ≤ 9) (ht : t ≤ 9) : dec_Add.f k (DV i s) (DV j t) = some (mkD (i * 10 ^ (max s t - s) + j * 10 ^ (max s t - t)) (max s t)) := by
  have r1 : dec_Right.f k ⟨decide (i < 0), ((w2 i.natAbs).1, (w2 i.natAbs).2), (s : Int)⟩ = some true := Right_DV hk hi hs
  have r2 : dec_Right.f k ⟨decide (j < 0), ((w2 j.natAbs).1, (w2 j.natAbs).2), (t : Int)⟩ = some true := Right_DV hk hj ht
  obtain ⟨x, x1, x2, x3⟩ := wide_eq hk (decide (i < 0)) (Sm_w2 hi) (s := s) (t := max s t) (by omega) (by omega) (by omega)
  obtain ⟨y, y1, y2, y3⟩ := wide_eq hk (decide (j < 0)) (Sm_w2 hj) (s := t) (t := max s t) (by omega) (by omega) (by omega)
  have x1' : dec_wide.f k ⟨decide (i < 0), ((w2 i.natAbs).1, (w2 i.natAbs).2), (s : Int)⟩ ((max s t : Nat) : Int) = some x := x1
  have y1' : dec_wide.f k ⟨decide (j < 0), ((w2 j.natAbs).1, (w2 j.natAbs).2), (t : Int)⟩ ((max s t : Nat) : Int) = some y := y1
  rw [N2_w2] at x3 y3
  have p1 := ten9 (show max s t - s ≤ 9 by omega)
  have p2 := ten9 (show max s t - t ≤ 9 by omega)
  have q1 : (i.natAbs * 10 ^ (max s t - s) : Nat) ≤ 1000000000000000000000000000000 * 1000000000 := Nat.mul_le_mul (by unfold Sm at hi; omega) p1
  have q2 : (j.natAbs * 10 ^ (max s t - t) : Nat) ≤ 1000000000000000000000000000000 * 1000000000 := Nat.mul_le_mul (by unfold Sm at hj; omega) p2
  have cx : N4 x = ((i.natAbs * 10 ^ (max s t - s) : Nat) : Int) := by rw [x3, Int.natCast_mul, Int.natCast_pow]; rfl
  have cy : N4 y = ((j.natAbs * 10 ^ (max s t - t) : Nat) : Int) := by rw [y3, Int.natCast_mul, Int.natCast_pow]; rfl
  have vx : i * 10 ^ (max s t - s) = if i < 0 then -(N4 x) else N4 x := by
    rw [x3]
    by_cases h : i < 0
    · rw [if_pos h, show ((i.natAbs : Nat) : Int) = -i by omega, Int.neg_mul, Int.neg_neg]
    · rw [if_neg h, show ((i.natAbs : Nat) : Int) = i by omega]
  have vy : j * 10 ^ (max s t - t) = if j < 0 then -(N4 y) else N4 y := by
    rw [y3]
    by_cases h : j < 0
    · rw [if_pos h, show ((j.natAbs : Nat) : Int) = -j by omega, Int.neg_mul, Int.neg_neg]
    · rw [if_neg h, show ((j.natAbs : Nat) : Int) = j by omega]
  rw [vx, vy]
  generalize i.natAbs * 10 ^ (max s t - s) = M at *
  generalize j.natAbs * 10 ^ (max s t - t) = N at *
  clear vx vy x3 y3 p1 p2
  unfold dec_Add.f DV
  dsimp only
  rw [r1, Option.bind_some, Bool.not_true, cond_false, r2, Option.bind_some, Bool.not_true, Option.bind_some]
  dsimp only
  rw [cond_false, mx, x1', Option.bind_some, y1', Option.bind_some]
  by_cases hi0 : i < 0
  · rw [if_pos hi0, decide_eq_true hi0]
    by_cases hj0 : j < 0
    · rw [if_pos hj0, decide_eq_true hj0, show ((true == true) : Bool) = true from rfl, cond_true]
      obtain ⟨z, z1, z2, z3⟩ := plus4 k x2 y2 (by omega) (by omega)
      have z1' : dec_plus.f k (x.1, x.2.1, x.2.2.1, x.2.2.2) (y.1, y.2.1, y.2.2.1, y.2.2.2) = some z := z1
      have m : dec_made.f k true (z.1, z.2.1, z.2.2.1, z.2.2.2) ((max s t : Nat) : Int) = _ := made_eq hk true z2 (max s t)
      rw [z1', Option.bind_some, m, Option.bind_some, if_pos rfl, z3, show -(N4 x) + -(N4 y) = -(N4 x + N4 y) by omega]
    · rw [if_neg hj0, decide_eq_false hj0, show ((true == false) : Bool) = false from rfl, cond_false]
      have c : dec_cmp.f k (x.1, x.2.1, x.2.2.1, x.2.2.2) (y.1, y.2.1, y.2.2.1, y.2.2.2) = _ := cmp4 (k := k) (by omega) x2 y2
      rw [c, Option.bind_some]
      by_cases hlt : N4 x < N4 y
      · rw [if_pos hlt, cf (by omega)]
        obtain ⟨z, z1, z2, z3⟩ := less4 k y2 x2 (by omega)
        have z1' : dec_less.f k (y.1, y.2.1, y.2.2.1, y.2.2.2) (x.1, x.2.1, x.2.2.1, x.2.2.2) = some z := z1
        have m : dec_made.f k false (z.1, z.2.1, z.2.2.1, z.2.2.2) ((max s t : Nat) : Int) = _ := made_eq hk false z2 (max s t)
        rw [z1', Option.bind_some, m, Option.bind_some, if_neg (by decide), z3, show -(N4 x) + N4 y = N4 y - N4 x by omega]
      · rw [if_neg hlt, ct (by split <;> decide)]
        obtain ⟨z, z1, z2, z3⟩ := less4 k x2 y2 (by omega)
        have z1' : dec_less.f k (x.1, x.2.1, x.2.2.1, x.2.2.2) (y.1, y.2.1, y.2.2.1, y.2.2.2) = some z := z1
        have m : dec_made.f k true (z.1, z.2.1, z.2.2.1, z.2.2.2) ((max s t : Nat) : Int) = _ := made_eq hk true z2 (max s t)
        rw [z1', Option.bind_some, m, Option.bind_some, if_pos rfl, z3, show -(N4 x) + N4 y = -(N4 x - N4 y) by omega]
  · rw [if_neg hi0, decide_eq_false hi0]
    by_cases hj0 : j < 0
    · rw [if_pos hj0, decide_eq_true hj0, show ((false == true) : Bool) = false from rfl, cond_false]
      have c : dec_cmp.f k (x.1, x.2.1, x.2.2.1, x.2.2.2) (y.1, y.2.1, y.2.2.1, y.2.2.2) = _ := cmp4 (k := k) (by omega) x2 y2
      rw [c, Option.bind_some]
      by_cases hlt : N4 x < N4 y
      · rw [if_pos hlt, cf (by omega)]
        obtain ⟨z, z1, z2, z3⟩ := less4 k y2 x2 (by omega)
        have z1' : dec_less.f k (y.1, y.2.1, y.2.2.1, y.2.2.2) (x.1, x.2.1, x.2.2.1, x.2.2.2) = some z := z1
        have m : dec_made.f k true (z.1, z.2.1, z.2.2.1, z.2.2.2) ((max s t : Nat) : Int) = _ := made_eq hk true z2 (max s t)
        rw [z1', Option.bind_some, m, Option.bind_some, if_pos rfl, z3, show N4 x + -(N4 y) = -(N4 y - N4 x) by omega]
      · rw [if_neg hlt, ct (by split <;> decide)]
        obtain ⟨z, z1, z2, z3⟩ := less4 k x2 y2 (by omega)
        have z1' : dec_less.f k (x.1, x.2.1, x.2.2.1, x.2.2.2) (y.1, y.2.1, y.2.2.1, y.2.2.2) = some z := z1
        have m : dec_made.f k false (z.1, z.2.1, z.2.2.1, z.2.2.2) ((max s t : Nat) : Int) = _ := made_eq hk false z2 (max s t)
        rw [z1', Option.bind_some, m, Option.bind_some, if_neg (by decide), z3, show N4 x + -(N4 y) = N4 x - N4 y by omega]
    · rw [if_neg hj0, decide_eq_false hj0, show ((false == false) : Bool) = true from rfl, cond_true]
      obtain ⟨z, z1, z2, z3⟩ := plus4 k x2 y2 (by omega) (by omega)
      have z1' : dec_plus.f k (x.1, x.2.1, x.2.2.1, x.2.2.2) (y.1, y.2.1, y.2.2.1, y.2.2.2) = some z := z1
      have m : dec_made.f k false (z.1, z.2.1, z.2.2.1, z.2.2.2) ((max s t : Nat) : Int) = _ := made_eq hk false z2 (max s t)
      rw [z1', Option.bind_some, m, Option.bind_some, if_neg (by decide), z3]
end Go.Proofs.Ytgfbcclfajcjnaa.Pure
/- What pyxref1's sums on numbers with places after the point compute: dec's own. No conditions but size. -/
namespace Go.Proofs.Ytgfbcclfajcjnaa.Pure
set_option linter.unusedVariables false
set_option linter.unusedSimpArgs false
open Go Go.Ev Go.Lm Go.Pu Go.Dg

theorem Words2_eq {k : Nat} (hk : 602 < k) {n : Nat} (hn : n < 10 ^ 200) : ∃ z b, pyxref1_Words2.f k (dig n) = some (z, b) ∧ W2 z ∧ (b = true ↔ n < 340282366920938463463374607431768211456) ∧ (b = true → N2 z = (n : Int)) ∧ (b = false → z = (0, 0)) := by
  unfold pyxref1_Words2.f
  rw [radix_eq (by omega), Option.bind_some, DivNat_eq hk hn (by omega) (by omega), Option.bind_some, Option.bind_some]
  dsimp only
  rw [CmpNat_eq (by omega) (by omega) (by omega), Option.bind_some]
  by_cases h : n / 18446744073709551616 < 18446744073709551616
  · rw [if_pos h, show decide ((-1 : Int) ≥ 0) = false from rfl, cond_false, short_eq hk (by omega), Option.bind_some, short_eq hk h, Option.bind_some]
    refine ⟨_, _, rfl, ⟨⟨by dsimp only; omega, by dsimp only; omega⟩, by dsimp only; omega, by dsimp only; omega⟩, ⟨(fun _ => by omega), fun _ => rfl⟩, fun _ => ?_, (fun h => by cases h)⟩
    unfold N2
    dsimp only
    omega
  · rw [if_neg h]
    rw [show decide ((if n / 18446744073709551616 = 18446744073709551616 then (0 : Int) else 1) ≥ 0) = true by split <;> rfl, cond_true]
    exact ⟨_, _, rfl, W20, ⟨(fun h => by cases h), (fun h' => by omega)⟩, (fun h => by cases h), fun _ => rfl⟩
theorem len30 (n : Nat) : (dig n).length ≤ 30 ↔ n < 1000000000000000000000000000000 := by
  constructor
  · intro h
    have h1 := dig_lt n
    have h2 : (10 : Nat) ^ (dig n).length ≤ 10 ^ 30 := Nat.pow_le_pow_right (by decide) h
    have h3 : (10 : Nat) ^ 30 = 1000000000000000000000000000000 := by decide
    omega
  · intro h
    exact dig_len (m := 30) (by rw [show (10 : Nat) ^ 30 = 1000000000000000000000000000000 by decide]; omega)
theorem len0 (n : Nat) : (dig n).length = 0 ↔ n = 0 := by
  constructor
  · intro h
    by_cases h0 : n = 0
    · exact h0
    · rw [dig_pos h0] at h; cases h
  · rintro rfl; rw [dig_0]; rfl
theorem RRight_eq {k : Nat} (hk : 602 < k) {d : Sapi_Dec} (hw : W2 d.f_C) : pyxref1_RightDec.f k d = dec_Right.f k d := by
  unfold pyxref1_RightDec.f dec_Right.f
  have hb := N2_bd hw
  have hn : N2 d.f_C = ((N2 d.f_C).toNat : Int) := by omega
  have e1 : dec_small.f k (d.f_C.1, d.f_C.2) = some (decide (N2 d.f_C < 1000000000000000000000000000000)) := small_all (by omega) hw
  have e2 : dec_nought.f k (d.f_C.1, d.f_C.2) = some (decide (N2 d.f_C = 0)) := nought_eq k hw
  have e3 : pyxref1_Nat2.f k (d.f_C.1, d.f_C.2) = some (dig (N2 d.f_C).toNat) := Nat2_eq hk hw hn
  have l1 := len30 (N2 d.f_C).toNat
  have l2 := len0 (N2 d.f_C).toNat
  rw [e1, e2, e3, Option.bind_some, Option.bind_some, Option.bind_some]
  have c1 : decide (((dig (N2 d.f_C).toNat).length : Int) ≤ 30) = decide (N2 d.f_C < 1000000000000000000000000000000) := by
    rw [decide_eq_decide]; omega
  have c2 : (((dig (N2 d.f_C).toNat).length : Int) == 0) = decide (N2 d.f_C = 0) := by
    rw [Bool.eq_iff_iff, beq_iff_eq, decide_eq_true_iff]; omega
  rw [c1, c2]
theorem Make_eq {k : Nat} (hk : 602 < k) (neg : Bool) {n : Nat} (hn : n < 10 ^ 200) {s : Nat} (hs : s ≤ 9) : pyxref1_Make.f k neg (dig n) (s : Int) = some (mkD (if neg then -(n : Int) else n) s) := by
  unfold pyxref1_Make.f mkD
  have l1 := len30 n
  have l2 := len0 n
  have hna : (if neg = true then -(n : Int) else n).natAbs = n := by split <;> omega
  rw [hna]
  by_cases h : n < 1000000000000000000000000000000
  · rw [cf (by omega), cf (by omega), Option.bind_some]
    dsimp only
    rw [cf (by omega), if_pos h]
    obtain ⟨z, b, z1, z2, z3, z4, z5⟩ := Words2_eq hk hn
    rw [z1, Option.bind_some]
    have hz : z = w2 n := w2_of z2 (z4 (z3.2 (by omega)))
    unfold DV
    rw [hna, hz]
    cases neg
    · rw [cond_false]
      refine congrArg some ?_
      rw [if_neg (by decide), decide_eq_false (by omega)]
    · rw [cond_true]
      refine congrArg some ?_
      rw [if_pos rfl]
      have : decide (((dig n).length : Int) > 0) = decide (-(n : Int) < 0) := by rw [decide_eq_decide]; omega
      rw [this]
  · rw [ct (by omega), Option.bind_some, cond_true, if_neg h]
    rfl
theorem digits_eq {k : Nat} (hk : 602 < k) (n : Bool) {m s t : Nat} (hm : m < 340282366920938463463374607431768211456) (hst : s ≤ t) (ht : t ≤ 100) : pyxref1_digits.f k ⟨n, w2 m, (s : Int)⟩ (t : Int) = some (dig (m * 10 ^ (t - s))) := by
  unfold pyxref1_digits.f
  have e3 : pyxref1_Nat2.f k ((w2 m).1, (w2 m).2) = some (dig m) := Nat2_eq hk (W2_w2 hm) (N2_w2 m)
  have p : (10 : Nat) ^ (t - s) < 10 ^ 200 := Nat.pow_lt_pow_right (by decide) (by omega)
  dsimp only
  rw [e3, Option.bind_some, wrapi (by omega), show (t : Int) - (s : Int) = ((t - s : Nat) : Int) by omega, TenNat_eq (by omega), Option.bind_some, MulNat_eq hk (by omega) p, Option.bind_some]
def cl (s : Int) : Nat := (max 0 (min s 9)).toNat
theorem cl_le (s : Int) : cl s ≤ 9 := by unfold cl; omega
theorem ROf_DV {k : Nat} (hk : 602 < k) {n : Int} (h : -9223372036854775808 ≤ n ∧ n < 9223372036854775808) (s : Int) : pyxref1_Of.f k n s = some (DV n (cl s)) := by
  have e : pyxref1_Within.f k s 0 9 = some ((cl s : Nat) : Int) := by
    unfold pyxref1_Within.f cl
    refine congrArg some ?_
    by_cases h9 : s < 9
    · rw [if_pos h9]; split <;> omega
    · rw [if_neg h9, if_pos (by omega)]; omega
  unfold pyxref1_Of.f
  have hw : (n.natAbs : Nat) < 10 ^ 200 := by omega
  have hs : ∀ b : Bool, b = decide (n < 0) → (pyxref1_Word.f k ((n.natAbs : Nat) : Int)).bind (fun t9 => ((pyxref1_Within.f k s 0 9).bind fun t10 => ((pyxref1_Make.f k b t9 t10).bind fun t11 => (some (⟨t11.1.f_Neg, (t11.1.f_C.1, t11.1.f_C.2), t11.1.f_Scale⟩ : Sapi_Dec))))) = some (DV n (cl s)) := by
    rintro _ rfl
    rw [Word_eq (by omega) (by omega), Option.bind_some, e, Option.bind_some, Make_eq hk _ hw (cl_le s), Option.bind_some]
    have : (if decide (n < 0) = true then -((n.natAbs : Nat) : Int) else ((n.natAbs : Nat) : Int)) = n := by
      by_cases hn : n < 0
      · rw [decide_eq_true hn, if_pos rfl]; omega
      · rw [decide_eq_false hn, if_neg (by decide)]; omega
    rw [this]
    unfold mkD
    rw [if_pos (by omega)]
  by_cases hn : n < 0
  · rw [ct hn, Option.bind_some]
    dsimp only
    rw [wrap64, wrap64, show (0 - n % 18446744073709551616) % 18446744073709551616 = ((n.natAbs : Nat) : Int) by omega]
    exact hs _ rfl
  · rw [cf hn, Option.bind_some]
    dsimp only
    rw [wrap64, show n % 18446744073709551616 = ((n.natAbs : Nat) : Int) by omega]
    exact hs _ rfl
end Go.Proofs.Ytgfbcclfajcjnaa.Pure
/- What pyxref1's sums of two compute: dec's own. No conditions but size. -/
namespace Go.Proofs.Ytgfbcclfajcjnaa.Pure
set_option linter.unusedVariables false
set_option linter.unusedSimpArgs false
open Go Go.Ev Go.Lm Go.Pu Go.Dg

theorem RNeg_DV {k : Nat} (hk : 602 < k) {i : Int} {s : Nat} (hi : Sm i) (hs : s ≤ 9) : pyxref1_Neg.f k (DV i s) = some (DV (-i) s) := by
  unfold pyxref1_Neg.f
  have h : pyxref1_RightDec.f k ⟨(DV i s).f_Neg, ((DV i s).f_C.1, (DV i s).f_C.2), (DV i s).f_Scale⟩ = some true := (RRight_eq hk (d := DV i s) (Sm_w2 hi)).trans (Right_DV (by omega) hi hs)
  have e2 : (((DV i s).f_C.1 == 0) && ((DV i s).f_C.2 == 0)) = decide (N2 (w2 i.natAbs) = 0) := Option.some.inj (nought_eq k (Sm_w2 hi))
  rw [h, Option.bind_some, Bool.not_true, cond_false, e2, N2_w2]
  unfold DV
  dsimp only
  by_cases h1 : i < 0
  · rw [decide_eq_true h1, Bool.not_true, cond_false, decide_eq_false (show ¬ (-i < 0) by omega), Int.natAbs_neg]
  · rw [decide_eq_false h1, Bool.not_false, cond_true, Int.natAbs_neg]
    by_cases h0 : i = 0
    · subst h0; rfl
    · rw [decide_eq_false (show ¬ ((i.natAbs : Int) = 0) by omega), decide_eq_true (show -i < 0 by omega)]; rfl
/-- The sum of two, by the digits. -/
theorem RAdd_DV {k : Nat} (hk : 602 < k) {i j : Int} {s t : Nat} (hi : Sm i) (hj : Sm j) (hs : s ≤ 9) (ht : t ≤ 9) : pyxref1_Add.f k (DV i s) (DV j t) = some (mkD (i * 10 ^ (max s t - s) + j * 10 ^ (max s t - t)) (max s t)) := by
  have r1 : pyxref1_RightDec.f k ⟨decide (i < 0), ((w2 i.natAbs).1, (w2 i.natAbs).2), (s : Int)⟩ = some true := (RRight_eq hk (d := DV i s) (Sm_w2 hi)).trans (Right_DV (by omega) hi hs)
  have r2 : pyxref1_RightDec.f k ⟨decide (j < 0), ((w2 j.natAbs).1, (w2 j.natAbs).2), (t : Int)⟩ = some true := (RRight_eq hk (d := DV j t) (Sm_w2 hj)).trans (Right_DV (by omega) hj ht)
  have x1' : pyxref1_digits.f k ⟨decide (i < 0), ((w2 i.natAbs).1, (w2 i.natAbs).2), (s : Int)⟩ ((max s t : Nat) : Int) = some (dig (i.natAbs * 10 ^ (max s t - s))) := digits_eq hk _ (by unfold Sm at hi; omega) (by omega) (by omega)
  have y1' : pyxref1_digits.f k ⟨decide (j < 0), ((w2 j.natAbs).1, (w2 j.natAbs).2), (t : Int)⟩ ((max s t : Nat) : Int) = some (dig (j.natAbs * 10 ^ (max s t - t))) := digits_eq hk _ (by unfold Sm at hj; omega) (by omega) (by omega)
  have p1 := ten9 (show max s t - s ≤ 9 by omega)
  have p2 := ten9 (show max s t - t ≤ 9 by omega)
  have q1 : (i.natAbs * 10 ^ (max s t - s) : Nat) ≤ 1000000000000000000000000000000 * 1000000000 := Nat.mul_le_mul (by unfold Sm at hi; omega) p1
  have q2 : (j.natAbs * 10 ^ (max s t - t) : Nat) ≤ 1000000000000000000000000000000 * 1000000000 := Nat.mul_le_mul (by unfold Sm at hj; omega) p2
  have vx : i * 10 ^ (max s t - s) = if i < 0 then -((i.natAbs * 10 ^ (max s t - s) : Nat) : Int) else ((i.natAbs * 10 ^ (max s t - s) : Nat) : Int) := by
    rw [Int.natCast_mul, Int.natCast_pow]
    by_cases h : i < 0
    · rw [if_pos h, show ((i.natAbs : Nat) : Int) = -i by omega, Int.neg_mul, Int.neg_neg]; rfl
    · rw [if_neg h, show ((i.natAbs : Nat) : Int) = i by omega]; rfl
  have vy : j * 10 ^ (max s t - t) = if j < 0 then -((j.natAbs * 10 ^ (max s t - t) : Nat) : Int) else ((j.natAbs * 10 ^ (max s t - t) : Nat) : Int) := by
    rw [Int.natCast_mul, Int.natCast_pow]
    by_cases h : j < 0
    · rw [if_pos h, show ((j.natAbs : Nat) : Int) = -j by omega, Int.neg_mul, Int.neg_neg]; rfl
    · rw [if_neg h, show ((j.natAbs : Nat) : Int) = j by omega]; rfl
  rw [vx, vy]
  generalize i.natAbs * 10 ^ (max s t - s) = M at *
  generalize j.natAbs * 10 ^ (max s t - t) = N at *
  clear vx vy p1 p2
  have hm : max s t ≤ 9 := by omega
  have hM : M < 10 ^ 200 := by omega
  have hN : N < 10 ^ 200 := by omega
  unfold pyxref1_Add.f DV
  dsimp only
  rw [r1, Option.bind_some, Bool.not_true, cond_false, r2, Option.bind_some, Bool.not_true, Option.bind_some]
  dsimp only
  rw [cond_false, mx, x1', Option.bind_some, y1', Option.bind_some]
  by_cases hi0 : i < 0
  · rw [if_pos hi0, decide_eq_true hi0]
    by_cases hj0 : j < 0
    · rw [if_pos hj0, decide_eq_true hj0, show ((true == true) : Bool) = true from rfl, cond_true]
      rw [AddNat_eq (by omega) hM hN, Option.bind_some, Make_eq hk true (by omega) hm, Option.bind_some, if_pos rfl, show -(M : Int) + -(N : Int) = -((M + N : Nat) : Int) by omega]
    · rw [if_neg hj0, decide_eq_false hj0, show ((true == false) : Bool) = false from rfl, cond_false]
      rw [CmpNat_eq (by omega) hM hN, Option.bind_some]
      by_cases hlt : M < N
      · rw [if_pos hlt, cf (by omega), SubNat_eq (by omega) hN (by omega), Option.bind_some, Make_eq hk false (by omega) hm, Option.bind_some, if_neg (by decide), show -(M : Int) + (N : Int) = ((N - M : Nat) : Int) by omega]
      · rw [if_neg hlt, ct (by split <;> decide), SubNat_eq (by omega) hM (by omega), Option.bind_some, Make_eq hk true (by omega) hm, Option.bind_some, if_pos rfl, show -(M : Int) + (N : Int) = -((M - N : Nat) : Int) by omega]
  · rw [if_neg hi0, decide_eq_false hi0]
    by_cases hj0 : j < 0
    · rw [if_pos hj0, decide_eq_true hj0, show ((false == true) : Bool) = false from rfl, cond_false]
      rw [CmpNat_eq (by omega) hM hN, Option.bind_some]
      by_cases hlt : M < N
      · rw [if_pos hlt, cf (by omega), SubNat_eq (by omega) hN (by omega), Option.bind_some, Make_eq hk true (by omega) hm, Option.bind_some, if_pos rfl, show (M : Int) + -(N : Int) = -((N - M : Nat) : Int) by omega]
      · rw [if_neg hlt, ct (by split <;> decide), SubNat_eq (by omega) hM (by omega), Option.bind_some, Make_eq hk false (by omega) hm, Option.bind_some, if_neg (by decide), show (M : Int) + -(N : Int) = ((M - N : Nat) : Int) by omega]
    · rw [if_neg hj0, decide_eq_false hj0, show ((false == false) : Bool) = true from rfl, cond_true]
      rw [AddNat_eq (by omega) hM hN, Option.bind_some, Make_eq hk false (by omega) hm, Option.bind_some, if_neg (by decide), show (M : Int) + (N : Int) = ((M + N : Nat) : Int) by omega]
end Go.Proofs.Ytgfbcclfajcjnaa.Pure
/- Any decimal's value; which are right. No conditions but size. -/
namespace Go.Proofs.Ytgfbcclfajcjnaa.Pure
set_option linter.unusedVariables false
set_option linter.unusedSimpArgs false
open Go Go.Ev Go.Lm Go.Pu Go.Dg

def val (d : Sapi_Dec) : Int := if d.f_Neg then -(N2 d.f_C) else N2 d.f_C
theorem val_DV (v : Int) (s : Nat) : val (DV v s) = v := by
  unfold val DV
  dsimp only
  rw [N2_w2]
  by_cases h : v < 0
  · rw [decide_eq_true h, if_pos rfl]; omega
  · rw [decide_eq_false h, if_neg (by decide)]; omega
def sgn (v : Int) : Int := if v = 0 then 0 else if v < 0 then -1 else 1
theorem sgn_beq (v : Int) : (sgn v == 0) = decide (v = 0) := by
  unfold sgn
  by_cases h : v = 0
  · rw [if_pos h, decide_eq_true h]; rfl
  · rw [if_neg h, decide_eq_false h]; split <;> rfl
end Go.Proofs.Ytgfbcclfajcjnaa.Pure
/- What one owes another; the pairs that are matched, that are open. No conditions but size. -/
namespace Go.Proofs.Ytgfbcclfajcjnaa.Pure
set_option linter.unusedVariables false
set_option linter.unusedSimpArgs false
open Go Go.Ev Go.Lm Go.Pu Go.Dg
noncomputable section
theorem bof {α β : Type} {o : Option α} {v : α} {f : α → Option β} {r : Option β} (h : o = some v) (h' : f v = r) : o.bind f = r := by rw [h]; exact h'
theorem bexv {α β : Type} {X : Option α} {v : α} {G : α → Option β} {P : β → Prop} (h : X = some v) (h' : ∃ r, G v = some r ∧ P r) : ∃ r, X.bind G = some r ∧ P r := by
  rw [h]; exact h'
theorem dOf_DV (k : Nat) {n : Int} (h : -9223372036854775808 ≤ n ∧ n < 9223372036854775808) (s : Int) : dec_Of.f k n s = some (DV n (cl s)) := by
  have e : (if (if (9 : Int) < s then 9 else s) > 0 then (if (9 : Int) < s then 9 else s) else 0) = ((cl s : Nat) : Int) := by
    unfold cl
    by_cases h9 : (9 : Int) < s
    · rw [if_pos h9, if_pos (by omega)]; omega
    · rw [if_neg h9]; split <;> omega
  have hw : w2 n.natAbs = (((n.natAbs : Nat) : Int), 0) := by
    unfold w2
    rw [Nat.mod_eq_of_lt (by omega), Nat.div_eq_of_lt (by omega)]
    rfl
  unfold dec_Of.f DV
  rw [hw]
  by_cases hn : n < 0
  · rw [ct hn, Option.bind_some]
    dsimp only
    rw [wrap64, wrap64, show (0 - n % 18446744073709551616) % 18446744073709551616 = ((n.natAbs : Nat) : Int) by omega, Of_eq, Option.bind_some, e]
  · rw [cf hn, Option.bind_some]
    dsimp only
    rw [wrap64, show n % 18446744073709551616 = ((n.natAbs : Nat) : Int) by omega, Of_eq, Option.bind_some, e]

abbrev Tr := List ((Int × Int) × Sapi_Dec)
abbrev Ms := List (Int × Tr)
/-- A number that all sums here bear. -/
def Wn (d : Sapi_Dec) : Prop := ∃ v : Int, d = DV v 2 ∧ v.natAbs < 1000000000000
def WT (t : Tr) : Prop := ∀ q ∈ t, Wn q.2
def WM (M : Ms) : Prop := ∀ p ∈ M, WT p.2
/-- A key's number. -/
def amt (t : Tr) (key : Int × Int) : Int := match mget (keq_a2_i64 key) t with
  | some d => val d
  | none => 0
def gT (M : Ms) (i : Int) : Tr := (mget (keq_i64 i) M).getD []
def oA (M : Ms) (i j : Int) : Int := amt (gT M i) (3, j + 1)
def oL (M : Ms) (i j : Int) : Int := amt (gT M j) (6, i + 1)
theorem mget_mem {α β : Type} {eq : α → Bool} : ∀ {l : List (α × β)} {v : β}, mget eq l = some v → ∃ p ∈ l, p.2 = v ∧ eq p.1 = true
  | [], v, h => by cases h
  | p :: r, v, h => by
    unfold mget at h
    cases hb : eq p.1 with
    | true => rw [hb] at h; cases h; exact ⟨p, List.mem_cons_self, rfl, hb⟩
    | false =>
      rw [hb] at h
      obtain ⟨q, h1, h2⟩ := mget_mem (l := r) h
      exact ⟨q, List.mem_cons_of_mem _ h1, h2⟩
theorem WM.at {M : Ms} (h : WM M) (i : Int) : WT (gT M i) := by
  unfold gT
  cases hg : mget (keq_i64 i) M with
  | none => exact fun q hq => by cases hq
  | some t =>
    obtain ⟨p, h1, h2, _⟩ := mget_mem hg
    exact h2 ▸ h p h1
theorem WT.amt {t : Tr} (h : WT t) (key : Int × Int) : (amt t key).natAbs < 1000000000000 ∧ ∀ d, mget (keq_a2_i64 key) t = some d → d = DV (amt t key) 2 := by
  unfold Pure.amt
  cases hg : mget (keq_a2_i64 key) t with
  | none => exact ⟨by decide, fun d hd => by cases hd⟩
  | some d =>
    obtain ⟨p, h1, h2, _⟩ := mget_mem hg
    obtain ⟨v, h3, h4⟩ := h p h1
    rw [h2] at h3
    rw [h3]
    simp only [val_DV]
    exact ⟨h4, fun d hd => by cases hd; rfl⟩
theorem sum_eq (k : Nat) {t : Tr} (h : WT t) {a w : Int} (hw : -4611686018427387904 ≤ w ∧ w < 4611686018427387904) : inter_sum.f k t a w = some (DV (amt t (a, w + 1)) 2) := by
  unfold inter_sum.f
  rw [wrapi (by omega)]
  obtain ⟨h1, h2⟩ := h.amt (a, w + 1)
  rw [Option.bind_some, Option.bind_some]
  cases hg : mget (keq_a2_i64 (a, w + 1)) t with
  | none =>
    have ho : dec_Of.f k 0 2 = some (DV 0 2) := dOf_DV k (n := 0) (by omega) 2
    simp only [Option.isSome_none, Bool.not_false, cond_true, ho, Option.bind_some]
    have : amt t (a, w + 1) = 0 := by unfold Pure.amt; rw [hg]
    rw [this]
  | some d =>
    have := h2 d hg
    simp only [Option.isSome_some, Bool.not_true, cond_false, Option.getD_some]
    rw [this]
def Sml (i : Int) : Prop := -4611686018427387904 ≤ i ∧ i < 4611686018427387904
theorem Owed_eq (k : Nat) {M : Ms} (h : WM M) {i j : Int} (hi : Sml i) (hj : Sml j) : inter_Owed.f k M ⟨i, j⟩ = some (DV (oA M i j) 2, DV (oL M i j) 2) := by
  unfold inter_Owed.f
  rw [Option.bind_some]
  refine bof (sum_eq k (h.at i) (a := 3) hj) ?_
  rw [Option.bind_some]
  exact bof (sum_eq k (h.at j) (a := 6) hi) rfl
theorem oA_lt {M : Ms} (h : WM M) (i j : Int) : (oA M i j).natAbs < 1000000000000 := ((h.at i).amt _).1
theorem oL_lt {M : Ms} (h : WM M) (i j : Int) : (oL M i j).natAbs < 1000000000000 := ((h.at j).amt _).1
theorem Add2 {k : Nat} (hk : 60 < k) {a b : Int} (ha : a.natAbs < 1000000000000) (hb : b.natAbs < 1000000000000) : dec_Add.f k (DV a 2) (DV b 2) = some (DV (a + b) 2, 0) := by
  rw [Add_DV hk (show Sm a by unfold Sm; omega) (show Sm b by unfold Sm; omega) (by decide) (by decide)]
  unfold mkD
  simp only [Nat.max_self, Nat.sub_self, Int.pow_zero, Int.mul_one]
  rw [if_pos (by omega)]
theorem RAdd2 {k : Nat} (hk : 602 < k) {a b : Int} (ha : a.natAbs < 1000000000000) (hb : b.natAbs < 1000000000000) : pyxref1_Add.f k (DV a 2) (DV b 2) = some (DV (a + b) 2, 0) := by
  rw [RAdd_DV hk (show Sm a by unfold Sm; omega) (show Sm b by unfold Sm; omega) (by decide) (by decide)]
  unfold mkD
  simp only [Nat.max_self, Nat.sub_self, Int.pow_zero, Int.mul_one]
  rw [if_pos (by omega)]
theorem Sgn2 {k : Nat} (hk : 60 < k) {a : Int} (ha : a.natAbs < 10000000000000) : dec_Sign.f k (DV a 2) = some (sgn a) := by
  rw [Sign_DV hk (show Sm a by unfold Sm; omega) (by decide)]
  rfl
theorem sgn_bne (v : Int) : (sgn v != 0) = decide (v ≠ 0) := by
  unfold bne
  rw [sgn_beq]
  simp
/-- Does nothing stay between them; do they owe anything? -/
def evn (M : Ms) (i j : Int) : Bool := decide (oA M i j + oL M i j = 0)
def som (M : Ms) (i j : Int) : Bool := decide (oA M i j ≠ 0) || decide (oL M i j ≠ 0)
def rowP (so : Int → Int → Bool) (i : Int) (L : List Int) : List Sinter_Pair := (L.filter fun j => decide (i ≠ j) && so i j).map fun j => ⟨i, j⟩
def allP (so : Int → Int → Bool) (L E : List Int) : List Sinter_Pair := L.flatMap fun i => rowP so i E
theorem rowP_snoc (so : Int → Int → Bool) (i j : Int) (L : List Int) : rowP so i (L ++ [j]) = rowP so i L ++ (cond (decide (i ≠ j) && so i j) [⟨i, j⟩] []) := by
  unfold rowP
  rw [List.filter_append, List.map_append]
  congr 1
  cases h : decide (i ≠ j) && so i j with
  | true => rw [List.filter_cons, if_pos h]; rfl
  | false => rw [List.filter_cons, if_neg (by rw [h]; decide)]; rfl
theorem take_getD {α : Type} {l : List α} {i : Nat} (d : α) (h : i < l.length) : l.take (i + 1) = l.take i ++ [l.getD i d] := by
  rw [List.take_add_one, List.getElem?_eq_getElem h, List.getD_eq_getElem?_getD, List.getElem?_eq_getElem h]
  rfl
theorem rowP_len (so : Int → Int → Bool) (i : Int) (L : List Int) : (rowP so i L).length ≤ L.length := by
  unfold rowP
  rw [List.length_map]
  exact List.length_filter_le _ _
def mat (M : Ms) (i j : Int) : Bool := evn M i j && som M i j
def opn (M : Ms) (i j : Int) : Bool := !(evn M i j)
theorem okl {n : Nat} (h : n < 1000000) : okLen n 16 = true := by
  unfold okLen
  exact decide_eq_true (by omega)
theorem m7_eq {k : Nat} (hk : 60 < k) {M : Ms} (h : WM M) (out : List Sinter_Pair) (l3 l5 : List Int) (x5 x6 : Int) {i : Int} (hi : Sml i) {E : List Int} (hE : ∀ e ∈ E, Sml e) (hl : out.length + E.length < 1000000) (hlk : E.length < k) :
    iter (inter_pairs_c26.l7.once k) k (M, out, l3, i, l5, x5, x6, E, (E.length : Int), 0) = some (M, out ++ rowP (mat M) i E, l3, l5, x5, x6) := by
  have := iter_seq (once := inter_pairs_c26.l7.once k) (fun t => (M, out ++ rowP (mat M) i (E.take t), l3, i, l5, x5, x6, E, (E.length : Int), (t : Int))) E.length (fun t ht => ?_) (M, out ++ rowP (mat M) i E, l3, l5, x5, x6) ?_ k 0 (Nat.zero_le _) (by omega)
  · have e0 : rowP (mat M) i (List.take 0 E) = [] := by rw [List.take_zero]; rfl
    rw [e0, List.append_nil] at this
    exact this
  · have hto : Sml (E.getD t 0) := by
      rw [List.getD_eq_getElem?_getD, List.getElem?_eq_getElem ht]
      exact hE _ (List.getElem_mem ht)
    have b1 := oA_lt h i (E.getD t 0)
    have b2 := oL_lt h i (E.getD t 0)
    have hlen : (out ++ rowP (mat M) i (E.take t)).length < 1000000 - 1 := by
      rw [List.length_append]
      have := rowP_len (mat M) i (E.take t)
      rw [List.length_take] at this
      omega
    unfold inter_pairs_c26.l7.once
    dsimp only
    rw [ct (by omega), inb_t (by omega) (by omega), cond_true, show (((t : Nat) : Int)).toNat = t from rfl]
    refine bof (Owed_eq k h hi hto) ?_
    refine bof (Add2 hk b1 b2) ?_
    dsimp only
    rw [take_getD 0 ht, rowP_snoc, ← List.append_assoc]
    have s0 := Sgn2 hk (a := oA M i (E.getD t 0) + oL M i (E.getD t 0)) (by omega)
    have s1 := Sgn2 hk (a := oA M i (E.getD t 0)) (by omega)
    have s2 := Sgn2 hk (a := oL M i (E.getD t 0)) (by omega)
    have e1 : mat M i (E.getD t 0) = (decide (oA M i (E.getD t 0) + oL M i (E.getD t 0) = 0) && (decide (oA M i (E.getD t 0) ≠ 0) || decide (oL M i (E.getD t 0) ≠ 0))) := rfl
    rw [e1]
    generalize E.getD t 0 = j at *
    generalize oA M i j = a at *
    generalize oL M i j = b at *
    rw [show ((0 : Int) == 0) = true from rfl, cond_true]
    refine bof (bof s0 rfl) ?_
    dsimp only
    rw [sgn_beq]
    by_cases hij : i = j
    · subst hij
      rw [show (i != i) = false by simp, cond_false, Option.bind_some, show decide (i ≠ i) = false by simp, Bool.false_and]
      dsimp only
      rw [cond_false, cond_false, List.append_nil, wrapi (by omega)]
      rfl
    · rw [show (i != j) = true by simpa using hij, cond_true, show decide (i ≠ j) = true by simpa using hij, Bool.true_and]
      have fin : ∀ b : Bool, (cond b (cond (okLen (List.length (out ++ rowP (mat M) i (E.take t)) + List.length [(⟨i, j⟩ : Sinter_Pair)]) 16) (some (Sum.inl (β := List (Int × List ((Int × Int) × Sapi_Dec)) × List Sinter_Pair × List Int × List Int × Int × Int) (M, (out ++ rowP (mat M) i (E.take t)) ++ [(⟨i, j⟩ : Sinter_Pair)], l3, i, l5, x5, x6, E, (E.length : Int), IntKind.wrap .i64 ((t : Int) + 1)))) none) (some (Sum.inl (M, out ++ rowP (mat M) i (E.take t), l3, i, l5, x5, x6, E, (E.length : Int), IntKind.wrap .i64 ((t : Int) + 1))))) =
          some (.inl (M, (out ++ rowP (mat M) i (E.take t)) ++ cond b [(⟨i, j⟩ : Sinter_Pair)] [], l3, i, l5, x5, x6, E, (E.length : Int), ((t + 1 : Nat) : Int))) := fun b => by
        rw [wrapi (by omega), okl (by simp only [List.length_cons, List.length_nil]; omega)]
        cases b with
        | true => rfl
        | false => rw [cond_false, cond_false, List.append_nil]; rfl
      rw [Option.bind_assoc]
      refine bof s1 ?_
      rw [sgn_bne]
      by_cases ha : a = 0
      · rw [cf (by simpa using ha), Option.bind_assoc]
        refine bof s2 ?_
        rw [Option.bind_assoc, sgn_bne]
        have e2 : inter_Matched_1.f k (decide (a + b = 0)) (decide (b ≠ 0)) = some (decide (a + b = 0) && decide (b ≠ 0)) := by
          unfold inter_Matched_1.f
          cases decide (a + b = 0) <;> rfl
        refine bof e2 ?_
        rw [show decide (a ≠ 0) = false by simpa using ha, Bool.false_or]
        exact fin _
      · rw [ct (by simpa using ha), Option.bind_assoc]
        have e2 : inter_Matched_1.f k (decide (a + b = 0)) true = some (decide (a + b = 0) && true) := by
          unfold inter_Matched_1.f
          cases decide (a + b = 0) <;> rfl
        refine bof e2 ?_
        rw [show decide (a ≠ 0) = true by simpa using ha, Bool.true_or]
        exact fin _
  · unfold inter_pairs_c26.l7.once
    dsimp only
    rw [cf (by omega), List.take_length]
theorem o7_eq {k : Nat} (hk : 60 < k) {M : Ms} (h : WM M) (out : List Sinter_Pair) (l3 l5 : List Int) (x5 x6 : Int) {i : Int} (hi : Sml i) {E : List Int} (hE : ∀ e ∈ E, Sml e) (hl : out.length + E.length < 1000000) (hlk : E.length < k) :
    iter (inter_pairs_c27.l7.once k) k (M, out, l3, i, l5, x5, x6, E, (E.length : Int), 0) = some (M, out ++ rowP (opn M) i E, l3, l5, x5, x6) := by
  have := iter_seq (once := inter_pairs_c27.l7.once k) (fun t => (M, out ++ rowP (opn M) i (E.take t), l3, i, l5, x5, x6, E, (E.length : Int), (t : Int))) E.length (fun t ht => ?_) (M, out ++ rowP (opn M) i E, l3, l5, x5, x6) ?_ k 0 (Nat.zero_le _) (by omega)
  · have e0 : rowP (opn M) i (List.take 0 E) = [] := by rw [List.take_zero]; rfl
    rw [e0, List.append_nil] at this
    exact this
  · have hto : Sml (E.getD t 0) := by
      rw [List.getD_eq_getElem?_getD, List.getElem?_eq_getElem ht]
      exact hE _ (List.getElem_mem ht)
    have b1 := oA_lt h i (E.getD t 0)
    have b2 := oL_lt h i (E.getD t 0)
    have hlen : (out ++ rowP (opn M) i (E.take t)).length < 1000000 - 1 := by
      rw [List.length_append]
      have := rowP_len (opn M) i (E.take t)
      rw [List.length_take] at this
      omega
    unfold inter_pairs_c27.l7.once
    dsimp only
    rw [ct (by omega), inb_t (by omega) (by omega), cond_true, show (((t : Nat) : Int)).toNat = t from rfl]
    refine bof (Owed_eq k h hi hto) ?_
    refine bof (Add2 hk b1 b2) ?_
    dsimp only
    rw [take_getD 0 ht, rowP_snoc, ← List.append_assoc]
    have s0 := Sgn2 hk (a := oA M i (E.getD t 0) + oL M i (E.getD t 0)) (by omega)
    have s1 := Sgn2 hk (a := oA M i (E.getD t 0)) (by omega)
    have s2 := Sgn2 hk (a := oL M i (E.getD t 0)) (by omega)
    have e1 : opn M i (E.getD t 0) = (!(decide (oA M i (E.getD t 0) + oL M i (E.getD t 0) = 0))) := rfl
    rw [e1]
    generalize E.getD t 0 = j at *
    generalize oA M i j = a at *
    generalize oL M i j = b at *
    rw [show ((0 : Int) == 0) = true from rfl, cond_true]
    refine bof (bof s0 rfl) ?_
    dsimp only
    rw [sgn_beq]
    by_cases hij : i = j
    · subst hij
      rw [show (i != i) = false by simp, cond_false, Option.bind_some, show decide (i ≠ i) = false by simp, Bool.false_and]
      dsimp only
      rw [cond_false, cond_false, List.append_nil, wrapi (by omega)]
      rfl
    · rw [show (i != j) = true by simpa using hij, cond_true, show decide (i ≠ j) = true by simpa using hij, Bool.true_and]
      have fin : ∀ b : Bool, (cond b (cond (okLen (List.length (out ++ rowP (opn M) i (E.take t)) + List.length [(⟨i, j⟩ : Sinter_Pair)]) 16) (some (Sum.inl (β := List (Int × List ((Int × Int) × Sapi_Dec)) × List Sinter_Pair × List Int × List Int × Int × Int) (M, (out ++ rowP (opn M) i (E.take t)) ++ [(⟨i, j⟩ : Sinter_Pair)], l3, i, l5, x5, x6, E, (E.length : Int), IntKind.wrap .i64 ((t : Int) + 1)))) none) (some (Sum.inl (M, out ++ rowP (opn M) i (E.take t), l3, i, l5, x5, x6, E, (E.length : Int), IntKind.wrap .i64 ((t : Int) + 1))))) =
          some (.inl (M, (out ++ rowP (opn M) i (E.take t)) ++ cond b [(⟨i, j⟩ : Sinter_Pair)] [], l3, i, l5, x5, x6, E, (E.length : Int), ((t + 1 : Nat) : Int))) := fun b => by
        rw [wrapi (by omega), okl (by simp only [List.length_cons, List.length_nil]; omega)]
        cases b with
        | true => rfl
        | false => rw [cond_false, cond_false, List.append_nil]; rfl
      rw [Option.bind_assoc]
      refine bof s1 ?_
      rw [sgn_bne]
      by_cases ha : a = 0
      · rw [cf (by simpa using ha), Option.bind_assoc]
        refine bof s2 ?_
        rw [Option.bind_assoc, sgn_bne]
        have e2 : inter_Open_1.f k (decide (a + b = 0)) (decide (b ≠ 0)) = some (!(decide (a + b = 0))) := rfl
        refine bof e2 ?_
        exact fin _
      · rw [ct (by simpa using ha), Option.bind_assoc]
        have e2 : inter_Open_1.f k (decide (a + b = 0)) true = some (!(decide (a + b = 0))) := rfl
        refine bof e2 ?_
        exact fin _
  · unfold inter_pairs_c27.l7.once
    dsimp only
    rw [cf (by omega), List.take_length]
theorem allP_snoc (so : Int → Int → Bool) (L E : List Int) (i : Int) : allP so (L ++ [i]) E = allP so L E ++ rowP so i E := by
  unfold allP
  rw [List.flatMap_append, List.flatMap_cons, List.flatMap_nil, List.append_nil]
theorem allP_len (so : Int → Int → Bool) (L E : List Int) : (allP so L E).length ≤ L.length * E.length := by
  unfold allP
  induction L with
  | nil => simp
  | cons i L ih =>
    rw [List.flatMap_cons, List.length_append, List.length_cons, Nat.succ_mul]
    have := rowP_len so i E
    omega
theorem clip_eq (k : Nat) (l : List Sinter_Pair) : slices_Clip_inter_Pair.f k l = some l := by
  unfold slices_Clip_inter_Pair.f
  have hin : inS 0 (l.length : Int) l.length = true := by
    unfold inS
    simp
  rw [decide_eq_true rfl, hin, Bool.and_self, cond_true, Int.toNat_natCast, List.take_length]
/-- The keys, rising. -/
def entsOf (M : Ms) : List Int := srt_i64 (List.map (fun p => p.1) M)
def Ents (M : Ms) : Prop := (∀ e ∈ entsOf M, Sml e) ∧ (entsOf M).length ≤ 100 ∧ M.length ≤ 100
theorem m4_eq {k : Nat} (hk : 200 < k) {M : Ms} (h : WM M) {E : List Int} (hE : ∀ e ∈ E, Sml e) (hl : E.length ≤ 100) :
    iter (inter_pairs_c26.l4.once k) k (M, [], E, E, (E.length : Int), 0) = some (allP (mat M) E E) := by
  have := iter_seq (once := inter_pairs_c26.l4.once k) (fun t => (M, allP (mat M) (E.take t) E, E, E, (E.length : Int), (t : Int))) E.length (fun t ht => ?_) (allP (mat M) E E) ?_ k 0 (Nat.zero_le _) (by omega)
  · exact this
  · have hto : Sml (E.getD t 0) := by
      rw [List.getD_eq_getElem?_getD, List.getElem?_eq_getElem ht]
      exact hE _ (List.getElem_mem ht)
    have hb := allP_len (mat M) (E.take t) E
    have hb2 : (E.take t).length * E.length ≤ 100 * 100 := Nat.mul_le_mul (by rw [List.length_take]; omega) hl
    unfold inter_pairs_c26.l4.once
    dsimp only
    rw [ct (by omega), inb_t (by omega) (by omega), cond_true, show (((t : Nat) : Int)).toNat = t from rfl]
    refine bof (m7_eq (by omega) h _ E E _ _ hto hE (by omega) (by omega)) ?_
    dsimp only
    rw [take_getD 0 ht, allP_snoc, wrapi (by omega)]
    rfl
  · unfold inter_pairs_c26.l4.once
    dsimp only
    rw [cf (by omega), List.take_length]
theorem Matched_eq {k : Nat} (hk : 200 < k) {M : Ms} (h : WM M) (hE : Ents M) : inter_Matched.f k M = some (allP (mat M) (entsOf M) (entsOf M)) := by
  unfold inter_Matched.f inter_pairs_c26.f
  rw [show okLen (List.length (List.map (fun p => p.1) M)) 8 = true by unfold okLen; rw [List.length_map]; exact decide_eq_true (by have := hE.2.2; omega), cond_true]
  refine bof (v := allP (mat M) (entsOf M) (entsOf M)) ?_ rfl
  refine bof (m4_eq hk h hE.1 hE.2.1) ?_
  exact bof (clip_eq k _) rfl
theorem o4_eq {k : Nat} (hk : 200 < k) {M : Ms} (h : WM M) {E : List Int} (hE : ∀ e ∈ E, Sml e) (hl : E.length ≤ 100) :
    iter (inter_pairs_c27.l4.once k) k (M, [], E, E, (E.length : Int), 0) = some (allP (opn M) E E) := by
  have := iter_seq (once := inter_pairs_c27.l4.once k) (fun t => (M, allP (opn M) (E.take t) E, E, E, (E.length : Int), (t : Int))) E.length (fun t ht => ?_) (allP (opn M) E E) ?_ k 0 (Nat.zero_le _) (by omega)
  · exact this
  · have hto : Sml (E.getD t 0) := by
      rw [List.getD_eq_getElem?_getD, List.getElem?_eq_getElem ht]
      exact hE _ (List.getElem_mem ht)
    have hb := allP_len (opn M) (E.take t) E
    have hb2 : (E.take t).length * E.length ≤ 100 * 100 := Nat.mul_le_mul (by rw [List.length_take]; omega) hl
    unfold inter_pairs_c27.l4.once
    dsimp only
    rw [ct (by omega), inb_t (by omega) (by omega), cond_true, show (((t : Nat) : Int)).toNat = t from rfl]
    refine bof (o7_eq (by omega) h _ E E _ _ hto hE (by omega) (by omega)) ?_
    dsimp only
    rw [take_getD 0 ht, allP_snoc, wrapi (by omega)]
    rfl
  · unfold inter_pairs_c27.l4.once
    dsimp only
    rw [cf (by omega), List.take_length]
theorem Open_eq {k : Nat} (hk : 200 < k) {M : Ms} (h : WM M) (hE : Ents M) : inter_Open.f k M = some (allP (opn M) (entsOf M) (entsOf M)) := by
  unfold inter_Open.f inter_pairs_c27.f
  rw [show okLen (List.length (List.map (fun p => p.1) M)) 8 = true by unfold okLen; rw [List.length_map]; exact decide_eq_true (by have := hE.2.2; omega), cond_true]
  refine bof (v := allP (opn M) (entsOf M) (entsOf M)) ?_ rfl
  refine bof (o4_eq hk h hE.1 hE.2.1) ?_
  exact bof (clip_eq k _) rfl
end
end Go.Proofs.Ytgfbcclfajcjnaa.Pure
/- Lists of pairs. No conditions but size. -/
namespace Go.Proofs.Ytgfbcclfajcjnaa.Pure
set_option linter.unusedVariables false
set_option linter.unusedSimpArgs false
open Go Go.Ev Go.Lm Go.Pu Go.Dg
noncomputable section
instance decP : DecidableEq Sinter_Pair := fun a b => decidable_of_iff (a.f_From = b.f_From ∧ a.f_To = b.f_To) ⟨fun h => by cases a; cases b; simp at h; simp [h], fun h => by cases h; exact ⟨rfl, rfl⟩⟩
theorem mget_map {α β γ : Type} {eq : α → Bool} {f : β → γ} : ∀ {l : List (α × β)}, mget eq (l.map fun p => (p.1, f p.2)) = (mget eq l).map f
  | [] => rfl
  | p :: r => by
    simp only [List.map_cons, mget]
    cases eq p.1 with
    | true => rfl
    | false => simp only [cond_false]; exact mget_map
theorem nd_fil {α : Type} {p : α → Bool} {l : List α} (h : l.Nodup) : (l.filter p).Nodup := List.Pairwise.sublist List.filter_sublist h
theorem nd_map {α β : Type} {f : α → β} (hf : ∀ a b, f a = f b → a = b) {l : List α} (h : l.Nodup) : (l.map f).Nodup := by
  unfold List.Nodup at *
  rw [List.pairwise_map]
  exact h.imp fun hne e => hne (hf _ _ e)
abbrev Om := List (Int × Nat)
/-- A map of maps, as it is told. -/
def resM (om : Om) (ar : List Tr) : Ms := om.map fun p => (p.1, ar.getD p.2 [])
theorem mput_mem {α β : Type} {eq : α → Bool} {k : α} {v : β} : ∀ {l : List (α × β)} {q : α × β}, q ∈ mput eq k v l → q ∈ l ∨ q = (k, v) ∨ ∃ p ∈ l, q = (p.1, v)
  | [], q, h => by
    have h : q ∈ [(k, v)] := h
    simp at h
    exact .inr (.inl h)
  | p :: r, q, h => by
    unfold mput at h
    cases hb : eq p.1 with
    | true =>
      rw [hb, cond_true] at h
      rcases List.mem_cons.1 h with h | h
      · exact .inr (.inr ⟨p, List.mem_cons_self, h⟩)
      · exact .inl (List.mem_cons_of_mem _ h)
    | false =>
      rw [hb, cond_false] at h
      rcases List.mem_cons.1 h with h | h
      · exact .inl (h ▸ List.mem_cons_self)
      · rcases mput_mem (l := r) h with h | h | ⟨p', h1, h2⟩
        · exact .inl (List.mem_cons_of_mem _ h)
        · exact .inr (.inl h)
        · exact .inr (.inr ⟨p', List.mem_cons_of_mem _ h1, h2⟩)
theorem Wn_of {v : Int} (h : v.natAbs < 1000000000000) : Wn (DV v 2) := ⟨v, rfl, h⟩
theorem gT_res (om : Om) (ar : List Tr) (i : Int) : gT (resM om ar) i = arAt ar (mget (keq_i64 i) om) := by
  unfold gT resM
  have := mget_map (eq := keq_i64 i) (f := fun j => ar.getD j []) (l := om)
  rw [this]
  cases mget (keq_i64 i) om <;> rfl
theorem mem_rowP {so : Int → Int → Bool} {i : Int} {E : List Int} {p : Sinter_Pair} : p ∈ rowP so i E ↔ p.f_From = i ∧ p.f_To ∈ E ∧ i ≠ p.f_To ∧ so i p.f_To = true := by
  unfold rowP
  rw [List.mem_map]
  constructor
  · rintro ⟨j, hj, rfl⟩
    rw [List.mem_filter, Bool.and_eq_true, decide_eq_true_eq] at hj
    exact ⟨rfl, hj.1, hj.2.1, hj.2.2⟩
  · rintro ⟨h1, h2, h3, h4⟩
    refine ⟨p.f_To, ?_, ?_⟩
    · rw [List.mem_filter, Bool.and_eq_true, decide_eq_true_eq]
      exact ⟨h2, h3, h4⟩
    · rw [← h1]
theorem mem_allP {so : Int → Int → Bool} {L E : List Int} {p : Sinter_Pair} : p ∈ allP so L E ↔ p.f_From ∈ L ∧ p.f_To ∈ E ∧ p.f_From ≠ p.f_To ∧ so p.f_From p.f_To = true := by
  unfold allP
  rw [List.mem_flatMap]
  constructor
  · rintro ⟨i, hi, hp⟩
    obtain ⟨h1, h2, h3, h4⟩ := mem_rowP.1 hp
    rw [h1]
    exact ⟨hi, h2, h3, h4⟩
  · rintro ⟨h1, h2, h3, h4⟩
    exact ⟨p.f_From, h1, mem_rowP.2 ⟨rfl, h2, h3, h4⟩⟩
theorem rowP_nd {so : Int → Int → Bool} {i : Int} {E : List Int} (h : E.Nodup) : (rowP so i E).Nodup := by
  unfold rowP
  exact nd_map (fun a b e => by cases e; rfl) (nd_fil h)
theorem allP_nd {so : Int → Int → Bool} {E : List Int} (hE : E.Nodup) : ∀ {L : List Int}, L.Nodup → (allP so L E).Nodup
  | [], _ => List.nodup_nil
  | i :: L, h => by
    rw [List.nodup_cons] at h
    show (rowP so i E ++ allP so L E).Nodup
    rw [List.nodup_append]
    refine ⟨rowP_nd hE, allP_nd hE h.2, fun p hp q hq e => ?_⟩
    subst e
    have h1 := (mem_rowP.1 hp).1
    have h2 := (mem_allP.1 hq).1
    rw [h1] at h2
    exact h.1 h2
end
end Go.Proofs.Ytgfbcclfajcjnaa.Pure
/- InterAlike: of two that owe one another alike all pairs are matched; one cent more, and that pair is open. No conditions but size. -/
namespace Go.Proofs.Ytgfbcclfajcjnaa.Pure
set_option linter.unusedVariables false
set_option linter.unusedSimpArgs false
open Go Go.Ev Go.Lm Go.Pu Go.Dg
noncomputable section
theorem knownI : pyxlaw18_known.f 1000 = some true := by decide +kernel
theorem keqA {a b : Int × Int} : keq_a2_i64 a b = decide (a = b) := by
  unfold keq_a2_i64
  obtain ⟨a1, a2⟩ := a
  obtain ⟨b1, b2⟩ := b
  rw [Bool.eq_iff_iff]
  simp
theorem mget_put {key key' : Int × Int} {d : Sapi_Dec} : ∀ t : Tr, mget (keq_a2_i64 key') (mput (keq_a2_i64 key) key d t) = if key' = key then some d else mget (keq_a2_i64 key') t
  | [] => by
    show mget (keq_a2_i64 key') [(key, d)] = _
    unfold mget
    rw [keqA]
    by_cases h : key' = key
    · rw [decide_eq_true h, if_pos h]; rfl
    · rw [decide_eq_false h, if_neg h]; rfl
  | p :: r => by
    unfold mput
    rw [keqA]
    by_cases h : key = p.1
    · rw [decide_eq_true h, cond_true]
      unfold mget
      rw [keqA]
      by_cases h2 : key' = p.1
      · rw [decide_eq_true h2, cond_true, if_pos (h2.trans h.symm)]
      · rw [decide_eq_false h2, cond_false, cond_false, if_neg (fun e => h2 (e.trans h))]
    · rw [decide_eq_false h, cond_false]
      unfold mget
      rw [mget_put r, keqA]
      by_cases h2 : key' = p.1
      · rw [decide_eq_true h2, cond_true, cond_true, if_neg (fun e => h (e.symm.trans h2))]
      · rw [decide_eq_false h2, cond_false, cond_false]
theorem amt_put {key key' : Int × Int} {v : Int} {t : Tr} : amt (mput (keq_a2_i64 key) key (DV v 2) t) key' = if key' = key then v else amt t key' := by
  unfold amt
  rw [mget_put]
  by_cases h : key' = key
  · rw [if_pos h, if_pos h]
    show val (DV v 2) = v
    exact val_DV v 2
  · rw [if_neg h, if_neg h]
theorem WT_put {key : Int × Int} {d : Sapi_Dec} {t : Tr} (h : WT t) (hd : Wn d) : WT (mput (keq_a2_i64 key) key d t) := fun q hq => by
  rcases mput_mem hq with hq | rfl | ⟨p, hp, rfl⟩
  · exact h q hq
  · exact hd
  · exact hd
/-- What is owed, by the raw numbers. -/
def cO (l : List Int) (i k : Nat) : Int := if i ≠ k ∧ 4 * i + k < l.length ∧ Int.tmod (l.getD (4 * i + k) 0) 3 ≠ 0 then 1 + pick (l.getD (4 * i + k) 0) 1000000 else 0
theorem cO_bd (l : List Int) (i k : Nat) : 0 ≤ cO l i k ∧ cO l i k ≤ 1000000 := by
  unfold cO
  have := pick_bd (l.getD (4 * i + k) 0) (m := 1000000) (by decide)
  split <;> omega
theorem cO_self (l : List Int) (i : Nat) : cO l i i = 0 := by
  unfold cO
  rw [if_neg (fun h => h.1 rfl)]
def cs (l : List Int) (i j : Int) : Bool := decide (cO l i.toNat j.toNat ≠ 0)
def cD (l : List Int) (i k a b : Nat) : Int := if a < i ∨ (a = i ∧ b < k) then cO l a b else 0
structure Al (l : List Int) (i k : Nat) (ar : List Tr) : Prop where
  len : ar.length = 4
  wt : ∀ t ∈ ar, WT t
  a3 : ∀ a b : Nat, a < 4 → b < 4 → amt (ar.getD a []) (3, (b : Int) + 1) = cD l i k a b
  a6 : ∀ a b : Nat, a < 4 → b < 4 → amt (ar.getD b []) (6, (a : Int) + 1) = - cD l i k a b
def om4 : Om := [(0, 0), (1, 1), (2, 2), (3, 3)]
def L4 : List Int := [0, 1, 2, 3]
theorem L4_getD {t : Nat} (h : t < 4) : L4.getD t 0 = (t : Int) := by
  have : t = 0 ∨ t = 1 ∨ t = 2 ∨ t = 3 := by omega
  rcases this with rfl | rfl | rfl | rfl <;> rfl
theorem om4_get {t : Nat} (h : t < 4) : mget (keq_i64 (t : Int)) om4 = some t := by
  have : t = 0 ∨ t = 1 ∨ t = 2 ∨ t = 3 := by omega
  rcases this with rfl | rfl | rfl | rfl <;> rfl
theorem getD_set {ar : List Tr} {i j : Nat} {t : Tr} (hi : i < ar.length) : (ar.set i t).getD j [] = if i = j then t else ar.getD j [] := by
  rw [List.getD_eq_getElem?_getD, List.getElem?_set]
  by_cases h : i = j
  · subst h
    rw [if_pos rfl, if_pos hi, if_pos rfl]
    rfl
  · rw [if_neg h, if_neg h, List.getD_eq_getElem?_getD]
theorem wt_at {ar : List Tr} (h : ∀ t ∈ ar, WT t) (j : Nat) : WT (ar.getD j []) := by
  rw [List.getD_eq_getElem?_getD]
  cases hg : ar[j]? with
  | none => exact fun q hq => (by cases hq)
  | some t => exact h t (List.mem_of_getElem? hg)
theorem wt_set {ar : List Tr} (h : ∀ t ∈ ar, WT t) (j : Nat) {t : Tr} (ht : WT t) : ∀ s ∈ ar.set j t, WT s := fun s hs => by
  rcases List.mem_or_eq_of_mem_set hs with h1 | h1
  · exact h s h1
  · exact h1 ▸ ht
theorem cD_step (l : List Int) (i k a b : Nat) : cD l i (k + 1) a b = if a = i ∧ b = k then cO l i k else cD l i k a b := by
  unfold cD
  by_cases h : a = i ∧ b = k
  · rw [if_pos h, if_pos (by omega), h.1, h.2]
  · rw [if_neg h]
    by_cases h2 : a < i ∨ (a = i ∧ b < k)
    · rw [if_pos h2, if_pos (by omega)]
    · rw [if_neg h2, if_neg (by omega)]
theorem Al.skip {l : List Int} {i k : Nat} {ar : List Tr} (h : Al l i k ar) (h0 : cO l i k = 0) (hk : k < 4) (hi : i < 4) : Al l i (k + 1) ar := by
  have e : ∀ a b, cD l i (k + 1) a b = cD l i k a b := fun a b => by
    rw [cD_step]
    by_cases hc : a = i ∧ b = k
    · rw [if_pos hc, h0]
      unfold cD
      rw [if_neg (by omega)]
    · rw [if_neg hc]
  exact ⟨h.len, h.wt, fun a b ha hb => by rw [e]; exact h.a3 a b ha hb, fun a b ha hb => by rw [e]; exact h.a6 a b ha hb⟩
def put2 (ar : List Tr) (i k : Nat) (v : Int) : List Tr :=
  List.set (List.set ar i (mput (keq_a2_i64 (3, (k : Int) + 1)) (3, (k : Int) + 1) (DV v 2) (List.getD ar i []))) k
    (mput (keq_a2_i64 (6, (i : Int) + 1)) (6, (i : Int) + 1) (DV (-v) 2) (List.getD (List.set ar i (mput (keq_a2_i64 (3, (k : Int) + 1)) (3, (k : Int) + 1) (DV v 2) (List.getD ar i []))) k []))
theorem Al.put {l : List Int} {i k : Nat} {ar : List Tr} (h : Al l i k ar) (hk : k < 4) (hi : i < 4) (hik : i ≠ k) : Al l i (k + 1) (put2 ar i k (cO l i k)) := by
  have hb := cO_bd l i k
  have w1 := WT_put (key := (3, (k : Int) + 1)) (wt_at h.wt i) (d := DV (cO l i k) 2) (Wn_of (by omega))
  have w2 := wt_set h.wt i w1
  have l1 : (ar.set i (mput (keq_a2_i64 (3, (k : Int) + 1)) (3, (k : Int) + 1) (DV (cO l i k) 2) (ar.getD i []))).length = 4 := by rw [List.length_set]; exact h.len
  have g1 : ∀ a, (ar.set i (mput (keq_a2_i64 (3, (k : Int) + 1)) (3, (k : Int) + 1) (DV (cO l i k) 2) (ar.getD i []))).getD a [] = if i = a then mput (keq_a2_i64 (3, (k : Int) + 1)) (3, (k : Int) + 1) (DV (cO l i k) 2) (ar.getD i []) else ar.getD a [] := fun a => getD_set (by rw [h.len]; exact hi)
  have g2 : ∀ a, (put2 ar i k (cO l i k)).getD a [] = if k = a then mput (keq_a2_i64 (6, (i : Int) + 1)) (6, (i : Int) + 1) (DV (-(cO l i k)) 2) (ar.getD k []) else if i = a then mput (keq_a2_i64 (3, (k : Int) + 1)) (3, (k : Int) + 1) (DV (cO l i k) 2) (ar.getD i []) else ar.getD a [] := fun a => by
    unfold put2
    rw [getD_set (by rw [l1]; exact hk), g1, g1, if_neg hik]
  refine ⟨?_, ?_, fun a b ha hb' => ?_, fun a b ha hb' => ?_⟩
  · unfold put2
    rw [List.length_set, l1]
  · unfold put2
    exact wt_set w2 k (WT_put (wt_at w2 k) (Wn_of (by omega)))
  · rw [g2, cD_step]
    by_cases h1 : k = a
    · subst h1
      rw [if_pos rfl, amt_put, if_neg (fun e => by cases e), if_neg (fun e => hik e.1.symm)]
      exact h.a3 k b ha hb'
    · rw [if_neg h1]
      by_cases h2 : i = a
      · subst h2
        rw [if_pos rfl, amt_put]
        by_cases h3 : b = k
        · rw [h3, if_pos rfl, if_pos ⟨rfl, rfl⟩]
        · rw [if_neg (fun e => by have := congrArg Prod.snd e; dsimp only at this; omega), if_neg (fun e => h3 e.2)]
          exact h.a3 i b ha hb'
      · rw [if_neg h2, if_neg (fun e => h2 e.1.symm)]
        exact h.a3 a b ha hb'
  · rw [g2]
    by_cases h1 : k = b
    · subst h1
      rw [if_pos rfl, amt_put]
      by_cases h3 : a = i
      · rw [h3, if_pos rfl, cD_step, if_pos ⟨rfl, rfl⟩]
      · rw [if_neg (fun e => by have := congrArg Prod.snd e; dsimp only at this; omega), cD_step, if_neg (fun e => h3 e.1)]
        exact h.a6 a k ha hb'
    · rw [if_neg h1, cD_step, if_neg (show ¬ (a = i ∧ b = k) from fun e => h1 e.2.symm)]
      by_cases h2 : i = b
      · subst h2
        rw [if_pos rfl, amt_put, if_neg (fun e => by cases e)]
        exact h.a6 a i ha hb'
      · rw [if_neg h2]
        exact h.a6 a b ha hb'
theorem a11_step {k : Nat} (hk : 602 < k) (l : List Int) (at_ : Int) (out : List Sinter_Pair) (ho : out.length < 1000) {i j : Nat} (hi : i < 4) (hj : j < 4) {ar : List Tr} (h : Al l i j ar) :
    ∃ r, pyxlaw18_InterAlike.l11.once k (l, at_, out, (i : Int), (j : Int), om4, ar) = some r ∧ ∃ ar', r = .inl (l, at_, out ++ cond (decide ((i : Int) ≠ (j : Int)) && cs l i j) [⟨(i : Int), (j : Int)⟩] [], (i : Int), ((j + 1 : Nat) : Int), om4, ar') ∧ Al l i (j + 1) ar' := by
  unfold pyxlaw18_InterAlike.l11.once
  dsimp only
  rw [ct (by omega), wrapi (show -9223372036854775808 ≤ 4 * (i : Int) ∧ 4 * (i : Int) < 9223372036854775808 by omega), wrapi (show -9223372036854775808 ≤ 4 * (i : Int) + (j : Int) ∧ 4 * (i : Int) + (j : Int) < 9223372036854775808 by omega)]
  have hn : (4 * (i : Int) + (j : Int)).toNat = 4 * i + j := by omega
  rw [Option.bind_assoc]
  refine bexv (v := (l, at_, out, (i : Int), (j : Int), 4 * (i : Int) + (j : Int), decide (cO l i j = 0), om4, ar)) ?_ ?_
  · unfold cO
    by_cases e : i = j
    · subst e
      rw [show ((i : Int) == (i : Int)) = true by simp, cond_true, if_neg (fun h => h.1 rfl), decide_eq_true rfl]
    · rw [show ((i : Int) == (j : Int)) = false from beq_false_of_ne (by omega), cond_false]
      by_cases e2 : 4 * i + j < l.length
      · rw [cf (by omega), inb_t (by omega) (by omega), cond_true, hn]
        by_cases e3 : Int.tmod (l.getD (4 * i + j) 0) 3 = 0
        · rw [if_neg (fun h => h.2.2 e3), decide_eq_true rfl, e3]
          rfl
        · have := pick_bd (l.getD (4 * i + j) 0) (m := 1000000) (by decide)
          rw [if_pos ⟨e, e2, e3⟩, decide_eq_false (by omega), show (Int.tmod (l.getD (4 * i + j) 0) 3 == 0) = false from beq_false_of_ne e3]
      · rw [ct (by omega), if_neg (fun h => e2 h.2.1), decide_eq_true rfl]
  · dsimp only
    have hcs : (decide ((i : Int) ≠ (j : Int)) && cs l i j) = !(decide (cO l i j = 0)) := by
      unfold cs
      rw [show ((i : Int)).toNat = i from rfl, show ((j : Int)).toNat = j from rfl]
      by_cases e : i = j
      · subst e
        rw [cO_self]
        simp
      · rw [decide_eq_true (show (i : Int) ≠ (j : Int) by omega), Bool.true_and]
        simp
    rw [hcs]
    by_cases h0 : cO l i j = 0
    · rw [ct h0, decide_eq_true h0]
      refine ⟨_, rfl, ar, ?_, h.skip h0 hj hi⟩
      dsimp only
      rw [Bool.not_true, cond_false, List.append_nil, wrapi (by omega)]
      rfl
    · have hc : i ≠ j ∧ 4 * i + j < l.length ∧ Int.tmod (l.getD (4 * i + j) 0) 3 ≠ 0 := Classical.byContradiction fun hc => h0 (by unfold cO; rw [if_neg hc])
      have hv : cO l i j = 1 + pick (l.getD (4 * i + j) 0) 1000000 := by unfold cO; rw [if_pos hc]
      have hpb := pick_bd (l.getD (4 * i + j) 0) (m := 1000000) (by decide)
      rw [cf h0, decide_eq_false h0, inb_t (by omega) (by omega), cond_true, hn]
      rw [Option.bind_assoc]
      refine bexv (Pick_eq k _ (m := 1000000) (by decide) (by decide)) ?_
      rw [wrapi (show -9223372036854775808 ≤ 1 + pick (l.getD (4 * i + j) 0) 1000000 ∧ 1 + pick (l.getD (4 * i + j) 0) 1000000 < 9223372036854775808 by omega), ← hv, Option.bind_assoc]
      have hb := cO_bd l i j
      refine bexv (ROf_DV hk (n := cO l i j) (by omega) 2) ?_
      rw [om4_get hi, om4_get hj]
      simp only [Option.bind_some]
      have e2 : cl 2 = 2 := rfl
      rw [e2, Option.bind_assoc]
      refine bexv (RNeg_DV hk (i := cO l i j) (s := 2) (by unfold Sm; omega) (by decide)) ?_
      rw [okl (by simp only [List.length_cons, List.length_nil]; omega), cond_true, Option.bind_some]
      refine ⟨_, rfl, put2 ar i j (cO l i j), ?_, h.put hj hi hc.1⟩
      dsimp only
      rw [Bool.not_false, cond_true, wrapi (by omega), wrapi (by omega)]
      rfl
theorem a11_eq {k : Nat} (hk : 602 < k) (l : List Int) (at_ : Int) (out : List Sinter_Pair) (ho : out.length < 900) {i : Nat} (hi : i < 4) {ar : List Tr} (h : Al l i 0 ar) :
    ∃ y, iter (pyxlaw18_InterAlike.l11.once k) k (l, at_, out, (i : Int), 0, om4, ar) = some y ∧ ∃ ar', y = (l, at_, out ++ rowP (cs l) i L4, (i : Int), om4, ar') ∧ Al l i 4 ar' := by
  refine iter_rule (fun x => ∃ (j : Nat) (ar' : List Tr), x = (l, at_, out ++ rowP (cs l) i (L4.take j), (i : Int), (j : Int), om4, ar') ∧ j ≤ 4 ∧ Al l i j ar') (fun x => (4 - x.2.2.2.2.1).toNat) _ (fun x hx => ?_) k _ ⟨0, ar, by
    have e : rowP (cs l) i (L4.take 0) = [] := rfl
    rw [e, List.append_nil]
    rfl, by omega, h⟩ (by dsimp only; omega)
  obtain ⟨j, ar', rfl, hj4, h'⟩ := hx
  by_cases hj : j < 4
  · have hl := rowP_len (cs l) i (L4.take j)
    have hb2 : (L4.take j).length ≤ 4 := by rw [List.length_take]; show min j 4 ≤ 4; omega
    obtain ⟨r, h3, ar2, rfl, hg2⟩ := a11_step hk l at_ (out ++ rowP (cs l) i (L4.take j)) (by rw [List.length_append]; omega) hi hj h'
    refine .inl ⟨_, h3, ⟨j + 1, ar2, ?_, by omega, hg2⟩, by dsimp only; omega⟩
    rw [take_getD 0 (show j < L4.length from hj), rowP_snoc, L4_getD hj, List.append_assoc]
  · have : j = 4 := by omega
    subst this
    exact .inr ⟨_, rfl, ar', rfl, h'⟩
theorem Al.row {l : List Int} {i : Nat} {ar : List Tr} (h : Al l i 4 ar) (hi : i < 4) : Al l (i + 1) 0 ar := by
  have e : ∀ a b, b < 4 → cD l (i + 1) 0 a b = cD l i 4 a b := fun a b hb => by
    unfold cD
    by_cases h2 : a < i + 1 ∨ (a = i + 1 ∧ b < 0)
    · rw [if_pos h2, if_pos (by omega)]
    · rw [if_neg h2, if_neg (by omega)]
  exact ⟨h.len, h.wt, fun a b ha hb => by rw [e a b hb]; exact h.a3 a b ha hb, fun a b ha hb => by rw [e a b hb]; exact h.a6 a b ha hb⟩
theorem a8_eq {k : Nat} (hk : 602 < k) (l : List Int) (at_ : Int) {ar : List Tr} (h : Al l 0 0 ar) :
    ∃ y, iter (pyxlaw18_InterAlike.l8.once k) k (l, at_, [], 0, om4, ar) = some y ∧ ∃ ar', y = (at_, allP (cs l) L4 L4, om4, ar') ∧ Al l 4 0 ar' := by
  refine iter_rule (fun x => ∃ (i : Nat) (ar' : List Tr), x = (l, at_, allP (cs l) (L4.take i) L4, (i : Int), om4, ar') ∧ i ≤ 4 ∧ Al l i 0 ar') (fun x => (4 - x.2.2.2.1).toNat) _ (fun x hx => ?_) k _ ⟨0, ar, rfl, by omega, h⟩ (by dsimp only; omega)
  obtain ⟨i, ar', rfl, hi4, h'⟩ := hx
  by_cases hi : i < 4
  · have hl := allP_len (cs l) (L4.take i) L4
    have hb2 : (L4.take i).length * L4.length ≤ 4 * 4 := Nat.mul_le_mul (by rw [List.length_take]; show min i 4 ≤ 4; omega) (Nat.le_refl _)
    obtain ⟨y, h3, ar2, rfl, hg2⟩ := a11_eq hk l at_ (allP (cs l) (L4.take i) L4) (by omega) hi h'
    refine .inl ⟨(l, at_, allP (cs l) (L4.take (i + 1)) L4, ((i + 1 : Nat) : Int), om4, ar2), ?_, ⟨i + 1, ar2, rfl, by omega, hg2.row hi⟩, by dsimp only; omega⟩
    unfold pyxlaw18_InterAlike.l8.once
    dsimp only
    rw [ct (by omega)]
    refine bof h3 ?_
    dsimp only
    rw [take_getD 0 (show i < L4.length from hi), allP_snoc, L4_getD hi, wrapi (by omega)]
    rfl
  · have : i = 4 := by omega
    subst this
    exact .inr ⟨_, rfl, ar', rfl, h'⟩
theorem a3_eq (l : List Int) (at_ : Int) : iter (pyxlaw18_InterAlike.l3.once 1000) 1000 (l, at_, 0, [], []) = some (l, at_, om4, [[], [], [], []]) := by
  have := iter_seq (once := pyxlaw18_InterAlike.l3.once 1000) (fun t => (l, at_, (t : Int), om4.take t, List.replicate t ([] : Tr))) 4 (fun t ht => ?_) (l, at_, om4, [[], [], [], []]) ?_ 1000 0 (Nat.zero_le _) (by omega)
  · exact this
  · have : t = 0 ∨ t = 1 ∨ t = 2 ∨ t = 3 := by omega
    rcases this with rfl | rfl | rfl | rfl <;> rfl
  · rfl
/-- All owe alike, but for what is more of some. -/
structure Alk (M : Ms) (v : Int → Int → Int) (x : Int → Int → Int) : Prop where
  wm : WM M
  keys : M.map (·.1) = L4
  oA : ∀ i ∈ L4, ∀ j ∈ L4, oA M i j = v i j + x i j
  oL : ∀ i ∈ L4, ∀ j ∈ L4, oL M i j = - v i j
theorem L4_mem {e : Int} : e ∈ L4 ↔ 0 ≤ e ∧ e < 4 := by
  unfold L4
  simp
  omega
theorem L4_ents {M : Ms} (h : M.map (·.1) = L4) : entsOf M = L4 := by
  unfold entsOf
  rw [show List.map (fun p => p.1) M = L4 from h]
  unfold srt_i64
  decide +kernel
theorem Alk.es {M : Ms} {v x : Int → Int → Int} (h : Alk M v x) : Ents M := by
  refine ⟨fun e he => ?_, ?_, ?_⟩
  · rw [L4_ents h.keys] at he
    have := L4_mem.1 he
    exact ⟨by omega, by omega⟩
  · rw [L4_ents h.keys]; decide
  · have := congrArg List.length h.keys
    rw [List.length_map] at this
    rw [this]
    decide
theorem Alk.mt {M : Ms} {v x : Int → Int → Int} (h : Alk M v x) : inter_Matched.f 1000 M = some (allP (mat M) L4 L4) := by
  rw [Matched_eq (by decide) h.wm h.es, L4_ents h.keys]
theorem Alk.op {M : Ms} {v x : Int → Int → Int} (h : Alk M v x) : inter_Open.f 1000 M = some (allP (opn M) L4 L4) := by
  rw [Open_eq (by decide) h.wm h.es, L4_ents h.keys]
theorem mat_iff {M : Ms} {i j : Int} : mat M i j = true ↔ oA M i j + oL M i j = 0 ∧ (oA M i j ≠ 0 ∨ oL M i j ≠ 0) := by
  unfold mat evn som
  simp
theorem opn_iff {M : Ms} {i j : Int} : opn M i j = true ↔ ¬ oA M i j + oL M i j = 0 := by
  unfold opn evn
  simp
theorem alk_of {l : List Int} {ar : List Tr} (h : Al l 4 0 ar) : Alk (resM om4 ar) (fun i j => cO l i.toNat j.toNat) (fun _ _ => 0) := by
  have hg : ∀ i : Int, 0 ≤ i → i < 4 → gT (resM om4 ar) i = ar.getD i.toNat [] := fun i h1 h2 => by
    rw [gT_res]
    have := om4_get (t := i.toNat) (by omega)
    rw [show ((i.toNat : Nat) : Int) = i by omega] at this
    rw [this]
    rfl
  have hd : ∀ a b : Nat, a < 4 → cD l 4 0 a b = cO l a b := fun a b ha => by
    unfold cD
    rw [if_pos (.inl ha)]
  refine ⟨fun p hp => ?_, rfl, fun i hi j hj => ?_, fun i hi j hj => ?_⟩
  · unfold resM at hp
    obtain ⟨q, _, rfl⟩ := List.mem_map.1 hp
    exact wt_at h.wt q.2
  · obtain ⟨i1, i2⟩ := L4_mem.1 hi
    obtain ⟨j1, j2⟩ := L4_mem.1 hj
    unfold oA
    rw [hg i i1 i2]
    have := h.a3 i.toNat j.toNat (by omega) (by omega)
    rw [show ((j.toNat : Nat) : Int) = j by omega, hd _ _ (by omega)] at this
    rw [this, Int.add_zero]
  · obtain ⟨i1, i2⟩ := L4_mem.1 hi
    obtain ⟨j1, j2⟩ := L4_mem.1 hj
    unfold oL
    rw [hg j j1 j2]
    have := h.a6 i.toNat j.toNat (by omega) (by omega)
    rw [show ((i.toNat : Nat) : Int) = i by omega, hd _ _ (by omega)] at this
    exact this
theorem allP_congr {so so' : Int → Int → Bool} {E : List Int} (h : ∀ i ∈ E, ∀ j ∈ E, so i j = so' i j) : allP so E E = allP so' E E := by
  have r : ∀ i ∈ E, rowP so i E = rowP so' i E := fun i hi => by
    unfold rowP
    congr 1
    refine List.filter_congr fun j hj => ?_
    rw [h i hi j hj]
  unfold allP
  have : ∀ L : List Int, (∀ i ∈ L, i ∈ E) → (L.flatMap fun i => rowP so i E) = L.flatMap fun i => rowP so' i E := by
    intro L
    induction L with
    | nil => intro _; rfl
    | cons i L ih =>
      intro hL
      rw [List.flatMap_cons, List.flatMap_cons, r i (hL i List.mem_cons_self), ih fun j hj => hL j (List.mem_cons_of_mem _ hj)]
  exact this E fun _ h => h
theorem allP_false {E : List Int} (L : List Int) : allP (fun _ _ => false) L E = [] := by
  unfold allP rowP
  induction L with
  | nil => rfl
  | cons i L ih =>
    rw [List.flatMap_cons, ih]
    simp
theorem a23_eq (at_ : Int) (L : List Sinter_Pair) (ar : List Tr) (hl : L.length < 900) : iter (pyxlaw18_InterAlike.l23.once 1000) 1000 (at_, L, L, (L.length : Int), 0, om4, ar) = some (.inl (at_, L, om4, ar)) := by
  have := iter_seq (once := pyxlaw18_InterAlike.l23.once 1000) (fun t => (at_, L, L, (L.length : Int), (t : Int), om4, ar)) L.length (fun t ht => ?_) (.inl (at_, L, om4, ar)) ?_ 1000 0 (Nat.zero_le _) (by omega)
  · exact this
  · unfold pyxlaw18_InterAlike.l23.once
    dsimp only
    rw [ct (by omega), inb_t (by omega) (by omega), cond_true, cond_true]
    simp only [beq_self_eq_true, Bool.and_self, Bool.not_true, cond_false]
    rw [wrapi (by omega)]
    rfl
  · unfold pyxlaw18_InterAlike.l23.once
    dsimp only
    rw [cf (by omega)]
theorem InterAlike (a0 : List Int) (w0 : a0.length ≤ 9223372036854775807 ∧ a0.length * 8 ≤ 140737488351232 ∧ ∀ z ∈ a0, (Lit.int .i64 z).wf = true) (a1 : Int) (w1 : (Lit.int .i64 a1).wf = true) : ∃ k, pyxlaw18_InterAlike.f k a0 a1 = some true := by
  refine ⟨1000, ?_⟩
  unfold pyxlaw18_InterAlike.f
  refine bof (a3_eq a0 a1) ?_
  dsimp only
  have hA0 : Al a0 0 0 [[], [], [], []] := by
    have hz : ∀ a b, cD a0 0 0 a b = 0 := fun a b => by
      unfold cD
      rw [if_neg (by omega)]
    have hg : ∀ a : Nat, ([[], [], [], []] : List Tr).getD a [] = [] := fun a => by
      match a with
      | 0 | 1 | 2 | 3 => rfl
      | n + 4 => rfl
    refine ⟨rfl, fun t ht => ?_, fun a b _ _ => by rw [hz, hg]; rfl, fun a b _ _ => by rw [hz, hg]; rfl⟩
    simp at ht
    subst ht
    exact fun q hq => (by cases hq)
  obtain ⟨y, h8, ar, rfl, hA⟩ := a8_eq (k := 1000) (by decide) a0 a1 hA0
  refine bof h8 ?_
  dsimp only
  have hk := alk_of hA
  have hM : List.map (fun p => (p.1, List.getD ar p.2 [])) om4 = resM om4 ar := rfl
  rw [hM]
  have nL4 : L4.Nodup := by decide
  have hmt : allP (mat (resM om4 ar)) L4 L4 = allP (cs a0) L4 L4 := allP_congr fun i hi j hj => by
    rw [Bool.eq_iff_iff, mat_iff, hk.oA i hi j hj, hk.oL i hi j hj]
    unfold cs
    rw [decide_eq_true_eq]
    omega
  have hop : allP (opn (resM om4 ar)) L4 L4 = [] := by
    rw [← allP_false (E := L4) L4]
    refine allP_congr fun i hi j hj => ?_
    rw [Bool.eq_iff_iff, opn_iff, hk.oA i hi j hj, hk.oL i hi j hj]
    constructor
    · intro h; omega
    · intro h; cases h
  have hlen : (allP (cs a0) L4 L4).length ≤ 16 := allP_len (cs a0) L4 L4
  refine bof (hk.mt.trans (congrArg some hmt)) ?_
  have nP := allP_nd (so := cs a0) nL4 nL4
  have mP := fun p => mem_allP (so := cs a0) (L := L4) (E := L4) (p := p)
  generalize hP : allP (cs a0) L4 L4 = P at *
  refine bof (v := (a1, P, P, false, om4, ar)) ?_ ?_
  · refine bof knownI ?_
    rw [Bool.not_true, cond_false]
    refine bof (hk.op.trans (congrArg some hop)) ?_
    simp
  · dsimp only
    rw [cond_false]
    refine bof (a23_eq a1 P ar (by omega)) ?_
    dsimp only
    by_cases h0 : P.length = 0
    · rw [h0]
      rfl
    · rw [show ((P.length : Int) == 0) = false from beq_false_of_ne (by omega), cond_false]
      have hp := pick_bd a1 (m := (P.length : Int)) (by omega)
      refine bof (Pick_eq 1000 a1 (m := (P.length : Int)) (by omega) (by omega)) ?_
      generalize pick a1 (P.length : Int) = q at *
      rw [inb_t hp.1 hp.2, cond_true]
      have hq : P.getD q.toNat Sinter_Pair.zero ∈ P := by
        rw [List.getD_eq_getElem?_getD, List.getElem?_eq_getElem (by omega)]
        exact List.getElem_mem _
      generalize P.getD q.toNat Sinter_Pair.zero = p at *
      obtain ⟨i1, j1, hne, hc⟩ := (mP p).1 hq
      obtain ⟨i0, i4⟩ := L4_mem.1 i1
      obtain ⟨j0, j4⟩ := L4_mem.1 j1
      obtain ⟨i, hi⟩ : ∃ i : Nat, p.f_From = (i : Int) := ⟨p.f_From.toNat, by omega⟩
      obtain ⟨j, hj⟩ : ∃ j : Nat, p.f_To = (j : Int) := ⟨p.f_To.toNat, by omega⟩
      have hc : cO a0 i j ≠ 0 := by
        unfold cs at hc
        rw [hi, hj] at hc
        exact of_decide_eq_true hc
      have hb := cO_bd a0 i j
      rw [hi, hj, om4_get (by omega), wrapi (by omega)]
      have hat : arAt ar (some i) = ar.getD i [] := rfl
      have h3 := hA.a3 i j (by omega) (by omega)
      have hdn : cD a0 4 0 i j = cO a0 i j := by
        unfold cD
        rw [if_pos (.inl (by omega))]
      rw [hdn] at h3
      have hmg : mget (keq_a2_i64 (3, (j : Int) + 1)) (ar.getD i []) = some (DV (cO a0 i j) 2) := by
        obtain ⟨_, h4⟩ := (wt_at hA.wt i).amt (3, (j : Int) + 1)
        cases hm : mget (keq_a2_i64 (3, (j : Int) + 1)) (ar.getD i []) with
        | none =>
          unfold amt at h3
          rw [hm] at h3
          exact absurd h3.symm hc
        | some d => rw [h4 d hm, h3]
      rw [Option.bind_some, hat, hmg]
      simp only [Option.bind_some, Option.getD_some]
      refine bof (ROf_DV (by decide) (n := 1) (by decide) 2) ?_
      refine bof (RAdd2 (by decide) (a := cO a0 i j) (b := 1) (by omega) (by decide)) ?_
      dsimp only
      -- one cent more
      generalize hT : mput (keq_a2_i64 (3, (j : Int) + 1)) (3, (j : Int) + 1) (DV (cO a0 i j + 1) 2) (ar.getD i []) = t at *
      have hk2 : Alk (resM om4 (ar.set i t)) (fun a b => cO a0 a.toNat b.toNat) (fun a b => if a = (i : Int) ∧ b = (j : Int) then 1 else 0) := by
        have hg : ∀ a : Int, 0 ≤ a → a < 4 → gT (resM om4 (ar.set i t)) a = if i = a.toNat then t else gT (resM om4 ar) a := fun a h1 h2 => by
          have h5 := om4_get (t := a.toNat) (by omega)
          rw [show ((a.toNat : Nat) : Int) = a by omega] at h5
          rw [gT_res, gT_res, h5]
          exact getD_set (by rw [hA.len]; omega)
        have hgi : gT (resM om4 ar) (i : Int) = ar.getD i [] := by
          rw [gT_res, om4_get (by omega)]
          rfl
        refine ⟨fun z hz => ?_, rfl, fun a ha b hb' => ?_, fun a ha b hb' => ?_⟩
        · unfold resM at hz
          obtain ⟨z', _, rfl⟩ := List.mem_map.1 hz
          refine wt_at (wt_set hA.wt i ?_) z'.2
          rw [← hT]
          exact WT_put (wt_at hA.wt i) (Wn_of (by omega))
        · obtain ⟨a1', a2'⟩ := L4_mem.1 ha
          have old := hk.oA a ha b hb'
          unfold oA at old ⊢
          rw [hg a a1' a2']
          by_cases e : i = a.toNat
          · have ea : a = (i : Int) := by omega
            rw [if_pos e, ← hT, amt_put]
            rw [ea, hgi] at old
            by_cases e2 : b = (j : Int)
            · rw [e2, if_pos rfl, ea, if_pos ⟨rfl, rfl⟩]
              rfl
            · rw [if_neg (fun h => by have := congrArg Prod.snd h; dsimp only at this; omega), if_neg (fun h => e2 h.2), ea]
              exact old
          · rw [if_neg e, if_neg (fun h => e (by omega))]
            exact old
        · obtain ⟨b1', b2'⟩ := L4_mem.1 hb'
          have old := hk.oL a ha b hb'
          unfold oL at old ⊢
          rw [hg b b1' b2']
          by_cases e : i = b.toNat
          · have eb : b = (i : Int) := by omega
            rw [if_pos e, ← hT, amt_put, if_neg (fun h => by cases h)]
            rw [eb, hgi] at old
            rw [eb]
            exact old
          · rw [if_neg e]
            exact old
      have hM2 : List.map (fun p => (p.1, List.getD (List.set ar i t) p.2 [])) om4 = resM om4 (ar.set i t) := rfl
      rw [hM2]
      have hop2 : allP (opn (resM om4 (ar.set i t))) L4 L4 = [p] := by
        refine List.perm_singleton.1 ((List.perm_ext_iff_of_nodup (allP_nd nL4 nL4) (by simp)).2 fun z => ?_)
        rw [mem_allP, opn_iff, List.mem_singleton]
        constructor
        · rintro ⟨h1, h2, h3, h4⟩
          rw [hk2.oA _ h1 _ h2, hk2.oL _ h1 _ h2] at h4
          by_cases e : z.f_From = (i : Int) ∧ z.f_To = (j : Int)
          · obtain ⟨z1, z2⟩ := z
            obtain ⟨p1, p2⟩ := p
            dsimp only at e hi hj
            rw [e.1, e.2, hi, hj]
          · rw [if_neg e] at h4
            omega
        · rintro rfl
          refine ⟨i1, j1, hne, ?_⟩
          rw [hk2.oA _ i1 _ j1, hk2.oL _ i1 _ j1, if_pos ⟨hi, hj⟩]
          omega
      have hmt2 : (allP (mat (resM om4 (ar.set i t))) L4 L4).length = P.length - 1 := by
        have hpm : (p :: allP (mat (resM om4 (ar.set i t))) L4 L4).Perm P := by
          refine (List.perm_ext_iff_of_nodup ?_ nP).2 fun z => ?_
          · rw [List.nodup_cons]
            refine ⟨fun h => ?_, allP_nd nL4 nL4⟩
            have h4 := (mem_allP.1 h).2.2.2
            rw [mat_iff, hk2.oA _ i1 _ j1, hk2.oL _ i1 _ j1, if_pos ⟨hi, hj⟩] at h4
            omega
          · rw [List.mem_cons, mem_allP, mP, mat_iff]
            constructor
            · rintro (rfl | ⟨h1, h2, h3, h4⟩)
              · exact (mP _).1 hq
              · refine ⟨h1, h2, h3, ?_⟩
                rw [hk2.oA _ h1 _ h2, hk2.oL _ h1 _ h2] at h4
                unfold cs
                refine decide_eq_true ?_
                by_cases e : z.f_From = (i : Int) ∧ z.f_To = (j : Int)
                · rw [if_pos e] at h4; omega
                · rw [if_neg e] at h4; omega
            · rintro ⟨h1, h2, h3, h4⟩
              by_cases e : z.f_From = (i : Int) ∧ z.f_To = (j : Int)
              · left
                obtain ⟨z1, z2⟩ := z
                obtain ⟨p1, p2⟩ := p
                dsimp only at e hi hj
                rw [e.1, e.2, hi, hj]
              · right
                refine ⟨h1, h2, h3, ?_⟩
                rw [hk2.oA _ h1 _ h2, hk2.oL _ h1 _ h2, if_neg e]
                unfold cs at h4
                have := of_decide_eq_true h4
                omega
        have := hpm.length_eq
        rw [List.length_cons] at this
        omega
      refine bof (hk2.op.trans (congrArg some hop2)) ?_
      rw [show ((0 : Int) == 0) = true from rfl, cond_true]
      show cond (((1 : Nat) : Int) == 1) _ _ = _
      rw [show (((1 : Nat) : Int) == 1) = true from rfl, cond_true, show inb 0 [p].length = true from rfl, cond_true]
      show cond ((p.f_From == (i : Int)) && (p.f_To == (j : Int))) _ _ = _
      rw [hi, hj, beq_self_eq_true, beq_self_eq_true, Bool.and_self, cond_true]
      refine bof hk2.mt ?_
      rw [hmt2, wrapi (by omega), show ((P.length - 1 : Nat) : Int) = (P.length : Int) - 1 by omega]
      simp
end
end Go.Proofs.Ytgfbcclfajcjnaa.Pure
