/- Plain laws: Pu, Lm, Dl, Dm, Dt, Dg, Ra, Rb, Dc, Rd, Re, Vl, Hl, En, Lb, Pe, Lr, Lt, Bk, Tz, Tp, Td, Te, Tf, Tg, Ti, Tj, PureTrialAdds. No conditions but size. -/
import Derived.Test.YtbchcjlllddlpaaGreatEvLaw
import Derived.Laws.BitsLemmas
import Derived.ChangeShapes
import Derived.Test.YtbchcjlllddlpaaGreatFs
/- Tools for the plain laws: loops, words of 64 bits, tests. No conditions. -/
namespace Go.Pu
set_option linter.unusedVariables false
set_option linter.unusedSimpArgs false
open Go Go.Ev

theorem iter_step {X Y : Type} {once : X → Option (X ⊕ Y)} {n : Nat} {x x' : X} (h : once x = some (.inl x')) : iter once (n + 1) x = iter once n x' := by
  simp only [iter, h, Option.bind_some]
theorem iter_stop {X Y : Type} {once : X → Option (X ⊕ Y)} {n : Nat} {x : X} {y : Y} (h : once x = some (.inr y)) : iter once (n + 1) x = some y := by
  simp only [iter, h, Option.bind_some]
/-- A loop, by what stays true and what falls. -/
theorem iter_rule {X Y : Type} {once : X → Option (X ⊕ Y)} (Inv : X → Prop) (m : X → Nat) (Q : Y → Prop)
    (h : ∀ x, Inv x → (∃ x', once x = some (.inl x') ∧ Inv x' ∧ m x' < m x) ∨ ∃ y, once x = some (.inr y) ∧ Q y) :
    ∀ (n : Nat) (x : X), Inv x → m x < n → ∃ y, iter once n x = some y ∧ Q y := by
  intro n
  induction n with
  | zero => intro x _ h; omega
  | succ n ih =>
    intro x hx hm
    rcases h x hx with ⟨x', h1, h2, h3⟩ | ⟨y, h1, h2⟩
    · rw [iter_step h1]
      exact ih x' h2 (by omega)
    · exact ⟨y, iter_stop h1, h2⟩
/-- A loop that steps through numbered states. -/
theorem iter_seq {X Y : Type} {once : X → Option (X ⊕ Y)} (s : Nat → X) (N : Nat) (h : ∀ i, i < N → once (s i) = some (.inl (s (i + 1)))) (y : Y) (hy : once (s N) = some (.inr y)) :
    ∀ n i, i ≤ N → N - i < n → iter once n (s i) = some y := by
  intro n
  induction n with
  | zero => intro i _ h; omega
  | succ n ih =>
    intro i hi hn
    by_cases e : i = N
    · subst e; exact iter_stop hy
    · rw [iter_step (h i (by omega))]
      exact ih (i + 1) (by omega) (by omega)
theorem ct {α : Type} {p : Prop} [Decidable p] (h : p) {a b : α} : cond (decide p) a b = a := by rw [decide_eq_true h]; rfl
theorem cf {α : Type} {p : Prop} [Decidable p] (h : ¬ p) {a b : α} : cond (decide p) a b = b := by rw [decide_eq_false h]; rfl
theorem inb_t {i : Int} {n : Nat} (h : 0 ≤ i) (h' : i < n) : inb i n = true := by unfold inb; simp [h, h']
theorem blt_t {i n : Nat} (h : i < n) : Nat.blt i n = true := Nat.ble_eq_true_of_le h
theorem wrapi {n : Int} (h : -9223372036854775808 ≤ n ∧ n < 9223372036854775808) : IntKind.wrap .i64 n = n := by rw [IntKind.wrap_i64]; omega
theorem wrapu {n : Int} (h : 0 ≤ n ∧ n < 18446744073709551616) : IntKind.wrap .u64 n = n := by
  have : IntKind.wrap .u64 n = n % 18446744073709551616 := by simp [IntKind.wrap, IntKind.bits, IntKind.signed]
  rw [this]; omega
theorem wrap64 (n : Int) : IntKind.u64.wrap n = n % 18446744073709551616 := by simp [IntKind.wrap, IntKind.bits, IntKind.signed]
theorem wrap32 (n : Int) : IntKind.u32.wrap n = n % 4294967296 := by simp [IntKind.wrap, IntKind.bits, IntKind.signed]
theorem and64 {a b : Nat} (ha : a < 18446744073709551616) (hb : b < 18446744073709551616) : bits .and .u64 a b = ((a &&& b : Nat) : Int) :=
  (bits_nat .u64 64 (by decide) (fun n h0 h1 => by rw [wrap64]; omega) a b ha hb).1
theorem or64 {a b : Nat} (ha : a < 18446744073709551616) (hb : b < 18446744073709551616) : bits .or .u64 a b = ((a ||| b : Nat) : Int) :=
  (bits_nat .u64 64 (by decide) (fun n h0 h1 => by rw [wrap64]; omega) a b ha hb).2
/-- One of 0 to m - 1. -/
def pick (n m : Int) : Int := if Int.tmod n m < 0 then Int.tmod n m + m else Int.tmod n m
theorem pick_bd (n : Int) {m : Int} (h : 0 < m) : 0 ≤ pick n m ∧ pick n m < m := by
  unfold pick
  have h1 : -m < Int.tmod n m := Int.lt_tmod_of_pos n h
  have h2 := Int.tmod_lt_of_pos n h
  split <;> omega
end Go.Pu
/- Words of 64 bits as whole numbers: their sums, differences, bits. No conditions but that each is below 2^64. -/
namespace Go.Lm
open Go Go.Pu

theorem ofInt64 {a : Nat} (h : a < 18446744073709551616) : (BitVec.ofInt 64 (a : Int)).toNat = a := by
  rw [BitVec.ofInt_natCast, BitVec.toNat_ofNat]
  exact Nat.mod_eq_of_lt h
theorem not64 {a : Nat} (ha : a < 18446744073709551616) : bits .xor .u64 18446744073709551615 a = ((18446744073709551615 - a : Nat) : Int) := by
  have h : (BitVec.ofInt 64 18446744073709551615 ^^^ BitVec.ofInt 64 (a : Int)).toNat = 18446744073709551615 - a := by
    have e : BitVec.ofInt 64 18446744073709551615 = BitVec.allOnes 64 := by decide
    rw [e, BitVec.allOnes_xor, BitVec.toNat_not, ofInt64 ha]
  show IntKind.u64.wrap ((BitVec.ofInt 64 18446744073709551615 ^^^ BitVec.ofInt 64 (a : Int)).toNat : Int) = _
  rw [h, wrap64]
  omega
theorem andNot64 {a b : Nat} (ha : a < 18446744073709551616) (hb : b < 18446744073709551616) : bits .andNot .u64 a b = ((a &&& (18446744073709551615 - b) : Nat) : Int) := by
  have h : (BitVec.ofInt 64 (a : Int) &&& ~~~ BitVec.ofInt 64 (b : Int)).toNat = a &&& (18446744073709551615 - b) := by
    rw [BitVec.toNat_and, BitVec.toNat_not, ofInt64 ha, ofInt64 hb]
  have hl : a &&& (18446744073709551615 - b) < 18446744073709551616 := Nat.lt_of_le_of_lt Nat.and_le_left ha
  show IntKind.u64.wrap ((BitVec.ofInt 64 (a : Int) &&& ~~~ BitVec.ofInt 64 (b : Int)).toNat : Int) = _
  rw [h, wrap64]
  omega
theorem top_bit {n : Nat} (h : n < 18446744073709551616) : n / 2 ^ 63 = 0 ∨ n / 2 ^ 63 = 1 := by omega
theorem fdiv63 (n : Nat) : Int.fdiv (n : Int) (2 ^ 63) = ((n / 2 ^ 63 : Nat) : Int) := by
  rw [show ((2 : Int) ^ 63) = ((2 ^ 63 : Nat) : Int) by decide, Int.fdiv_eq_ediv_of_nonneg _ (Int.natCast_nonneg _)]
  exact (Int.natCast_ediv _ _).symm
/-- The carry of a sum. -/
theorem carry {a b c : Int} (ha : 0 ≤ a ∧ a < 18446744073709551616) (hb : 0 ≤ b ∧ b < 18446744073709551616) (hc : 0 ≤ c ∧ c ≤ 1) :
    Int.fdiv (bits .or .u64 (bits .and .u64 a b) (bits .andNot .u64 (bits .or .u64 a b) ((a + b + c) % 18446744073709551616))) (2 ^ 63) = (a + b + c) / 18446744073709551616 := by
  obtain ⟨x, rfl⟩ := Int.eq_ofNat_of_zero_le ha.1
  obtain ⟨y, rfl⟩ := Int.eq_ofNat_of_zero_le hb.1
  obtain ⟨z, rfl⟩ := Int.eq_ofNat_of_zero_le hc.1
  have hx : x < 18446744073709551616 := by omega
  have hy : y < 18446744073709551616 := by omega
  obtain ⟨s, hs⟩ : ∃ s : Nat, ((x : Int) + y + z) % 18446744073709551616 = (s : Int) := Int.eq_ofNat_of_zero_le (by omega)
  have hsl : s < 18446744073709551616 := by omega
  rw [hs, and64 hx hy, or64 hx hy]
  have ho : x ||| y < 18446744073709551616 := Nat.or_lt_two_pow (n := 64) hx hy
  have hn : x &&& y < 18446744073709551616 := Nat.lt_of_le_of_lt Nat.and_le_left hx
  rw [andNot64 ho hsl]
  rw [or64 hn (Nat.lt_of_le_of_lt Nat.and_le_left ho), fdiv63, Nat.or_div_two_pow, Nat.and_div_two_pow, Nat.and_div_two_pow, Nat.or_div_two_pow]
  rw [show (18446744073709551615 - s) / 2 ^ 63 = 1 - s / 2 ^ 63 by omega]
  have h1 := top_bit hx
  have h2 := top_bit hy
  have h3 := top_bit hsl
  rcases h1 with h1 | h1 <;> rcases h2 with h2 | h2 <;> rcases h3 with h3 | h3 <;> rw [h1, h2, h3] <;> simp <;> omega
/-- The borrow of a difference. -/
theorem borrow {a b c : Int} (ha : 0 ≤ a ∧ a < 18446744073709551616) (hb : 0 ≤ b ∧ b < 18446744073709551616) (hc : 0 ≤ c ∧ c ≤ 1) :
    Int.fdiv (bits .or .u64 (bits .and .u64 (bits .xor .u64 18446744073709551615 a) b) (bits .and .u64 (bits .or .u64 (bits .xor .u64 18446744073709551615 a) b) ((a - b - c) % 18446744073709551616))) (2 ^ 63) = -((a - b - c) / 18446744073709551616) := by
  obtain ⟨x, rfl⟩ := Int.eq_ofNat_of_zero_le ha.1
  obtain ⟨y, rfl⟩ := Int.eq_ofNat_of_zero_le hb.1
  obtain ⟨z, rfl⟩ := Int.eq_ofNat_of_zero_le hc.1
  have hx : x < 18446744073709551616 := by omega
  have hy : y < 18446744073709551616 := by omega
  obtain ⟨s, hs⟩ : ∃ s : Nat, ((x : Int) - y - z) % 18446744073709551616 = (s : Int) := Int.eq_ofNat_of_zero_le (by omega)
  have hsl : s < 18446744073709551616 := by omega
  have hx' : 18446744073709551615 - x < 18446744073709551616 := by omega
  rw [hs, not64 hx, and64 hx' hy, or64 hx' hy]
  have ho : (18446744073709551615 - x) ||| y < 18446744073709551616 := Nat.or_lt_two_pow (n := 64) hx' hy
  have hn : (18446744073709551615 - x) &&& y < 18446744073709551616 := Nat.lt_of_le_of_lt Nat.and_le_left hx'
  rw [and64 ho hsl]
  rw [or64 hn (Nat.lt_of_le_of_lt Nat.and_le_left ho), fdiv63, Nat.or_div_two_pow, Nat.and_div_two_pow, Nat.and_div_two_pow, Nat.or_div_two_pow]
  rw [show (18446744073709551615 - x) / 2 ^ 63 = 1 - x / 2 ^ 63 by omega]
  have h1 := top_bit hx
  have h2 := top_bit hy
  have h3 := top_bit hsl
  rcases h1 with h1 | h1 <;> rcases h2 with h2 | h2 <;> rcases h3 with h3 | h3 <;> rw [h1, h2, h3] <;> simp <;> omega
end Go.Lm
/- What the calls on numbers of two words compute, told by whole numbers. No conditions but that each word is below 2^64. -/
namespace Go.Proofs.YtbchcjlllddlpaaGreat.Pure
open Go Go.Ev Go.Lm Go.Pu

def Wd (n : Int) : Prop := 0 ≤ n ∧ n < 18446744073709551616
def W2 (x : Int × Int) : Prop := Wd x.1 ∧ Wd x.2
def N2 (x : Int × Int) : Int := x.1 + 18446744073709551616 * x.2

theorem N2_inj {x y : Int × Int} (hx : W2 x) (hy : W2 y) (h : N2 x = N2 y) : x = y := by
  obtain ⟨⟨a, b⟩, c, d⟩ := hx
  obtain ⟨⟨e, f⟩, g, i⟩ := hy
  unfold N2 at h
  exact Prod.ext (by omega) (by omega)
theorem N2_bd {x : Int × Int} (hx : W2 x) : 0 ≤ N2 x ∧ N2 x < 340282366920938463463374607431768211456 := by
  obtain ⟨⟨a, b⟩, c, d⟩ := hx
  unfold N2
  omega

theorem plus_eq (k : Nat) {a b c : Int} (ha : Wd a) (hb : Wd b) (hc : 0 ≤ c ∧ c ≤ 1) : limb_plus.f k a b c = some ((a + b + c) % 18446744073709551616, (a + b + c) / 18446744073709551616) := by
  unfold limb_plus.f
  have : IntKind.wrap .u64 (IntKind.wrap .u64 (a + b) + c) = (a + b + c) % 18446744073709551616 := by rw [wrap64, wrap64]; omega
  rw [this, carry ha hb hc]
theorem less_eq (k : Nat) {a b c : Int} (ha : Wd a) (hb : Wd b) (hc : 0 ≤ c ∧ c ≤ 1) : limb_less.f k a b c = some ((a - b - c) % 18446744073709551616, -((a - b - c) / 18446744073709551616)) := by
  unfold limb_less.f
  have : IntKind.wrap .u64 (IntKind.wrap .u64 (a - b) - c) = (a - b - c) % 18446744073709551616 := by rw [wrap64, wrap64]; omega
  rw [this, borrow ha hb hc]

/-- A sum: the number, where it fits. -/
theorem Add_eq (k : Nat) {x y : Int × Int} (hx : W2 x) (hy : W2 y) : ∃ z b, limb_Add.f k x y = some (z, b) ∧ W2 z ∧
    (b = true → N2 z = N2 x + N2 y) ∧ (b = false → z = (0, 0)) ∧ (b = true ↔ N2 x + N2 y < 340282366920938463463374607431768211456) := by
  unfold limb_Add.f
  obtain ⟨hx1, hx2⟩ := hx
  obtain ⟨hy1, hy2⟩ := hy
  rw [plus_eq k hx1 hy1 (by omega), Option.bind_some, plus_eq k hx2 hy2 (by obtain ⟨_, _⟩ := hx1; obtain ⟨_, _⟩ := hy1; constructor <;> omega), Option.bind_some]
  obtain ⟨a, b⟩ := x
  obtain ⟨c, d⟩ := y
  obtain ⟨h1, h2⟩ := hx1
  obtain ⟨h3, h4⟩ := hy1
  obtain ⟨h5, h6⟩ := hx2
  obtain ⟨h7, h8⟩ := hy2
  dsimp only at *
  by_cases h : (b + d + (a + c + 0) / 18446744073709551616) / 18446744073709551616 > 0
  · refine ⟨(0, 0), false, (by rw [decide_eq_true h]; rfl), ⟨⟨by decide, by decide⟩, by decide, by decide⟩, fun h => (by cases h), fun _ => rfl, ?_⟩
    unfold N2
    dsimp only
    constructor
    · intro h; cases h
    · intro h'; omega
  · refine ⟨((a + c + 0) % 18446744073709551616, (b + d + (a + c + 0) / 18446744073709551616) % 18446744073709551616), true, (by rw [decide_eq_false h]; rfl), ⟨⟨(by dsimp only; omega), (by dsimp only; omega)⟩, (by dsimp only; omega), (by dsimp only; omega)⟩, fun _ => ?_, fun h => (by cases h), ?_⟩
    · unfold N2
      dsimp only
      omega
    · unfold N2
      dsimp only
      constructor
      · intro _; omega
      · intro _; rfl
theorem Sub_eq (k : Nat) {x y : Int × Int} (hx : W2 x) (hy : W2 y) : ∃ z b, limb_Sub.f k x y = some (z, b) ∧ W2 z ∧
    (b = true → N2 z = N2 x - N2 y) ∧ (b = false → z = (0, 0)) ∧ (b = true ↔ N2 y ≤ N2 x) := by
  unfold limb_Sub.f
  obtain ⟨hx1, hx2⟩ := hx
  obtain ⟨hy1, hy2⟩ := hy
  rw [less_eq k hx1 hy1 (by omega), Option.bind_some, less_eq k hx2 hy2 (by obtain ⟨_, _⟩ := hx1; obtain ⟨_, _⟩ := hy1; constructor <;> omega), Option.bind_some]
  obtain ⟨a, b⟩ := x
  obtain ⟨c, d⟩ := y
  obtain ⟨h1, h2⟩ := hx1
  obtain ⟨h3, h4⟩ := hy1
  obtain ⟨h5, h6⟩ := hx2
  obtain ⟨h7, h8⟩ := hy2
  dsimp only at *
  by_cases h : -((b - d - -((a - c - 0) / 18446744073709551616)) / 18446744073709551616) > 0
  · refine ⟨(0, 0), false, (by rw [decide_eq_true h]; rfl), ⟨⟨by decide, by decide⟩, by decide, by decide⟩, fun h => (by cases h), fun _ => rfl, ?_⟩
    unfold N2
    dsimp only
    constructor
    · intro h; cases h
    · intro h'; omega
  · refine ⟨((a - c - 0) % 18446744073709551616, (b - d - -((a - c - 0) / 18446744073709551616)) % 18446744073709551616), true, (by rw [decide_eq_false h]; rfl), ⟨⟨(by dsimp only; omega), (by dsimp only; omega)⟩, (by dsimp only; omega), (by dsimp only; omega)⟩, fun _ => ?_, fun h => (by cases h), ?_⟩
    · unfold N2
      dsimp only
      omega
    · unfold N2
      dsimp only
      constructor
      · intro _; omega
      · intro _; rfl
/-- Which is the greater. -/
theorem Cmp_eq (k : Nat) {x y : Int × Int} (hx : W2 x) (hy : W2 y) : limb_Cmp.f (k + 3) x y = some (if N2 x < N2 y then -1 else if N2 x = N2 y then 0 else 1) := by
  obtain ⟨a, b⟩ := x
  obtain ⟨c, d⟩ := y
  obtain ⟨⟨h1, h2⟩, h5, h6⟩ := hx
  obtain ⟨⟨h3, h4⟩, h7, h8⟩ := hy
  dsimp only at *
  have o1 : limb_Cmp.l2.once (k + 3) (1, [a, b], [c, d]) = cond (b != d) (cond (decide (b < d)) (some (.inr (.inr (-1)))) (some (.inr (.inr 1)))) (some (.inl (0, [a, b], [c, d]))) := by kernel_rfl
  have o2 : limb_Cmp.l2.once (k + 3) (0, [a, b], [c, d]) = cond (a != c) (cond (decide (a < c)) (some (.inr (.inr (-1)))) (some (.inr (.inr 1)))) (some (.inl (-1, [a, b], [c, d]))) := by kernel_rfl
  have o3 : limb_Cmp.l2.once (k + 3) (-1, [a, b], [c, d]) = some (.inr (.inl ())) := by kernel_rfl
  unfold limb_Cmp.f N2
  dsimp only
  by_cases e1 : b = d
  · subst e1
    rw [show (b != b) = false by simp, cond_false] at o1
    rw [iter_step o1]
    by_cases e2 : a = c
    · subst e2
      rw [show (a != a) = false by simp, cond_false] at o2
      rw [iter_step o2, iter_stop o3]
      simp
    · rw [show (a != c) = true by simp [e2], cond_true] at o2
      by_cases e3 : a < c
      · rw [decide_eq_true e3, cond_true] at o2
        rw [iter_stop o2, if_pos (by omega)]; rfl
      · rw [decide_eq_false e3, cond_false] at o2
        rw [iter_stop o2, if_neg (by omega), if_neg (by omega)]; rfl
  · rw [show (b != d) = true by simp [e1], cond_true] at o1
    by_cases e3 : b < d
    · rw [decide_eq_true e3, cond_true] at o1
      rw [iter_stop o1, if_pos (by omega)]; rfl
    · rw [decide_eq_false e3, cond_false] at o1
      rw [iter_stop o1, if_neg (by omega), if_neg (by omega)]; rfl
end Go.Proofs.YtbchcjlllddlpaaGreat.Pure
/- The product of two numbers of two words, told by whole numbers. No conditions but that each word is below 2^64. -/
namespace Go.Proofs.YtbchcjlllddlpaaGreat.Pure
set_option linter.unusedVariables false
set_option linter.unusedSimpArgs false
open Go Go.Ev Go.Lm Go.Pu

/-- A number of halves, the lowest first. -/
def V : List Int → Int
  | [] => 0
  | x :: l => x + 4294967296 * V l
def H32 (n : Int) : Prop := 0 ≤ n ∧ n < 4294967296
theorem V_set : ∀ (l : List Int) (a : Nat) (v : Int), a < l.length → V (l.set a v) = V l + (v - l.getD a 0) * 4294967296 ^ a
  | [], a, v, h => by simp at h
  | x :: l, 0, v, h => by simp [V]; omega
  | x :: l, a + 1, v, h => by
    have := V_set l a v (by simpa using h)
    simp only [List.set_cons_succ, V, this, List.getD_cons_succ, Int.pow_succ]
    rw [Int.mul_add]
    have e : (v - l.getD a 0) * (4294967296 ^ a * 4294967296) = 4294967296 * ((v - l.getD a 0) * 4294967296 ^ a) := by rw [← Int.mul_assoc, Int.mul_comm]
    rw [e]
    omega
theorem getD_set0 {α : Type} (l : List α) (i j : Nat) (v d : α) : (l.set i v).getD j d = if i = j ∧ j < l.length then v else l.getD j d := by
  simp only [List.getD_eq_getElem?_getD, List.getElem?_set]
  by_cases h : i = j
  · subst h
    by_cases h2 : i < l.length
    · simp [h2]
    · simp [h2]
  · simp [h]

theorem mul_bd {a b : Int} (ha : H32 a) (hb : H32 b) : 0 ≤ a * b ∧ a * b ≤ 18446744065119617025 := by
  obtain ⟨h1, h2⟩ := ha
  obtain ⟨h3, h4⟩ := hb
  refine ⟨Int.mul_nonneg h1 h3, ?_⟩
  have : a * b ≤ 4294967295 * 4294967295 := Int.mul_le_mul (by omega) (by omega) h3 (by omega)
  omega

theorem Mul_in_step (k : Nat) {p c y0 y1 y2 y3 : Int} (s0 s1 s2 s3 s4 : Int) (L L' : List Int) {out : List Int} {i j : Nat} (hi : i < 4) (hj : j < 4) (hlen : out.length = 8) (hp : H32 p) (hc : H32 c) (hq : H32 ([y0, y1, y2, y3].getD j 0)) (ho : H32 (out.getD (i + j) 0)) :
    limb_Mul.l8.once k ((i : Int), p, c, s0, s1, s2, s3, s4, y0, y1, y2, y3, (j : Int), L, out, L') =
      some (.inl ((i : Int), p, (p * [y0, y1, y2, y3].getD j 0 + out.getD (i + j) 0 + c) / 4294967296, s0, s1, s2, s3, s4, y0, y1, y2, y3, ((j + 1 : Nat) : Int), L, out.set (i + j) ((p * [y0, y1, y2, y3].getD j 0 + out.getD (i + j) 0 + c) % 4294967296), L')) := by
  unfold limb_Mul.l8.once
  dsimp only
  have hw : IntKind.wrap .i64 ((i : Int) + (j : Int)) = ((i + j : Nat) : Int) := by rw [wrapi (by omega)]; omega
  have hw2 : IntKind.wrap .i64 ((j : Int) + 1) = ((j + 1 : Nat) : Int) := by rw [wrapi (by omega)]; omega
  rw [hw, hw2, ct (by omega), inb_t (by omega) (by omega), inb_t (by omega) (by omega), cond_true, cond_true, Int.toNat_natCast, Int.toNat_natCast, blt_t (by omega), cond_true, cond_true, cond_true]
  have hm := mul_bd hp hq
  generalize [y0, y1, y2, y3].getD j 0 = q at *
  generalize out.getD (i + j) 0 = o at *
  obtain ⟨p1, p2⟩ := hp
  obtain ⟨q1, q2⟩ := hq
  obtain ⟨o1, o2⟩ := ho
  obtain ⟨c1, c2⟩ := hc
  rw [wrapu (show 0 ≤ p ∧ p < 18446744073709551616 by omega), wrapu (show 0 ≤ q ∧ q < 18446744073709551616 by omega)]
  generalize p * q = m at *
  rw [wrapu (show 0 ≤ m ∧ m < 18446744073709551616 by omega), wrapu (show 0 ≤ m + o ∧ m + o < 18446744073709551616 by omega), wrapu (show 0 ≤ m + o + c ∧ m + o + c < 18446744073709551616 by omega), wrap32, wrapu (show 0 ≤ (m + o + c) % 4294967296 ∧ (m + o + c) % 4294967296 < 18446744073709551616 by omega)]
  have : Int.fdiv (m + o + c) (2 ^ 32) = (m + o + c) / 4294967296 := by
    rw [show (2 : Int) ^ 32 = 4294967296 by decide, Int.fdiv_eq_ediv_of_nonneg _ (by decide)]
  rw [this]

/-- A row of the product. -/
theorem Mul_row (k : Nat) {p y0 y1 y2 y3 : Int} (s0 s1 s2 s3 s4 : Int) (L L' : List Int) {i : Nat} (hi : i < 4) (hp : H32 p) (hy : ∀ j, j < 4 → H32 ([y0, y1, y2, y3].getD j 0)) {out0 : List Int} (hl0 : out0.length = 8) (h0 : ∀ t, t < 8 → H32 (out0.getD t 0)) (hz : ∀ t, i + 4 ≤ t → t < 8 → out0.getD t 0 = 0) (hk : 4 < k) :
    ∃ (c : Int) (out : List Int), iter (limb_Mul.l8.once k) k ((i : Int), p, 0, s0, s1, s2, s3, s4, y0, y1, y2, y3, 0, L, out0, L') = some ((i : Int), c, s0, s1, s2, s3, s4, L, out, L') ∧ H32 c ∧ out.length = 8 ∧ (∀ t, t < 8 → H32 (out.getD t 0)) ∧
      (∀ t, i + 4 ≤ t → t < 8 → out.getD t 0 = 0) ∧ V out + c * 4294967296 ^ (i + 4) = V out0 + p * V [y0, y1, y2, y3] * 4294967296 ^ i := by
  obtain ⟨y, h1, h2⟩ := iter_rule (once := limb_Mul.l8.once k) (fun x => ∃ (j : Nat) (c : Int) (out : List Int), x = ((i : Int), p, c, s0, s1, s2, s3, s4, y0, y1, y2, y3, (j : Int), L, out, L') ∧ j ≤ 4 ∧ H32 c ∧ out.length = 8 ∧ (∀ t, t < 8 → H32 (out.getD t 0)) ∧
      (∀ t, i + 4 ≤ t → t < 8 → out.getD t 0 = 0) ∧ V out + c * 4294967296 ^ (i + j) = V out0 + p * V ([y0, y1, y2, y3].take j) * 4294967296 ^ i)
    (fun x => 4 - x.2.2.2.2.2.2.2.2.2.2.2.2.1.toNat) (fun r => ∃ (c : Int) (out : List Int), r = ((i : Int), c, s0, s1, s2, s3, s4, L, out, L') ∧ H32 c ∧ out.length = 8 ∧ (∀ t, t < 8 → H32 (out.getD t 0)) ∧
      (∀ t, i + 4 ≤ t → t < 8 → out.getD t 0 = 0) ∧ V out + c * 4294967296 ^ (i + 4) = V out0 + p * V [y0, y1, y2, y3] * 4294967296 ^ i) (by
    rintro _ ⟨j, c, out, rfl, hj, hc, hlen, hb, hzz, hV⟩
    by_cases hlt : j < 4
    · left
      have hq := hy j hlt
      have ho := hb (i + j) (by omega)
      have hm := mul_bd hp hq
      refine ⟨_, Mul_in_step k s0 s1 s2 s3 s4 L L' hi hlt hlen hp hc hq ho, ⟨j + 1, _, _, rfl, by omega, ?_, by simp [hlen], fun t ht => ?_, fun t ht ht8 => ?_, ?_⟩, by dsimp only; omega⟩
      · obtain ⟨o1, o2⟩ := ho
        obtain ⟨c1, c2⟩ := hc
        exact ⟨by omega, by omega⟩
      · rw [getD_set0]
        split
        · exact ⟨by omega, by omega⟩
        · exact hb t ht
      · rw [getD_set0, if_neg (by omega)]
        exact hzz t ht ht8
      · rw [V_set _ _ _ (by omega)]
        have et : V ([y0, y1, y2, y3].take (j + 1)) = V ([y0, y1, y2, y3].take j) + [y0, y1, y2, y3].getD j 0 * 4294967296 ^ j := by
          have hj' : j = 0 ∨ j = 1 ∨ j = 2 ∨ j = 3 := by omega
          rcases hj' with rfl | rfl | rfl | rfl <;> simp [V] <;> omega
        rw [et]
        generalize [y0, y1, y2, y3].getD j 0 = q at *
        generalize out.getD (i + j) 0 = o at *
        generalize V ([y0, y1, y2, y3].take j) = Y at *
        have hd : (p * q + o + c) / 4294967296 * 4294967296 + (p * q + o + c) % 4294967296 = p * q + o + c := by omega
        generalize (p * q + o + c) / 4294967296 = d at *
        generalize (p * q + o + c) % 4294967296 = r at *
        have e1 : (4294967296 : Int) ^ (i + (j + 1)) = 4294967296 ^ (i + j) * 4294967296 := by rw [← Nat.add_assoc, Int.pow_succ]
        have e2 : (4294967296 : Int) ^ (i + j) = 4294967296 ^ i * 4294967296 ^ j := by rw [Int.pow_add]
        rw [e1]
        generalize hP : (4294967296 : Int) ^ (i + j) = P at *
        generalize (4294967296 : Int) ^ i = A at *
        generalize (4294967296 : Int) ^ j = B at *
        subst e2
        have hr : r = p * q + o + c - d * 4294967296 := by omega
        subst hr
        grind
    · right
      have : j = 4 := by omega
      subst this
      refine ⟨((i : Int), c, s0, s1, s2, s3, s4, L, out, L'), ?_, c, out, rfl, hc, hlen, hb, hzz, hV⟩
      unfold limb_Mul.l8.once
      dsimp only
      rw [cf (by omega)]) k ((i : Int), p, 0, s0, s1, s2, s3, s4, y0, y1, y2, y3, 0, L, out0, L') ⟨0, 0, out0, rfl, by omega, ⟨by decide, by decide⟩, hl0, h0, hz, by simp [V]⟩ (by dsimp only; omega)
  obtain ⟨c, out, rfl, h3⟩ := h2
  exact ⟨c, out, h1, h3⟩

def W4 (x : Int × Int × Int × Int) : Prop := Wd x.1 ∧ Wd x.2.1 ∧ Wd x.2.2.1 ∧ Wd x.2.2.2
def N4 (x : Int × Int × Int × Int) : Int := x.1 + 18446744073709551616 * (x.2.1 + 18446744073709551616 * (x.2.2.1 + 18446744073709551616 * x.2.2.2))
theorem or_shift {a b : Int} (ha : H32 a) (hb : H32 b) : bits .or .u64 a (IntKind.wrap .u64 (b * 2 ^ 32)) = a + 4294967296 * b := by
  obtain ⟨x, rfl⟩ := Int.eq_ofNat_of_zero_le ha.1
  obtain ⟨y, rfl⟩ := Int.eq_ofNat_of_zero_le hb.1
  have hx := ha.2
  have hy := hb.2
  rw [show (2 : Int) ^ 32 = 4294967296 by decide, wrapu (by omega), show ((y : Int) * 4294967296) = ((y * 4294967296 : Nat) : Int) by omega, or64 (by omega) (by omega)]
  have := Nat.two_pow_add_eq_or_of_lt (i := 32) (b := x) (by omega) y
  rw [Nat.or_comm, Nat.mul_comm y, ← this]
  omega
theorem list8 {l : List Int} (h : l.length = 8) : ∃ a b c d e f g i, l = [a, b, c, d, e, f, g, i] := by
  match l, h with
  | [a, b, c, d, e, f, g, i], _ => exact ⟨a, b, c, d, e, f, g, i, rfl⟩
theorem Mul_join (k : Nat) (L : List Int) {o0 o1 o2 o3 o4 o5 o6 o7 : Int} (h : ∀ t, t < 8 → H32 ([o0, o1, o2, o3, o4, o5, o6, o7].getD t 0)) (hk : 4 < k) :
    iter (limb_Mul.l18.once k) k (0, L, [o0, o1, o2, o3, o4, o5, o6, o7], [0, 0, 0, 0]) = some (L, [o0 + 4294967296 * o1, o2 + 4294967296 * o3, o4 + 4294967296 * o5, o6 + 4294967296 * o7]) := by
  obtain ⟨k', rfl⟩ : ∃ q, k = q + 5 := ⟨k - 5, by omega⟩
  have h0 : H32 o0 := h 0 (by decide)
  have h1 : H32 o1 := h 1 (by decide)
  have h2 : H32 o2 := h 2 (by decide)
  have h3 : H32 o3 := h 3 (by decide)
  have h4 : H32 o4 := h 4 (by decide)
  have h5 : H32 o5 := h 5 (by decide)
  have h6 : H32 o6 := h 6 (by decide)
  have h7 : H32 o7 := h 7 (by decide)
  have s0 : limb_Mul.l18.once (k' + 5) (0, L, [o0, o1, o2, o3, o4, o5, o6, o7], [0, 0, 0, 0]) = some (.inl (1, L, [o0, o1, o2, o3, o4, o5, o6, o7], [bits .or .u64 o0 (IntKind.wrap .u64 (o1 * 2 ^ 32)), 0, 0, 0])) := by kernel_rfl
  have s1 : ∀ r0 : Int, limb_Mul.l18.once (k' + 5) (1, L, [o0, o1, o2, o3, o4, o5, o6, o7], [r0, 0, 0, 0]) = some (.inl (2, L, [o0, o1, o2, o3, o4, o5, o6, o7], [r0, bits .or .u64 o2 (IntKind.wrap .u64 (o3 * 2 ^ 32)), 0, 0])) := by intro r0; kernel_rfl
  have s2 : ∀ r0 r1 : Int, limb_Mul.l18.once (k' + 5) (2, L, [o0, o1, o2, o3, o4, o5, o6, o7], [r0, r1, 0, 0]) = some (.inl (3, L, [o0, o1, o2, o3, o4, o5, o6, o7], [r0, r1, bits .or .u64 o4 (IntKind.wrap .u64 (o5 * 2 ^ 32)), 0])) := by intro r0 r1; kernel_rfl
  have s3 : ∀ r0 r1 r2 : Int, limb_Mul.l18.once (k' + 5) (3, L, [o0, o1, o2, o3, o4, o5, o6, o7], [r0, r1, r2, 0]) = some (.inl (4, L, [o0, o1, o2, o3, o4, o5, o6, o7], [r0, r1, r2, bits .or .u64 o6 (IntKind.wrap .u64 (o7 * 2 ^ 32))])) := by intro r0 r1 r2; kernel_rfl
  have s4 : ∀ r0 r1 r2 r3 : Int, limb_Mul.l18.once (k' + 5) (4, L, [o0, o1, o2, o3, o4, o5, o6, o7], [r0, r1, r2, r3]) = some (.inr (L, [r0, r1, r2, r3])) := by intro r0 r1 r2 r3; kernel_rfl
  rw [iter_step s0, or_shift h0 h1, iter_step (s1 _), or_shift h2 h3, iter_step (s2 _ _), or_shift h4 h5, iter_step (s3 _ _ _), or_shift h6 h7, iter_stop (s4 _ _ _ _)]
theorem halves_eq (k : Nat) {x : Int × Int} (h : W2 x) : ∃ p0 p1 p2 p3, limb_halves.f k x = some (p0, p1, p2, p3) ∧ H32 p0 ∧ H32 p1 ∧ H32 p2 ∧ H32 p3 ∧ V [p0, p1, p2, p3] = N2 x := by
  obtain ⟨a, b⟩ := x
  obtain ⟨⟨h1, h2⟩, h3, h4⟩ := h
  dsimp only at h1 h2 h3 h4
  unfold limb_halves.f
  dsimp only
  have f : ∀ {z : Int}, 0 ≤ z → Int.fdiv z (2 ^ 32) = z / 4294967296 := fun hz => by
    rw [show (2 : Int) ^ 32 = 4294967296 by decide, Int.fdiv_eq_ediv_of_nonneg _ (by decide)]
  rw [f h1, f h3, wrap32, wrap32, wrap32, wrap32]
  refine ⟨_, _, _, _, rfl, ⟨by omega, by omega⟩, ⟨by omega, by omega⟩, ⟨by omega, by omega⟩, ⟨by omega, by omega⟩, ?_⟩
  simp only [V, N2]
  omega
/-- A product. -/
theorem Mul_eq {k : Nat} (hk : 8 < k) {x y : Int × Int} (hx : W2 x) (hy : W2 y) : ∃ z, limb_Mul.f k x y = some z ∧ W4 z ∧ N4 z = N2 x * N2 y := by
  unfold limb_Mul.f
  obtain ⟨p0, p1, p2, p3, e1, a0, a1, a2, a3, ev⟩ := halves_eq k hx
  obtain ⟨q0, q1, q2, q3, e2, b0, b1, b2, b3, ew⟩ := halves_eq k hy
  rw [Prod.eta, Prod.eta, e1, Option.bind_some, e2, Option.bind_some]
  have hq : ∀ j, j < 4 → H32 ([q0, q1, q2, q3].getD j 0) := fun j hj => by
    have : j = 0 ∨ j = 1 ∨ j = 2 ∨ j = 3 := by omega
    rcases this with rfl | rfl | rfl | rfl <;> assumption
  have hp : ∀ j, j < 4 → H32 ([p0, p1, p2, p3].getD j 0) := fun j hj => by
    have : j = 0 ∨ j = 1 ∨ j = 2 ∨ j = 3 := by omega
    rcases this with rfl | rfl | rfl | rfl <;> assumption
  obtain ⟨r, h1, h2⟩ := iter_rule (once := limb_Mul.l4.once k) (fun s => ∃ (i : Nat) (out : List Int), s = (p0, p1, p2, p3, (i : Int), [0, 0, 0, 0], out, [q0, q1, q2, q3]) ∧ i ≤ 4 ∧ out.length = 8 ∧ (∀ t, t < 8 → H32 (out.getD t 0)) ∧
      (∀ t, i + 4 ≤ t → t < 8 → out.getD t 0 = 0) ∧ V out = V ([p0, p1, p2, p3].take i) * V [q0, q1, q2, q3])
    (fun s => 4 - s.2.2.2.2.1.toNat) (fun r => ∃ out : List Int, r = ([0, 0, 0, 0], out) ∧ out.length = 8 ∧ (∀ t, t < 8 → H32 (out.getD t 0)) ∧ V out = V [p0, p1, p2, p3] * V [q0, q1, q2, q3]) (by
    rintro _ ⟨i, out, rfl, hi, hlen, hb, hz, hV⟩
    by_cases hlt : i < 4
    · left
      obtain ⟨c, out', g1, hc, g2, g3, g4, g5⟩ := Mul_row k p0 p1 p2 p3 (i : Int) [0, 0, 0, 0] [q0, q1, q2, q3] hlt (hp i hlt) hq hlen hb hz (by omega)
      refine ⟨(p0, p1, p2, p3, ((i + 1 : Nat) : Int), [0, 0, 0, 0], out'.set (i + 4) c, [q0, q1, q2, q3]), ?_, ⟨i + 1, _, rfl, by omega, by simp [g2], fun t ht => ?_, fun t ht ht8 => ?_, ?_⟩, by dsimp only; omega⟩
      · unfold limb_Mul.l4.once
        dsimp only
        rw [ct (by omega), inb_t (by omega) (by omega), cond_true, Int.toNat_natCast]
        have e : ([q0, q1, q2, q3].getD 0 0, [q0, q1, q2, q3].getD 1 0, [q0, q1, q2, q3].getD 2 0, [q0, q1, q2, q3].getD 3 0) = (q0, q1, q2, q3) := rfl
        have g1' : iter (limb_Mul.l8.once k) k ((i : Int), [p0, p1, p2, p3].getD i 0, 0, p0, p1, p2, p3, (i : Int), [q0, q1, q2, q3].getD 0 0, [q0, q1, q2, q3].getD 1 0, [q0, q1, q2, q3].getD 2 0, [q0, q1, q2, q3].getD 3 0, 0, [0, 0, 0, 0], out, [q0, q1, q2, q3]) = _ := g1
        rw [g1', Option.bind_some]
        dsimp only
        have hw : IntKind.wrap .i64 ((i : Int) + 4) = ((i + 4 : Nat) : Int) := by rw [wrapi (by omega)]; omega
        have hw2 : IntKind.wrap .i64 ((i : Int) + 1) = ((i + 1 : Nat) : Int) := by rw [wrapi (by omega)]; omega
        rw [hw, hw2, inb_t (by omega) (by omega), cond_true, Int.toNat_natCast, blt_t (by omega), cond_true]
      · rw [getD_set0]
        split
        · exact hc
        · exact g3 t ht
      · rw [getD_set0, if_neg (by omega)]
        exact g4 t (by omega) ht8
      · rw [V_set _ _ _ (by omega), g4 (i + 4) (by omega) (by omega), Int.sub_zero, g5, hV]
        have et : V ([p0, p1, p2, p3].take (i + 1)) = V ([p0, p1, p2, p3].take i) + [p0, p1, p2, p3].getD i 0 * 4294967296 ^ i := by
          have hj' : i = 0 ∨ i = 1 ∨ i = 2 ∨ i = 3 := by omega
          rcases hj' with rfl | rfl | rfl | rfl <;> simp [V] <;> omega
        rw [et]
        generalize [p0, p1, p2, p3].getD i 0 = p
        generalize V ([p0, p1, p2, p3].take i) = X
        generalize V [q0, q1, q2, q3] = Y
        generalize (4294967296 : Int) ^ i = A
        grind
    · right
      have : i = 4 := by omega
      subst this
      refine ⟨([0, 0, 0, 0], out), ?_, out, rfl, hlen, hb, hV⟩
      unfold limb_Mul.l4.once
      dsimp only
      rw [cf (by omega)]) k (p0, p1, p2, p3, 0, [0, 0, 0, 0], [0, 0, 0, 0, 0, 0, 0, 0], [q0, q1, q2, q3]) ⟨0, _, rfl, by omega, rfl, fun t ht => by
        have : ∀ t : Fin 8, H32 (([0, 0, 0, 0, 0, 0, 0, 0] : List Int).getD t.val 0) := by unfold H32; decide
        exact this ⟨t, ht⟩, fun t _ ht => by
        have : ∀ t : Fin 8, ([0, 0, 0, 0, 0, 0, 0, 0] : List Int).getD t.val 0 = 0 := by decide
        exact this ⟨t, ht⟩, by simp [V]⟩ (by dsimp only; omega)
  obtain ⟨out, rfl, g1, g2, g3⟩ := h2
  have h1' : iter (limb_Mul.l4.once k) k ([p0, p1, p2, p3].getD 0 0, [p0, p1, p2, p3].getD 1 0, [p0, p1, p2, p3].getD 2 0, [p0, p1, p2, p3].getD 3 0, 0, [0, 0, 0, 0], [0, 0, 0, 0, 0, 0, 0, 0], [q0, q1, q2, q3]) = _ := h1
  dsimp only
  rw [h1', Option.bind_some]
  obtain ⟨o0, o1, o2, o3, o4, o5, o6, o7, rfl⟩ := list8 g1
  dsimp only
  rw [Mul_join k _ g2 (by omega), Option.bind_some]
  have w : ∀ {a b : Int}, H32 a → H32 b → Wd (a + 4294967296 * b) := fun ⟨_, _⟩ ⟨_, _⟩ => ⟨by omega, by omega⟩
  refine ⟨_, rfl, ⟨w (g2 0 (by decide)) (g2 1 (by decide)), w (g2 2 (by decide)) (g2 3 (by decide)), w (g2 4 (by decide)) (g2 5 (by decide)), w (g2 6 (by decide)) (g2 7 (by decide))⟩, ?_⟩
  rw [← ev, ← ew, ← g3]
  simp only [V, N4, List.getD_cons_zero, List.getD_cons_succ]
  omega
end Go.Proofs.YtbchcjlllddlpaaGreat.Pure
/- Small calls on numbers of words, powers of ten, the raw words of chapter 1's laws. No conditions but that each word is below 2^64. -/
namespace Go.Proofs.YtbchcjlllddlpaaGreat.Pure
set_option linter.unusedVariables false
set_option linter.unusedSimpArgs false
open Go Go.Ev Go.Lm Go.Pu

theorem Pick_eq (k : Nat) (n : Int) {m : Int} (h0 : 0 < m) (h1 : m ≤ 4611686018427387904) : pyxhand_Pick.f k n m = some (pick n m) := by
  unfold pyxhand_Pick.f pick
  rw [show (m == 0) = false by simp; omega, cond_false]
  have h2 : -m < Int.tmod n m := Int.lt_tmod_of_pos n h0
  by_cases h : Int.tmod n m < 0
  · rw [ct h, if_pos h, wrapi (by omega)]
  · rw [cf h, if_neg h]
theorem Wd0 : Wd 0 := ⟨by decide, by decide⟩
theorem W2_of {n : Int} (h : Wd n) : W2 (n, 0) := ⟨h, Wd0⟩
theorem W20 : W2 (0, 0) := ⟨Wd0, Wd0⟩
theorem N2_of (n : Int) : N2 (n, 0) = n := by unfold N2; dsimp only; omega
theorem Of_eq (k : Nat) (n : Int) : limb_Of.f k n = some (n, 0) := rfl
theorem N4_bd {x : Int × Int × Int × Int} (h : W4 x) : 0 ≤ N4 x ∧ N4 x < 115792089237316195423570985008687907853269984665640564039457584007913129639936 := by
  obtain ⟨a, b, c, d⟩ := x
  obtain ⟨⟨_, _⟩, ⟨_, _⟩, ⟨_, _⟩, _, _⟩ := h
  unfold N4
  dsimp only at *
  omega
theorem Short_eq (k : Nat) {x : Int × Int × Int × Int} (h : W4 x) : ∃ z b, limb_Short.f k x = some (z, b) ∧ W2 z ∧ (b = true ↔ N4 x < 340282366920938463463374607431768211456) ∧ (b = true → N2 z = N4 x) ∧ (b = false → z = (0, 0)) := by
  obtain ⟨a, b, c, d⟩ := x
  obtain ⟨⟨h1, h2⟩, ⟨h3, h4⟩, ⟨h5, h6⟩, h7, h8⟩ := h
  dsimp only at *
  unfold limb_Short.f N4
  dsimp only
  by_cases hc : c = 0
  · subst hc
    rw [bne_self_eq_false, cond_false, Option.bind_some]
    dsimp only
    by_cases hd : d = 0
    · subst hd
      rw [bne_self_eq_false, cond_false]
      exact ⟨_, _, rfl, ⟨⟨h1, h2⟩, h3, h4⟩, ⟨fun _ => (by omega), fun _ => rfl⟩, fun _ => (by unfold N2; dsimp only; omega), fun h => (by cases h)⟩
    · rw [show (d != 0) = true by simp [hd], cond_true]
      exact ⟨_, _, rfl, W20, ⟨fun h => (by cases h), fun h => (by omega)⟩, fun h => (by cases h), fun _ => rfl⟩
  · rw [show (c != 0) = true by simp [hc], cond_true, Option.bind_some]
    exact ⟨_, _, rfl, W20, ⟨fun h => (by cases h), fun h => (by omega)⟩, fun h => (by cases h), fun _ => rfl⟩

theorem ten_lt {i : Nat} (h : i ≤ 38) : (10 : Int) ^ i < 340282366920938463463374607431768211456 := by
  have : ∀ i : Fin 39, (10 : Int) ^ i.val < 340282366920938463463374607431768211456 := by decide +kernel
  exact this ⟨i, by omega⟩
/-- A power of ten. -/
theorem Ten_eq {k : Nat} (hk : 60 < k) {i : Nat} (hi : i ≤ 38) : ∃ x, limb_Ten.f k (i : Int) = some (x, true) ∧ W2 x ∧ N2 x = 10 ^ i := by
  unfold limb_Ten.f
  rw [cf (by omega), decide_eq_false (by omega), Option.bind_some]
  dsimp only
  rw [cond_false, Of_eq, Option.bind_some]
  obtain ⟨y, h1, h2⟩ := iter_rule (once := limb_Ten.l5.once k) (fun s => ∃ (j : Nat) (x : Int × Int), s = ((i : Int), (j : Int), 0, 0, x.1, x.2) ∧ j ≤ i ∧ W2 x ∧ N2 x = 10 ^ j) (fun s => i - s.2.1.toNat)
    (fun r => ∃ x : Int × Int, r = (0, 0, x.1, x.2) ∧ W2 x ∧ N2 x = 10 ^ i) (by
    rintro _ ⟨j, x, rfl, hj, hx, hN⟩
    unfold limb_Ten.l5.once
    dsimp only
    by_cases hlt : j < i
    · left
      rw [ct (by omega), Of_eq, Option.bind_some]
      obtain ⟨z, g1, g2, g3⟩ := Mul_eq (k := k) (by omega) hx (W2_of (n := 10) ⟨by decide, by decide⟩)
      rw [N2_of, hN] at g3
      have e1 : limb_Mul.f k (x.1, x.2) (10, 0) = some z := g1
      rw [e1, Option.bind_some]
      obtain ⟨u, b, g4, g5, g6, g7, g8⟩ := Short_eq k g2
      have e2 : limb_Short.f k (z.1, z.2.1, z.2.2.1, z.2.2.2) = some (u, b) := g4
      rw [e2, Option.bind_some]
      have hb : b = true := g6.2 (by rw [g3, ← Int.pow_succ]; exact ten_lt (by omega))
      subst hb
      refine ⟨_, rfl, ⟨j + 1, u, ?_, by omega, g5, by rw [g7 rfl, g3, Int.pow_succ]⟩, ?_⟩
      · simp only [wrapi (show -9223372036854775808 ≤ (j : Int) + 1 ∧ (j : Int) + 1 < 9223372036854775808 by omega)]
        rfl
      · simp only [wrapi (show -9223372036854775808 ≤ (j : Int) + 1 ∧ (j : Int) + 1 < 9223372036854775808 by omega)]
        omega
    · right
      rw [cf (by omega)]
      have : j = i := by omega
      subst this
      exact ⟨_, rfl, x, rfl, hx, hN⟩) k ((i : Int), 0, 0, 0, 1, 0) ⟨0, (1, 0), rfl, by omega, W2_of ⟨by decide, by decide⟩, by rw [N2_of]; rfl⟩ (by dsimp only; omega)
  obtain ⟨x, rfl, h3, h4⟩ := h2
  rw [h1, Option.bind_some]
  exact ⟨x, rfl, h3, h4⟩
end Go.Proofs.YtbchcjlllddlpaaGreat.Pure
/- Numbers as lists of decimal digits, the lowest first. No conditions. -/
namespace Go.Dg
set_option linter.unusedVariables false
set_option linter.unusedSimpArgs false
open Go Go.Ev Go.Pu
def V10 : List Int → Int
  | [] => 0
  | d :: t => d + 10 * V10 t
def D10 (l : List Int) : Prop := ∀ z ∈ l, 0 ≤ z ∧ z < 10
def dig (n : Nat) : List Int := if h : n = 0 then [] else ((n % 10 : Nat) : Int) :: dig (n / 10)
termination_by n
decreasing_by omega
theorem dig_0 : dig 0 = [] := by rw [dig]; rfl
theorem dig_pos {n : Nat} (h : n ≠ 0) : dig n = ((n % 10 : Nat) : Int) :: dig (n / 10) := by rw [dig, dif_neg h]
theorem D10_nil : D10 [] := fun z h => by cases h
theorem D10_cons {d : Int} {l : List Int} (h0 : 0 ≤ d) (h1 : d < 10) (h : D10 l) : D10 (d :: l) := by
  intro z hz
  rcases List.mem_cons.1 hz with rfl | hz
  · exact ⟨h0, h1⟩
  · exact h z hz
theorem D10_tail {d : Int} {l : List Int} (h : D10 (d :: l)) : D10 l := fun z hz => h z (List.mem_cons_of_mem _ hz)
theorem D10_head {d : Int} {l : List Int} (h : D10 (d :: l)) : 0 ≤ d ∧ d < 10 := h d List.mem_cons_self
theorem D10_append {a b : List Int} (h : D10 a) (h' : D10 b) : D10 (a ++ b) := by
  intro z hz
  rcases List.mem_append.1 hz with hz | hz
  · exact h z hz
  · exact h' z hz
theorem D10_left {a b : List Int} (h : D10 (a ++ b)) : D10 a := fun z hz => h z (List.mem_append_left _ hz)
theorem D10_getD {l : List Int} (h : D10 l) (i : Nat) : 0 ≤ l.getD i 0 ∧ l.getD i 0 < 10 := by
  rw [List.getD_eq_getElem?_getD]
  by_cases hi : i < l.length
  · rw [List.getElem?_eq_getElem hi, Option.getD_some]; exact h _ (List.getElem_mem hi)
  · rw [List.getElem?_eq_none (by omega)]; exact ⟨by decide, by decide⟩
theorem D10_set {l : List Int} (h : D10 l) (i : Nat) {d : Int} (h0 : 0 ≤ d) (h1 : d < 10) : D10 (l.set i d) := by
  intro z hz
  rcases List.mem_or_eq_of_mem_set hz with hz | rfl
  · exact h z hz
  · exact ⟨h0, h1⟩
theorem D10_replicate (n : Nat) : D10 (List.replicate n 0) := by
  intro z hz
  rw [(List.mem_replicate.1 hz).2]; exact ⟨by decide, by decide⟩
theorem D10_dig (n : Nat) : D10 (dig n) := by
  induction n using Nat.strongRecOn with
  | ind n ih =>
    by_cases h : n = 0
    · subst h; rw [dig_0]; exact D10_nil
    · rw [dig_pos h]; exact D10_cons (by omega) (by omega) (ih _ (by omega))
theorem V10_dig (n : Nat) : V10 (dig n) = n := by
  induction n using Nat.strongRecOn with
  | ind n ih =>
    by_cases h : n = 0
    · subst h; rw [dig_0]; rfl
    · rw [dig_pos h, V10, ih _ (by omega)]; omega
theorem V10_nonneg {l : List Int} (h : D10 l) : 0 ≤ V10 l := by
  induction l with
  | nil => exact Int.le_refl _
  | cons d t ih =>
    have := ih (D10_tail h)
    have := D10_head h
    rw [V10]; omega
theorem V10_append (a b : List Int) : V10 (a ++ b) = V10 a + 10 ^ a.length * V10 b := by
  induction a with
  | nil => simp [V10]
  | cons d t ih => rw [List.cons_append, V10, ih, V10, List.length_cons]; grind
theorem V10_lt {l : List Int} (h : D10 l) : V10 l < 10 ^ l.length := by
  induction l with
  | nil => simp [V10]
  | cons d t ih =>
    have h1 := ih (D10_tail h)
    have h2 := D10_head h
    rw [V10, List.length_cons, Int.pow_succ]; omega
theorem V10_replicate (n : Nat) : V10 (List.replicate n 0) = 0 := by
  induction n with
  | zero => rfl
  | succ n ih => rw [List.replicate_succ, V10, ih]; rfl
theorem V10_set {l : List Int} {i : Nat} (h : i < l.length) (v : Int) : V10 (l.set i v) = V10 l + (v - l.getD i 0) * 10 ^ i := by
  induction l generalizing i with
  | nil => simp at h
  | cons d t ih =>
    cases i with
    | zero => rw [List.set_cons_zero, V10, V10, List.getD_cons_zero]; simp; omega
    | succ i =>
      rw [List.set_cons_succ, V10, V10, ih (by simp at h; omega), List.getD_cons_succ]; grind
/-- What lies from a place on. -/
theorem V10_drop (l : List Int) (i : Nat) : V10 (l.drop i) = l.getD i 0 + 10 * V10 (l.drop (i + 1)) := by
  by_cases h : i < l.length
  · rw [List.drop_eq_getElem_cons h, V10, List.getD_eq_getElem?_getD, List.getElem?_eq_getElem h]; rfl
  · rw [List.drop_eq_nil_of_le (by omega), List.drop_eq_nil_of_le (by omega), List.getD_eq_getElem?_getD, List.getElem?_eq_none (by omega)]; rfl
theorem V10_drop_all {l : List Int} {i : Nat} (h : l.length ≤ i) : V10 (l.drop i) = 0 := by rw [List.drop_eq_nil_of_le h]; rfl
theorem D10_drop {l : List Int} (h : D10 l) (i : Nat) : D10 (l.drop i) := fun z hz => h z (List.mem_of_mem_drop hz)
theorem D10_take {l : List Int} (h : D10 l) (i : Nat) : D10 (l.take i) := fun z hz => h z (List.mem_of_mem_take hz)
theorem V10_split (l : List Int) {i : Nat} (h : i ≤ l.length) : V10 l = V10 (l.take i) + 10 ^ i * V10 (l.drop i) := by
  have := V10_append (l.take i) (l.drop i)
  rw [List.take_append_drop, List.length_take, Nat.min_eq_left h] at this
  exact this
theorem V10_take_lt {l : List Int} (h : D10 l) {i : Nat} (hi : i ≤ l.length) : V10 (l.take i) < 10 ^ i := by
  have := V10_lt (D10_take h i)
  rw [List.length_take, Nat.min_eq_left hi] at this
  exact this
theorem dig_len {n m : Nat} (h : n < 10 ^ m) : (dig n).length ≤ m := by
  induction m generalizing n with
  | zero => rw [show n = 0 by simp at h; exact h, dig_0]; exact Nat.le_refl _
  | succ m ih =>
    by_cases h0 : n = 0
    · rw [h0, dig_0]; exact Nat.zero_le _
    · rw [dig_pos h0, List.length_cons]
      have := ih (n := n / 10) (by rw [Nat.pow_succ] at h; omega)
      omega
theorem dig_lt (n : Nat) : n < 10 ^ (dig n).length := by
  have h := V10_lt (D10_dig n)
  rw [V10_dig, show (10 : Int) ^ (dig n).length = ((10 ^ (dig n).length : Nat) : Int) by simp] at h
  omega
theorem dig_ge {n : Nat} (h : n ≠ 0) : 10 ^ ((dig n).length - 1) ≤ n := by
  induction n using Nat.strongRecOn with
  | ind n ih =>
    rw [dig_pos h, List.length_cons, Nat.add_sub_cancel]
    by_cases h1 : n / 10 = 0
    · rw [h1, dig_0]; simp; omega
    · have h2 := ih (n / 10) (by omega) h1
      have h3 : (dig (n / 10)).length = (dig (n / 10)).length - 1 + 1 := by rw [dig_pos h1, List.length_cons]; omega
      rw [h3, Nat.pow_succ]; omega
/-- A list of digits with no zero at its end is the number's own. -/
theorem dig_of {l : List Int} (h : D10 l) (hl : l.getLast? ≠ some 0) : l = dig (V10 l).toNat := by
  induction l with
  | nil => rw [V10]; exact dig_0.symm
  | cons d t ih =>
    have h0 := D10_head h
    have h1 := V10_nonneg (D10_tail h)
    have ht : t = dig (V10 t).toNat := by
      refine ih (D10_tail h) ?_
      intro hc
      cases t with
      | nil => cases hc
      | cons e u => exact hl (by rw [List.getLast?_cons_cons]; exact hc)
    have hne : (V10 (d :: t)).toNat ≠ 0 := by
      intro hz
      rw [V10] at hz
      have h2 : V10 t = 0 := by omega
      have h3 : d = 0 := by omega
      rw [h2] at ht
      rw [ht, h3] at hl
      exact hl (by rw [show (0 : Int).toNat = 0 from rfl, dig_0]; rfl)
    rw [dig_pos hne, V10]
    have e1 : (((d + 10 * V10 t).toNat % 10 : Nat) : Int) = d := by omega
    have e2 : (d + 10 * V10 t).toNat / 10 = (V10 t).toNat := by omega
    rw [e1, e2, ← ht]
theorem dig_len_lt {a b : Nat} (h : (dig a).length < (dig b).length) : a < b := by
  have hb : b ≠ 0 := by rintro rfl; rw [dig_0] at h; simp at h
  have h1 := dig_lt a
  have h2 := dig_ge hb
  have h3 := Nat.pow_le_pow_right (show 0 < 10 by decide) (show (dig a).length ≤ (dig b).length - 1 by omega)
  omega
theorem inS_t {a b : Int} {n : Nat} (h0 : 0 ≤ a) (h1 : a ≤ b) (h2 : b ≤ n) : inS a b n = true := by unfold inS; simp [h0, h1, h2]
theorem okLen_t {n b : Nat} (h : n * b ≤ 140737488355328) : okLen n b = true := by unfold okLen; simp [h]
end Go.Dg
/- What the plain sums on lists of digits compute: words, trim, sums, differences, order. No conditions but size. -/
namespace Go.Proofs.YtbchcjlllddlpaaGreat.Pure
set_option linter.unusedVariables false
set_option linter.unusedSimpArgs false
open Go Go.Ev Go.Lm Go.Pu Go.Dg
theorem dig_1 : dig 1 = [1] := by rw [dig_pos (by decide), show 1 / 10 = 0 by decide, dig_0]; rfl
theorem Word_iter (k : Nat) : ∀ (m f n : Nat) (acc : List Int), m < f → n < 10 ^ m → n < 18446744073709551616 → acc.length + m ≤ 1000 → iter (pyxref1_Word.l2.once k) f ((n : Int), acc) = some (acc ++ dig n) := by
  have stop : ∀ (f : Nat) (acc : List Int), 0 < f → iter (pyxref1_Word.l2.once k) f (((0 : Nat) : Int), acc) = some (acc ++ dig 0) := by
    intro f acc hf
    obtain ⟨f, rfl⟩ : ∃ g, f = g + 1 := ⟨f - 1, by omega⟩
    rw [dig_0, List.append_nil]
    refine iter_stop ?_
    unfold pyxref1_Word.l2.once
    rfl
  intro m
  induction m with
  | zero =>
    intro f n acc hf hn _ _
    obtain rfl : n = 0 := by simp at hn; exact hn
    exact stop f acc (by omega)
  | succ m ih =>
    intro f n acc hf hn hn' hl
    by_cases h0 : n = 0
    · subst h0; exact stop f acc (by omega)
    · obtain ⟨f, rfl⟩ : ∃ g, f = g + 1 := ⟨f - 1, by omega⟩
      have once : pyxref1_Word.l2.once k ((n : Int), acc) = some (.inl (((n / 10 : Nat) : Int), acc ++ [((n % 10 : Nat) : Int)])) := by
        unfold pyxref1_Word.l2.once
        dsimp only
        rw [ct (by omega), okLen_t (by simp only [List.length_cons, List.length_nil]; omega), cond_true, show Int.tdiv (n : Int) 10 = ((n / 10 : Nat) : Int) from rfl, show Int.tmod (n : Int) 10 = ((n % 10 : Nat) : Int) from rfl, wrapu (by omega), wrapi (by omega)]
      rw [iter_step once, ih f (n / 10) _ (by omega) (by rw [Nat.pow_succ] at hn; omega) (by omega) (by simp only [List.length_append, List.length_cons, List.length_nil]; omega), dig_pos h0, List.append_assoc]
      rfl
theorem Word_eq {k : Nat} (hk : 30 < k) {n : Nat} (h : n < 18446744073709551616) : pyxref1_Word.f k (n : Int) = some (dig n) := by
  unfold pyxref1_Word.f
  rw [Word_iter k 20 k n [] (by omega) (by omega) h (by simp), Option.bind_some, List.nil_append]
theorem digit_eq (k : Nat) (l : List Int) (i : Nat) : pyxref1_digit.f k l (i : Int) = some (l.getD i 0) := by
  unfold pyxref1_digit.f
  by_cases h : i < l.length
  · rw [ct (by omega), inb_t (by omega) (by omega), cond_true]; rfl
  · rw [cf (by omega), List.getD_eq_getElem?_getD, List.getElem?_eq_none (by omega)]; rfl
theorem trim_iter (k : Nat) : ∀ (n : Nat) (l : List Int), D10 l → l.length ≤ 1000 → l.length < n → iter (pyxref1_trim.l1.once k) n l = some (dig (V10 l).toNat) := by
  intro n
  induction n with
  | zero => intro l _ _ h; omega
  | succ n ih =>
    intro l hd hl hn
    rcases List.eq_nil_or_concat l with rfl | ⟨a, d, rfl⟩
    · rw [V10, show (0 : Int).toNat = 0 from rfl, dig_0]
      exact iter_stop (by unfold pyxref1_trim.l1.once; rfl)
    · rw [List.concat_eq_append] at *
      have hlen : (a ++ [d]).length = a.length + 1 := by simp
      have hg : (a ++ [d]).getD a.length 0 = d := by simp
      have hw : IntKind.wrap .i64 (((a.length + 1 : Nat) : Int) - 1) = (a.length : Int) := by rw [wrapi (by omega)]; omega
      have once : pyxref1_trim.l1.once k (a ++ [d]) = cond (d == 0) (some (.inl a)) (some (.inr (a ++ [d]))) := by
        unfold pyxref1_trim.l1.once
        dsimp only
        rw [hlen, ct (by omega), hw, inb_t (by omega) (by omega), cond_true, Option.bind_some]
        dsimp only
        rw [hlen, hw, Int.toNat_natCast, hg, inS_t (by omega) (by omega) (by omega), cond_true, List.take_left]
      by_cases h0 : d = 0
      · subst h0
        rw [iter_step once, ih a (D10_left hd) (by omega) (by omega), V10_append]
        simp [V10]
      · rw [show (d == 0) = false by simp [h0], cond_false] at once
        rw [iter_stop once]
        exact congrArg some (dig_of hd (by simp [h0]))
theorem trim_eq {k : Nat} {l : List Int} (hd : D10 l) (hl : l.length ≤ 1000) (hk : l.length < k) : pyxref1_trim.f k l = some (dig (V10 l).toNat) := by
  unfold pyxref1_trim.f
  rw [trim_iter k k l hd hl hk, Option.bind_some]
theorem tdiv10 {s : Int} (h : 0 ≤ s) : Int.tdiv s 10 = s / 10 := Int.tdiv_eq_ediv_of_nonneg h
theorem tmod10 {s : Int} (h : 0 ≤ s) : Int.tmod s 10 = s % 10 := Int.tmod_eq_emod_of_nonneg h
theorem AddNat_raw {k : Nat} (hk : 600 < k) {l1 l2 : List Int} (h1 : D10 l1) (h2 : D10 l2) (hl1 : l1.length ≤ 400) (hl2 : l2.length ≤ 400) : pyxref1_AddNat.f k l1 l2 = some (dig (V10 l1 + V10 l2).toNat) := by
  unfold pyxref1_AddNat.f
  obtain ⟨M, hM1, hM2, hM3, hM4⟩ : ∃ M : Nat, l1.length ≤ M ∧ l2.length ≤ M ∧ M ≤ 400 ∧ (M = l1.length ∨ M = l2.length) := ⟨max l1.length l2.length, by omega, by omega, by omega, by omega⟩
  obtain ⟨y, e1, e2, e3, e4⟩ := iter_rule (once := pyxref1_AddNat.l4.once k) (fun x => ∃ (i : Nat) (c : Int) (out : List Int), x = (l1, l2, out, c, (i : Int)) ∧ out.length = i ∧ D10 out ∧ (c = 0 ∨ c = 1) ∧ (i ≤ M ∨ (i = M + 1 ∧ c = 0)) ∧ V10 out + 10 ^ i * (c + V10 (l1.drop i) + V10 (l2.drop i)) = V10 l1 + V10 l2)
    (fun x => M + 1 - x.2.2.2.2.toNat) (fun y => D10 y ∧ y.length ≤ 401 ∧ V10 y = V10 l1 + V10 l2) (by
    rintro x ⟨i, c, out, rfl, ho, hd, hc, hi, hv⟩
    have b1 := D10_getD h1 i
    have b2 := D10_getD h2 i
    by_cases run : i < l1.length ∨ i < l2.length ∨ c > 0
    · left
      have once : pyxref1_AddNat.l4.once k (l1, l2, out, c, (i : Int)) = some (.inl (l1, l2, out ++ [(l1.getD i 0 + l2.getD i 0 + c) % 10], (l1.getD i 0 + l2.getD i 0 + c) / 10, ((i + 1 : Nat) : Int))) := by
        unfold pyxref1_AddNat.l4.once
        dsimp only
        have tail : ∀ (o : Option (List Int × List Int × List Int × Int × Int × Bool)), o = some (l1, l2, out, c, (i : Int), true) → (o.bind fun y12 => (cond (y12.2.2.2.2.2) ((pyxref1_digit.f k y12.1 y12.2.2.2.2.1).bind fun t13 => ((pyxref1_digit.f k y12.2.1 y12.2.2.2.2.1).bind fun t14 => (cond (okLen (List.length y12.2.2.1 + List.length [Int.tmod (IntKind.wrap .i64 ((IntKind.wrap .i64 (t13 + t14)) + y12.2.2.2.1)) 10]) 8) (some (.inl (y12.1, y12.2.1, y12.2.2.1 ++ [Int.tmod (IntKind.wrap .i64 ((IntKind.wrap .i64 (t13 + t14)) + y12.2.2.2.1)) 10], IntKind.wrap .i64 (Int.tdiv (IntKind.wrap .i64 ((IntKind.wrap .i64 (t13 + t14)) + y12.2.2.2.1)) 10), IntKind.wrap .i64 (y12.2.2.2.2.1 + 1)))) none))) (some (.inr y12.2.2.1)))) = some ((.inl (l1, l2, out ++ [(l1.getD i 0 + l2.getD i 0 + c) % 10], (l1.getD i 0 + l2.getD i 0 + c) / 10, ((i + 1 : Nat) : Int))) : (List Int × List Int × List Int × Int × Int) ⊕ (List Int)) := by
          rintro o rfl
          rw [Option.bind_some]
          dsimp only
          rw [cond_true, digit_eq, Option.bind_some, digit_eq, Option.bind_some]
          generalize l1.getD i 0 = p at *
          generalize l2.getD i 0 = q at *
          rw [okLen_t (by simp only [List.length_cons, List.length_nil]; omega), cond_true, wrapi (n := p + q) (by omega), wrapi (n := p + q + c) (by omega), tdiv10 (by omega), tmod10 (by omega), wrapi (n := (p + q + c) / 10) (by omega), wrapi (n := (i : Int) + 1) (by omega)]
          rfl
        refine tail _ ?_
        by_cases r1 : i < l1.length
        · rw [ct (by omega)]
        · rw [cf (by omega)]
          by_cases r2 : i < l2.length
          · rw [ct (by omega)]
          · rw [cf (by omega), decide_eq_true (by omega)]
      refine ⟨_, once, ⟨i + 1, _, _, rfl, by simp [ho], D10_append hd (D10_cons (by omega) (by omega) D10_nil), by omega, ?_, ?_⟩, ?_⟩
      · by_cases hlt : i < M
        · left; omega
        · right
          have g1 : l1.getD i 0 = 0 := by rw [List.getD_eq_getElem?_getD, List.getElem?_eq_none (by omega)]; rfl
          have g2 : l2.getD i 0 = 0 := by rw [List.getD_eq_getElem?_getD, List.getElem?_eq_none (by omega)]; rfl
          rw [g1, g2]; omega
      · rw [V10_append, ho, ← hv, V10_drop l1 i, V10_drop l2 i]
        generalize l1.getD i 0 = p at *
        generalize l2.getD i 0 = q at *
        have := Int.mul_ediv_add_emod (p + q + c) 10
        simp only [V10]
        grind
      · dsimp only; omega
    · right
      refine ⟨out, ?_, hd, by omega, ?_⟩
      · unfold pyxref1_AddNat.l4.once
        dsimp only
        rw [cf (by omega), cf (by omega), decide_eq_false (by omega)]
        rfl
      · rw [V10_drop_all (by omega), V10_drop_all (by omega)] at hv
        rw [← hv, show c = 0 by omega]; simp) k (l1, l2, [], 0, ((0 : Nat) : Int)) ⟨0, 0, [], rfl, rfl, D10_nil, .inl rfl, .inl (by omega), by simp [V10]⟩ (by dsimp only; omega)
  have e1' : iter (pyxref1_AddNat.l4.once k) k (l1, l2, [], 0, 0) = some y := e1
  rw [e1', Option.bind_some, trim_eq e2 (by omega) (by omega), e4, Option.bind_some]
theorem AddNat_eq {k : Nat} (hk : 600 < k) {a b : Nat} (ha : a < 10 ^ 200) (hb : b < 10 ^ 200) : pyxref1_AddNat.f k (dig a) (dig b) = some (dig (a + b)) := by
  have l1 := dig_len ha
  have l2 := dig_len hb
  rw [AddNat_raw hk (D10_dig a) (D10_dig b) (by omega) (by omega), V10_dig, V10_dig]
  exact congrArg (fun z => some (dig z)) (by omega)
theorem SubNat_eq {k : Nat} (hk : 600 < k) {a b : Nat} (ha : a < 10 ^ 200) (hb : b ≤ a) : pyxref1_SubNat.f k (dig a) (dig b) = some (dig (a - b)) := by
  have hl1 := dig_len ha
  have hl2 := dig_len (Nat.lt_of_le_of_lt hb ha)
  have h1 := D10_dig a
  have h2 := D10_dig b
  have v1 := V10_dig a
  have v2 := V10_dig b
  generalize dig a = l1 at *
  generalize dig b = l2 at *
  unfold pyxref1_SubNat.f
  obtain ⟨y, e1, e2, e3, e4⟩ := iter_rule (once := pyxref1_SubNat.l4.once k) (fun x => ∃ (i : Nat) (c : Int) (out : List Int), x = (l1, l2, out, c, (i : Int)) ∧ out.length = i ∧ D10 out ∧ (c = 0 ∨ c = 1) ∧ i ≤ l1.length ∧ V10 out + 10 ^ i * (V10 (l1.drop i) - V10 (l2.drop i) - c) = V10 l1 - V10 l2)
    (fun x => l1.length - x.2.2.2.2.toNat) (fun y => D10 y ∧ y.length ≤ 200 ∧ V10 y = V10 l1 - V10 l2) (by
    rintro x ⟨i, c, out, rfl, ho, hd, hc, hi, hv⟩
    have b1 := D10_getD h1 i
    have b2 := D10_getD h2 i
    by_cases run : i < l1.length
    · left
      have once : pyxref1_SubNat.l4.once k (l1, l2, out, c, (i : Int)) = some (.inl (l1, l2, out ++ [(l1.getD i 0 - l2.getD i 0 - c) % 10], if l1.getD i 0 - l2.getD i 0 - c < 0 then 1 else 0, ((i + 1 : Nat) : Int))) := by
        unfold pyxref1_SubNat.l4.once
        dsimp only
        rw [ct (by omega), inb_t (by omega) (by omega), cond_true, digit_eq, Option.bind_some, Int.toNat_natCast]
        generalize l1.getD i 0 = p at *
        generalize l2.getD i 0 = q at *
        rw [wrapi (n := p - q) (by omega), wrapi (n := p - q - c) (by omega)]
        by_cases hn : p - q - c < 0
        · rw [ct hn, Option.bind_some]
          dsimp only
          rw [wrapi (n := p - q - c + 10) (by omega), okLen_t (by simp only [List.length_cons, List.length_nil]; omega), cond_true, Option.bind_some]
          dsimp only
          rw [wrapi (n := (i : Int) + 1) (by omega), if_pos hn, show (p - q - c) % 10 = p - q - c + 10 by omega]
          rfl
        · rw [cf hn, Option.bind_some]
          dsimp only
          rw [okLen_t (by simp only [List.length_cons, List.length_nil]; omega), cond_true, Option.bind_some]
          dsimp only
          rw [wrapi (n := (i : Int) + 1) (by omega), if_neg hn, show (p - q - c) % 10 = p - q - c by omega]
          rfl
      refine ⟨_, once, ⟨i + 1, _, _, rfl, by simp [ho], D10_append hd (D10_cons (by omega) (by omega) D10_nil), by split <;> omega, by omega, ?_⟩, ?_⟩
      · rw [V10_append, ho, ← hv, V10_drop l1 i, V10_drop l2 i]
        generalize l1.getD i 0 = p at *
        generalize l2.getD i 0 = q at *
        have hs : (p - q - c) % 10 = p - q - c + 10 * (if p - q - c < 0 then 1 else 0) := by split <;> omega
        simp only [V10]
        generalize (if p - q - c < 0 then (1 : Int) else 0) = c' at *
        rw [hs]
        grind
      · dsimp only; omega
    · right
      refine ⟨out, ?_, hd, by omega, ?_⟩
      · unfold pyxref1_SubNat.l4.once
        dsimp only
        rw [cf (by omega)]
      · rw [V10_drop_all (l := l1) (by omega)] at hv
        have p1 := V10_lt hd
        rw [ho] at p1
        have p2 := V10_nonneg (D10_drop h2 i)
        have p3 : 0 < (10 : Int) ^ i := Int.pow_pos (by decide)
        by_cases hz : V10 (l2.drop i) + c = 0
        · rw [← hv, show 0 - V10 (l2.drop i) - c = 0 by omega]; simp
        · exfalso
          have : (10 : Int) ^ i * 1 ≤ 10 ^ i * (V10 (l2.drop i) + c) := Int.mul_le_mul_of_nonneg_left (by omega) (Int.le_of_lt p3)
          have e : (10 : Int) ^ i * (0 - V10 (l2.drop i) - c) = - (10 ^ i * (V10 (l2.drop i) + c)) := by grind
          rw [e] at hv
          omega) k (l1, l2, [], 0, ((0 : Nat) : Int)) ⟨0, 0, [], rfl, rfl, D10_nil, .inl rfl, by omega, by simp [V10]⟩ (by dsimp only; omega)
  have e1' : iter (pyxref1_SubNat.l4.once k) k (l1, l2, [], 0, 0) = some y := e1
  rw [e1', Option.bind_some, trim_eq e2 (by omega) (by omega), e4, Option.bind_some, v1, v2]
  exact congrArg (fun z => some (dig z)) (by omega)
theorem drop_lt {l1 l2 : List Int} (h1 : D10 l1) (h2 : D10 l2) {t : Nat} (t1 : t ≤ l1.length) (t2 : t ≤ l2.length) (h : V10 (l1.drop t) < V10 (l2.drop t)) : V10 l1 < V10 l2 := by
  rw [V10_split l1 t1, V10_split l2 t2]
  have p1 := V10_take_lt h1 t1
  have p2 := V10_nonneg (D10_take h2 t)
  have p3 : 0 < (10 : Int) ^ t := Int.pow_pos (by decide)
  have : (10 : Int) ^ t * (V10 (l1.drop t) + 1) ≤ 10 ^ t * V10 (l2.drop t) := Int.mul_le_mul_of_nonneg_left (by omega) (Int.le_of_lt p3)
  rw [Int.mul_add] at this
  omega
theorem Cmp_iter (k : Nat) {l1 l2 : List Int} (h1 : D10 l1) (h2 : D10 l2) (hl : l1.length = l2.length) (hL : l1.length ≤ 1000) : ∀ (t m : Nat), t ≤ l1.length → t < m → V10 (l1.drop t) = V10 (l2.drop t) →
    (V10 l1 = V10 l2 ∧ iter (pyxref1_CmpNat.l6.once k) m (l1, l2, (t : Int) - 1) = some (.inl ())) ∨ (V10 l1 < V10 l2 ∧ iter (pyxref1_CmpNat.l6.once k) m (l1, l2, (t : Int) - 1) = some (.inr (-1))) ∨ (V10 l2 < V10 l1 ∧ iter (pyxref1_CmpNat.l6.once k) m (l1, l2, (t : Int) - 1) = some (.inr 1)) := by
  intro t
  induction t with
  | zero =>
    intro m _ hm hv
    obtain ⟨m, rfl⟩ : ∃ n, m = n + 1 := ⟨m - 1, by omega⟩
    left
    exact ⟨hv, iter_stop (by unfold pyxref1_CmpNat.l6.once; rfl)⟩
  | succ t ih =>
    intro m ht hm hv
    obtain ⟨m, rfl⟩ : ∃ n, m = n + 1 := ⟨m - 1, by omega⟩
    have once : pyxref1_CmpNat.l6.once k (l1, l2, ((t + 1 : Nat) : Int) - 1) = cond (decide (l1.getD t 0 < l2.getD t 0)) (some (.inr (.inr (-1)))) (cond (decide (l1.getD t 0 > l2.getD t 0)) (some (.inr (.inr 1))) (some (.inl (l1, l2, (t : Int) - 1)))) := by
      unfold pyxref1_CmpNat.l6.once
      dsimp only
      rw [show ((t + 1 : Nat) : Int) - 1 = (t : Int) by omega, ct (by omega), inb_t (by omega) (by omega), cond_true, inb_t (by omega) (by omega), cond_true, Int.toNat_natCast, wrapi (show -9223372036854775808 ≤ (t : Int) - 1 ∧ (t : Int) - 1 < 9223372036854775808 by omega)]
      rfl
    have d1 := V10_drop l1 t
    have d2 := V10_drop l2 t
    by_cases hlt : l1.getD t 0 < l2.getD t 0
    · rw [ct hlt] at once
      right; left
      exact ⟨drop_lt h1 h2 (t := t) (by omega) (by omega) (by omega), iter_stop once⟩
    · rw [cf hlt] at once
      by_cases hgt : l1.getD t 0 > l2.getD t 0
      · rw [ct hgt] at once
        right; right
        exact ⟨drop_lt h2 h1 (t := t) (by omega) (by omega) (by omega), iter_stop once⟩
      · rw [cf hgt] at once
        rw [iter_step once]
        exact ih m (by omega) (by omega) (by omega)
theorem CmpNat_eq {k : Nat} (hk : 600 < k) {a b : Nat} (ha : a < 10 ^ 200) (hb : b < 10 ^ 200) : pyxref1_CmpNat.f k (dig a) (dig b) = some (if a < b then -1 else if a = b then 0 else 1) := by
  have hl1 := dig_len ha
  have hl2 := dig_len hb
  unfold pyxref1_CmpNat.f
  by_cases hl : (dig a).length = (dig b).length
  · rw [show (((dig a).length : Int) != ((dig b).length : Int)) = false by rw [hl]; simp, cond_false, wrapi (by omega)]
    rcases Cmp_iter k (D10_dig a) (D10_dig b) hl (by omega) (dig a).length k (Nat.le_refl _) (by omega) (by rw [V10_drop_all (Nat.le_refl _), V10_drop_all (by omega)]) with ⟨h, e⟩ | ⟨h, e⟩ | ⟨h, e⟩
    all_goals rw [V10_dig, V10_dig] at h; rw [e, Option.bind_some]; dsimp only
    · rw [if_neg (by omega), if_pos (by omega)]
    · rw [if_pos (by omega)]
    · rw [if_neg (by omega), if_neg (by omega)]
  · rw [show (((dig a).length : Int) != ((dig b).length : Int)) = true by simp only [bne_iff_ne, ne_eq]; omega, cond_true]
    by_cases hlt : (dig a).length < (dig b).length
    · rw [ct (by omega), if_pos (dig_len_lt hlt)]
    · have := dig_len_lt (show (dig b).length < (dig a).length by omega)
      rw [cf (by omega), if_neg (by omega), if_neg (by omega)]
theorem radix_eq {k : Nat} (hk : 600 < k) : pyxref1_radix.f k = some (dig 18446744073709551616) := by
  unfold pyxref1_radix.f
  have h : pyxref1_Word.f k 18446744073709551615 = some (dig 18446744073709551615) := Word_eq (by omega) (n := 18446744073709551615) (by decide)
  rw [h, Option.bind_some, ← dig_1, AddNat_eq hk (by omega) (by omega), Option.bind_some]
end Go.Proofs.YtbchcjlllddlpaaGreat.Pure
/- What the plain sums on lists of digits compute: products, quotients, words. No conditions but size. -/
namespace Go.Proofs.YtbchcjlllddlpaaGreat.Pure
set_option linter.unusedVariables false
set_option linter.unusedSimpArgs false
open Go Go.Ev Go.Lm Go.Pu Go.Dg
theorem take_succ10 (l : List Int) {i : Nat} (h : i < l.length) : V10 (l.take (i + 1)) = V10 (l.take i) + 10 ^ i * l.getD i 0 := by
  have e : l.take (i + 1) = l.take i ++ [l.getD i 0] := by rw [List.take_succ_eq_append_getElem h, List.getD_eq_getElem?_getD, List.getElem?_eq_getElem h]; rfl
  rw [e, V10_append, List.length_take, Nat.min_eq_left (by omega)]; simp [V10]
theorem Mul_row10 {k : Nat} (hk : 602 < k) {l1 l2 out0 : List Int} {i : Nat} (h1 : D10 l1) (h2 : D10 l2) (hi : i < l1.length) (h0 : D10 out0) (hL : out0.length = l1.length + l2.length + 1) (hLb : out0.length ≤ 600) (hT : V10 out0 + 10 ^ i * (l1.getD i 0 * V10 l2) < 10 ^ out0.length) :
    ∃ out, iter (pyxref1_MulNat.l7.once k) k (l1, l2, (i : Int), 0, 0, out0) = some (l1, l2, (i : Int), out) ∧ D10 out ∧ out.length = out0.length ∧ V10 out = V10 out0 + 10 ^ i * (l1.getD i 0 * V10 l2) := by
  have hd := D10_getD h1 i
  generalize hdd : l1.getD i 0 = d at *
  generalize hTT : V10 out0 + 10 ^ i * (d * V10 l2) = T at *
  obtain ⟨y, e1, out, rfl, e2, e3, e4⟩ := iter_rule (once := pyxref1_MulNat.l7.once k) (fun x => ∃ (j : Nat) (c : Int) (out : List Int), x = (l1, l2, (i : Int), c, (j : Int), out) ∧ D10 out ∧ out.length = out0.length ∧ 0 ≤ c ∧ c ≤ 9 ∧ i + j ≤ out0.length ∧ V10 out + 10 ^ (i + j) * (c + d * V10 (l2.drop j)) = T)
    (fun x => out0.length - x.2.2.2.2.1.toNat) (fun y => ∃ out, y = (l1, l2, (i : Int), out) ∧ D10 out ∧ out.length = out0.length ∧ V10 out = T) (by
    rintro x ⟨j, c, out, rfl, ho, hlen, hc0, hc9, hij, hv⟩
    have b2 := D10_getD h2 j
    have p1 := V10_nonneg ho
    have p2 := V10_nonneg (D10_drop h2 j)
    have p3 : 0 ≤ d * V10 (l2.drop j) := Int.mul_nonneg hd.1 p2
    by_cases run : j < l2.length ∨ c > 0
    · left
      have hb : i + j < out0.length := by
        rcases run with h | h
        · omega
        · refine Nat.lt_of_not_le fun hle => ?_
          have : i + j = out0.length := by omega
          rw [this] at hv
          have p4 : 0 < (10 : Int) ^ out0.length := Int.pow_pos (by decide)
          have : (10 : Int) ^ out0.length * 1 ≤ 10 ^ out0.length * (c + d * V10 (l2.drop j)) := Int.mul_le_mul_of_nonneg_left (by omega) (Int.le_of_lt p4)
          omega
      have b3 := D10_getD ho (i + j)
      have hdq : 0 ≤ d * l2.getD j 0 ∧ d * l2.getD j 0 ≤ 81 := by
        refine ⟨Int.mul_nonneg hd.1 b2.1, ?_⟩
        have g1 : d * l2.getD j 0 ≤ 9 * l2.getD j 0 := Int.mul_le_mul_of_nonneg_right (by omega) b2.1
        omega
      have once : pyxref1_MulNat.l7.once k (l1, l2, (i : Int), c, (j : Int), out) = some (.inl (l1, l2, (i : Int), (out.getD (i + j) 0 + d * l2.getD j 0 + c) / 10, ((j + 1 : Nat) : Int), out.set (i + j) ((out.getD (i + j) 0 + d * l2.getD j 0 + c) % 10))) := by
        unfold pyxref1_MulNat.l7.once
        dsimp only
        have first : (cond (decide ((j : Int) < (l2.length : Int))) (some (l1, l2, (i : Int), c, (j : Int), true, out)) (some (l1, l2, (i : Int), c, (j : Int), decide (c > 0), out)) : Option (List Int × List Int × Int × Int × Int × Bool × List Int)) = some (l1, l2, (i : Int), c, (j : Int), true, out) := by
          by_cases h : j < l2.length
          · rw [ct (by omega)]
          · rw [cf (by omega), decide_eq_true (by omega)]
        refine (congrArg (Option.bind · _) first).trans ?_
        rw [Option.bind_some]
        dsimp only
        have hw : IntKind.wrap .i64 ((i : Int) + (j : Int)) = ((i + j : Nat) : Int) := by rw [wrapi (by omega)]; omega
        rw [cond_true, hw, inb_t (by omega) (by omega), cond_true, Int.toNat_natCast, blt_t (by omega), cond_true, inb_t (by omega) (by omega), cond_true, digit_eq, Option.bind_some, cond_true, cond_true, Int.toNat_natCast, hdd, wrapi (n := d * l2.getD j 0) (by omega)]
        generalize d * l2.getD j 0 = q at *
        generalize out.getD (i + j) 0 = p at *
        rw [wrapi (n := p + q) (by omega), wrapi (n := p + q + c) (by omega), tdiv10 (by omega), tmod10 (by omega), wrapi (n := (p + q + c) / 10) (by omega), wrapi (n := (j : Int) + 1) (by omega)]
        rfl
      refine ⟨_, once, ⟨j + 1, _, _, rfl, D10_set ho _ (by omega) (by omega), by rw [List.length_set, hlen], by omega, by omega, by omega, ?_⟩, ?_⟩
      · rw [V10_set (by omega), ← hv, V10_drop l2 j]
        generalize l2.getD j 0 = q at *
        generalize out.getD (i + j) 0 = p at *
        have := Int.mul_ediv_add_emod (p + d * q + c) 10
        generalize (p + d * q + c) / 10 = u at *
        generalize (p + d * q + c) % 10 = w at *
        rw [show i + (j + 1) = i + j + 1 by omega, Int.pow_succ]
        generalize (10 : Int) ^ (i + j) = P at *
        grind
      · dsimp only; omega
    · right
      refine ⟨(l1, l2, (i : Int), out), ?_, out, rfl, ho, hlen, ?_⟩
      · unfold pyxref1_MulNat.l7.once
        dsimp only
        rw [cf (by omega), decide_eq_false (by omega)]
        rfl
      · rw [V10_drop_all (by omega)] at hv
        rw [← hv, show c = 0 by omega]; simp) k (l1, l2, (i : Int), 0, ((0 : Nat) : Int), out0) ⟨0, 0, out0, rfl, h0, rfl, by decide, by decide, by omega, by rw [← hTT]; simp⟩ (by dsimp only; omega)
  exact ⟨out, e1, e2, e3, e4⟩
theorem MulNat_eq {k : Nat} (hk : 602 < k) {a b : Nat} (ha : a < 10 ^ 200) (hb : b < 10 ^ 200) : pyxref1_MulNat.f k (dig a) (dig b) = some (dig (a * b)) := by
  have hl1 := dig_len ha
  have hl2 := dig_len hb
  have h1 := D10_dig a
  have h2 := D10_dig b
  have v1 := V10_dig a
  have v2 := V10_dig b
  generalize dig a = l1 at *
  generalize dig b = l2 at *
  unfold pyxref1_MulNat.f
  have hw : IntKind.wrap .i64 (IntKind.wrap .i64 ((l1.length : Int) + (l2.length : Int)) + 1) = ((l1.length + l2.length + 1 : Nat) : Int) := by rw [wrapi (n := (l1.length : Int) + (l2.length : Int)) (by omega), wrapi (by omega)]; omega
  rw [hw, decide_eq_true (show (0 : Int) ≤ ((l1.length + l2.length + 1 : Nat) : Int) by omega), decide_eq_true (show ((l1.length + l2.length + 1 : Nat) : Int) = ((l1.length + l2.length + 1 : Nat) : Int) from rfl), decide_eq_true (show ((l1.length + l2.length + 1 : Nat) : Int) * 8 ≤ 140737488355328 by omega), Bool.and_true, Bool.and_true, cond_true, Int.toNat_natCast]
  generalize hn : l1.length + l2.length + 1 = n at *
  obtain ⟨y, e1, e2, e3, e4⟩ := iter_rule (once := pyxref1_MulNat.l3.once k) (fun x => ∃ (i : Nat) (out : List Int), x = (l1, l2, (i : Int), out) ∧ i ≤ l1.length ∧ D10 out ∧ out.length = n ∧ V10 out = V10 (l1.take i) * V10 l2)
    (fun x => l1.length - x.2.2.1.toNat) (fun y => D10 y ∧ y.length = n ∧ V10 y = V10 l1 * V10 l2) (by
    rintro x ⟨i, out, rfl, hi, ho, hlen, hv⟩
    by_cases run : i < l1.length
    · left
      have htk := take_succ10 l1 run
      have hT : V10 out + 10 ^ i * (l1.getD i 0 * V10 l2) = V10 (l1.take (i + 1)) * V10 l2 := by rw [hv, htk]; grind
      have q1 := V10_nonneg (D10_take h1 (i + 1))
      have q2 := V10_take_lt h1 (i := i + 1) (by omega)
      have q3 := V10_nonneg h2
      have q4 := V10_lt h2
      have q5 : 0 < (10 : Int) ^ l2.length := Int.pow_pos (by decide)
      have q6 : V10 (l1.take (i + 1)) * V10 l2 ≤ V10 (l1.take (i + 1)) * 10 ^ l2.length := Int.mul_le_mul_of_nonneg_left (by omega) q1
      have q7 : V10 (l1.take (i + 1)) * 10 ^ l2.length < 10 ^ (i + 1) * 10 ^ l2.length := Int.mul_lt_mul_of_pos_right q2 q5
      have q8 : (10 : Int) ^ (i + 1) * 10 ^ l2.length ≤ 10 ^ n := by
        rw [← Int.pow_add, show (10 : Int) ^ (i + 1 + l2.length) = ((10 ^ (i + 1 + l2.length) : Nat) : Int) by simp, show (10 : Int) ^ n = ((10 ^ n : Nat) : Int) by simp]
        have := Nat.pow_le_pow_right (show 0 < 10 by decide) (show i + 1 + l2.length ≤ n by omega)
        omega
      obtain ⟨out', r1, r2, r3, r4⟩ := Mul_row10 (k := k) (i := i) hk h1 h2 run ho (by omega) (by omega) (by rw [hT, hlen]; omega)
      refine ⟨(l1, l2, ((i + 1 : Nat) : Int), out'), ?_, ⟨i + 1, out', rfl, by omega, r2, by omega, by rw [r4, hT]⟩, by dsimp only; omega⟩
      unfold pyxref1_MulNat.l3.once
      dsimp only
      rw [ct (by omega), r1, Option.bind_some]
      dsimp only
      rw [wrapi (by omega)]
      rfl
    · right
      refine ⟨out, ?_, ho, hlen, ?_⟩
      · unfold pyxref1_MulNat.l3.once
        dsimp only
        rw [cf (by omega)]
      · rw [hv, List.take_of_length_le (by omega)]) k (l1, l2, ((0 : Nat) : Int), List.replicate n 0) ⟨0, _, rfl, by omega, D10_replicate n, by simp, by rw [V10_replicate]; simp [V10]⟩ (by dsimp only; omega)
  have e1' : iter (pyxref1_MulNat.l3.once k) k (l1, l2, 0, List.replicate n 0) = some y := e1
  rw [e1', Option.bind_some, trim_eq e2 (by omega) (by omega), e4, Option.bind_some, v1, v2, ← Int.natCast_mul, Int.toNat_natCast]
theorem Div_sub {k : Nat} (hk : 602 < k) (l1 : List Int) {a b : Nat} (hb : 0 < b) (hb' : b < 10 ^ 100) (ha : a < 10 * b) {i : Nat} {q : List Int} (hi : i < q.length) (hq : q.getD i 0 = 0) (hqb : q.length ≤ 600) :
    iter (pyxref1_DivNat.l7.once k) k (l1, dig b, dig a, (i : Int), q) = some (l1, dig b, dig (a % b), (i : Int), q.set i ((a / b : Nat) : Int)) := by
  have hq0 : q.set i 0 = q := by
    have : q[i] = 0 := by rw [List.getD_eq_getElem?_getD, List.getElem?_eq_getElem hi] at hq; exact hq
    rw [← this, List.set_getElem_self]
  obtain ⟨y, e1, e2⟩ := iter_rule (once := pyxref1_DivNat.l7.once k) (fun x => ∃ c : Nat, x = (l1, dig b, dig (a - b * c), (i : Int), q.set i (c : Int)) ∧ b * c ≤ a ∧ c ≤ 9)
    (fun x => 10 - (x.2.2.2.2.getD i 0).toNat) (fun y => y = (l1, dig b, dig (a % b), (i : Int), q.set i ((a / b : Nat) : Int))) (by
    rintro x ⟨c, rfl, hc, hc9⟩
    have hlen : (q.set i (c : Int)).length = q.length := List.length_set
    have hg : (q.set i (c : Int)).getD i 0 = (c : Int) := by rw [List.getD_eq_getElem?_getD, List.getElem?_set_self hi, Option.getD_some]
    have hcmp := CmpNat_eq (k := k) (a := a - b * c) (b := b) (by omega) (by omega) (by omega)
    by_cases run : b ≤ a - b * c
    · left
      have hc' : b * (c + 1) ≤ a := by rw [Nat.mul_add]; omega
      have hc9' : c + 1 ≤ 9 := by
        refine Nat.le_of_not_lt fun h => ?_
        have := Nat.mul_le_mul_left b (show 10 ≤ c + 1 by omega)
        omega
      refine ⟨(l1, dig b, dig (a - b * (c + 1)), (i : Int), q.set i ((c + 1 : Nat) : Int)), ?_, ⟨c + 1, rfl, hc', hc9'⟩, ?_⟩
      · unfold pyxref1_DivNat.l7.once
        dsimp only
        rw [hcmp, Option.bind_some, if_neg (by omega)]
        rw [show decide ((if a - b * c = b then (0 : Int) else 1) ≥ 0) = true by split <;> rfl, cond_true, SubNat_eq (by omega) (by omega) run, Option.bind_some, hlen, inb_t (by omega) (by omega), cond_true, Int.toNat_natCast, blt_t hi, cond_true, cond_true, cond_true, hg, List.set_set, wrapi (by omega), Nat.mul_add, Nat.mul_one, Nat.sub_sub]
        rfl
      · dsimp only
        rw [hg, show (q.set i ((c + 1 : Nat) : Int)).getD i 0 = ((c + 1 : Nat) : Int) by rw [List.getD_eq_getElem?_getD, List.getElem?_set_self hi, Option.getD_some]]
        omega
    · right
      have hdiv : a / b = c := Nat.div_eq_of_lt_le (by rw [Nat.mul_comm]; exact hc) (by rw [Nat.succ_mul, Nat.mul_comm]; omega)
      have hmod : a % b = a - b * c := by have := Nat.div_add_mod a b; rw [hdiv] at this; omega
      refine ⟨_, ?_, rfl⟩
      rw [hdiv, hmod]
      unfold pyxref1_DivNat.l7.once
      dsimp only
      rw [hcmp, Option.bind_some, if_pos (by omega)]
      rfl) k (l1, dig b, dig a, (i : Int), q) ⟨0, by rw [Nat.mul_zero, Nat.sub_zero, show ((0 : Nat) : Int) = 0 from rfl, hq0], by omega, by omega⟩ (by dsimp only; omega)
  rw [e1, e2]
theorem DivNat_eq {k : Nat} (hk : 602 < k) {a b : Nat} (ha : a < 10 ^ 200) (hb : 0 < b) (hb' : b < 10 ^ 100) : pyxref1_DivNat.f k (dig a) (dig b) = some (dig (a / b), dig (a % b)) := by
  have hl1 := dig_len ha
  have h1 := D10_dig a
  have v1 := V10_dig a
  generalize dig a = l1 at *
  have hlb := dig_len hb'
  unfold pyxref1_DivNat.f
  rw [decide_eq_true (show (0 : Int) ≤ (l1.length : Int) by omega), decide_eq_true (show (l1.length : Int) = (l1.length : Int) from rfl), decide_eq_true (show (l1.length : Int) * 8 ≤ 140737488355328 by omega), Bool.and_true, Bool.and_true, cond_true, Int.toNat_natCast, wrapi (by omega)]
  obtain ⟨y, e1, r, q, rfl, e2, e3, e4, e5⟩ := iter_rule (once := pyxref1_DivNat.l4.once k) (fun x => ∃ (t r : Nat) (q : List Int), x = (l1, dig b, dig r, (t : Int) - 1, q) ∧ t ≤ l1.length ∧ q.length = l1.length ∧ D10 q ∧ r < b ∧ (∀ j, j < t → q.getD j 0 = 0) ∧ V10 (l1.drop t) = (b : Int) * V10 (q.drop t) + r)
    (fun x => (x.2.2.2.1 + 1).toNat) (fun y => ∃ (r : Nat) (q : List Int), y = (dig r, q) ∧ D10 q ∧ q.length = l1.length ∧ r < b ∧ V10 l1 = (b : Int) * V10 q + r) (by
    rintro x ⟨t, r, q, rfl, ht, hql, hq, hr, hz, hv⟩
    cases t with
    | zero =>
      right
      refine ⟨(dig r, q), ?_, r, q, rfl, hq, hql, hr, hv⟩
      unfold pyxref1_DivNat.l4.once
      rfl
    | succ t =>
      left
      have bd := D10_getD h1 t
      obtain ⟨d, hd⟩ : ∃ d : Nat, l1.getD t 0 = (d : Int) := ⟨(l1.getD t 0).toNat, by omega⟩
      rw [hd] at bd
      have hlr : (dig r).length ≤ 100 := dig_len (by omega)
      have htr : pyxref1_trim.f k ([(d : Int)] ++ dig r) = some (dig (d + 10 * r)) := by
        rw [trim_eq (D10_append (D10_cons bd.1 bd.2 D10_nil) (D10_dig r)) (by simp; omega) (by simp; omega), List.singleton_append, V10, V10_dig]
        exact congrArg (fun z => some (dig z)) (by omega)
      have hsub := Div_sub (k := k) hk l1 hb hb' (a := d + 10 * r) (by omega) (i := t) (q := q) (by omega) (hz t (by omega)) (by omega)
      have hmod := Nat.mod_lt (d + 10 * r) hb
      have hdlt : (d + 10 * r) / b < 10 := by rw [Nat.div_lt_iff_lt_mul hb]; omega
      refine ⟨(l1, dig b, dig ((d + 10 * r) % b), (t : Int) - 1, q.set t (((d + 10 * r) / b : Nat) : Int)), ?_, ⟨t, _, _, rfl, by omega, by rw [List.length_set, hql], D10_set hq _ (Int.natCast_nonneg _) (Int.ofNat_lt.2 hdlt), hmod, ?_, ?_⟩, by dsimp only; omega⟩
      · unfold pyxref1_DivNat.l4.once
        dsimp only
        rw [show ((t + 1 : Nat) : Int) - 1 = (t : Int) by omega, ct (by omega), inb_t (by omega) (by omega), cond_true, Int.toNat_natCast, hd, okLen_t (by simp only [List.length_cons, List.length_nil]; omega), cond_true, htr, Option.bind_some, hsub, Option.bind_some]
        dsimp only
        rw [wrapi (show -9223372036854775808 ≤ (t : Int) - 1 ∧ (t : Int) - 1 < 9223372036854775808 by omega)]
      · intro j hj
        rw [List.getD_eq_getElem?_getD, List.getElem?_set_ne (by omega), ← List.getD_eq_getElem?_getD]
        exact hz j (by omega)
      · have hdr : (q.set t (((d + 10 * r) / b : Nat) : Int)).getD t 0 = (((d + 10 * r) / b : Nat) : Int) := by rw [List.getD_eq_getElem?_getD, List.getElem?_set_self (by omega), Option.getD_some]
        rw [V10_drop l1 t, V10_drop (q.set t _) t, hdr, hd, hv, List.drop_set_of_lt (by omega)]
        have := Nat.div_add_mod (d + 10 * r) b
        generalize (d + 10 * r) / b = u at *
        generalize (d + 10 * r) % b = w at *
        have h2 : (b : Int) * (u : Int) + (w : Int) = (d : Int) + 10 * (r : Int) := by rw [← Int.natCast_mul]; omega
        grind) k (l1, dig b, dig 0, (l1.length : Int) - 1, List.replicate l1.length 0) ⟨l1.length, 0, _, rfl, Nat.le_refl _, by simp, D10_replicate _, hb, fun j hj => by rw [List.getD_eq_getElem?_getD, List.getElem?_replicate, if_pos hj]; rfl, by rw [V10_drop_all (Nat.le_refl _), V10_drop_all (by simp)]; simp⟩ (by dsimp only; omega)
  rw [dig_0] at e1
  have p := V10_nonneg e2
  rw [e1, Option.bind_some, trim_eq e2 (by omega) (by omega), Option.bind_some]
  obtain ⟨n, hn⟩ : ∃ n : Nat, V10 q = (n : Int) := ⟨(V10 q).toNat, by omega⟩
  rw [hn] at e5 ⊢
  rw [v1] at e5
  have e6 : a = b * n + r := by rw [← Int.natCast_mul] at e5; omega
  have h3 : a / b = n := by rw [e6, Nat.mul_add_div hb, Nat.div_eq_of_lt e4, Nat.add_zero]
  have h4 : a % b = r := by rw [e6, Nat.mul_add_mod, Nat.mod_eq_of_lt e4]
  rw [h3, h4, Int.toNat_natCast]
theorem drop_le {l : List Int} (h : D10 l) {t : Nat} (ht : t ≤ l.length) : V10 (l.drop t) ≤ V10 l := by
  rw [V10_split l ht]
  have p1 := V10_nonneg (D10_take h t)
  have p2 := V10_nonneg (D10_drop h t)
  have p3 : 0 < (10 : Int) ^ t := Int.pow_pos (by decide)
  have : 1 * V10 (l.drop t) ≤ 10 ^ t * V10 (l.drop t) := Int.mul_le_mul_of_nonneg_right (by omega) p2
  omega
theorem short_eq {k : Nat} (hk : 602 < k) {n : Nat} (hn : n < 18446744073709551616) : pyxref1_short.f k (dig n) = some (n : Int) := by
  have hl := dig_len (n := n) (m := 20) (by omega)
  have h := D10_dig n
  have v := V10_dig n
  generalize dig n = l at *
  unfold pyxref1_short.f
  rw [wrapi (by omega)]
  obtain ⟨y, e1, e2⟩ := iter_rule (once := pyxref1_short.l3.once k) (fun x => ∃ t : Nat, x = (l, V10 (l.drop t), (t : Int) - 1) ∧ t ≤ l.length) (fun x => (x.2.2 + 1).toNat) (fun y => y = V10 l) (by
    rintro x ⟨t, rfl, ht⟩
    cases t with
    | zero =>
      right
      exact ⟨V10 l, by unfold pyxref1_short.l3.once; rfl, rfl⟩
    | succ t =>
      left
      have p1 := drop_le h ht
      have p2 := drop_le h (t := t) (by omega)
      have p3 := V10_nonneg (D10_drop h (t + 1))
      have p4 := V10_nonneg (D10_drop h t)
      have p5 := D10_getD h t
      have p6 := V10_drop l t
      refine ⟨(l, V10 (l.drop t), (t : Int) - 1), ?_, ⟨t, rfl, by omega⟩, by dsimp only; omega⟩
      unfold pyxref1_short.l3.once
      dsimp only
      rw [show ((t + 1 : Nat) : Int) - 1 = (t : Int) by omega, ct (by omega), inb_t (by omega) (by omega), cond_true, Int.toNat_natCast, wrapu (n := 10 * V10 (l.drop (t + 1))) (by omega), wrapu (n := l.getD t 0) (by omega), wrapu (by omega), wrapi (by omega), p6, Int.add_comm]) k (l, 0, (l.length : Int) - 1) ⟨l.length, by rw [V10_drop_all (Nat.le_refl _)], Nat.le_refl _⟩ (by dsimp only; omega)
  rw [e1, Option.bind_some, e2, v]
theorem Nat2_eq {k : Nat} (hk : 602 < k) {x : Int × Int} (hx : W2 x) {n : Nat} (hn : N2 x = (n : Int)) : pyxref1_Nat2.f k x = some (dig n) := by
  obtain ⟨a, b⟩ := x
  obtain ⟨⟨h1, h2⟩, h3, h4⟩ := hx
  unfold N2 at hn
  dsimp only at *
  obtain ⟨a, rfl⟩ := Int.eq_ofNat_of_zero_le h1
  obtain ⟨b, rfl⟩ := Int.eq_ofNat_of_zero_le h3
  unfold pyxref1_Nat2.f
  dsimp only
  rw [Word_eq (by omega) (by omega), Option.bind_some, radix_eq (by omega), Option.bind_some, MulNat_eq hk (by omega) (by omega), Option.bind_some, Word_eq (by omega) (by omega), Option.bind_some, AddNat_eq (by omega) (by omega) (by omega), Option.bind_some]
  exact congrArg (fun z => some (dig z)) (by omega)
theorem TenNat_eq {k : Nat} {i : Nat} (hi : i ≤ 100) : pyxref1_TenNat.f k (i : Int) = some (dig (10 ^ i)) := by
  unfold pyxref1_TenNat.f
  have hw : IntKind.wrap .i64 ((i : Int) + 1) = ((i + 1 : Nat) : Int) := by rw [wrapi (by omega)]; omega
  rw [hw, decide_eq_true (show (0 : Int) ≤ ((i + 1 : Nat) : Int) by omega), decide_eq_true (show ((i + 1 : Nat) : Int) = ((i + 1 : Nat) : Int) from rfl), decide_eq_true (show ((i + 1 : Nat) : Int) * 8 ≤ 140737488355328 by omega), Bool.and_true, Bool.and_true, cond_true, Int.toNat_natCast, List.length_replicate, inb_t (by omega) (by omega), cond_true, Int.toNat_natCast, blt_t (by omega), cond_true]
  have hd : D10 ((List.replicate (i + 1) (0 : Int)).set i 1) := D10_set (D10_replicate _) _ (by decide) (by decide)
  have hlast : ((List.replicate (i + 1) (0 : Int)).set i 1).getLast? ≠ some 0 := by
    rw [List.getLast?_eq_getElem?, List.length_set, List.length_replicate, Nat.add_sub_cancel, List.getElem?_set_self (by simp)]
    simp
  rw [dig_of hd hlast, V10_set (by simp), V10_replicate]
  have : (List.replicate (i + 1) (0 : Int)).getD i 0 = 0 := by simp [List.getD_eq_getElem?_getD, List.getElem?_replicate]
  rw [this]
  refine congrArg (fun z => some (dig z)) ?_
  rw [show (0 : Int) + (1 - 0) * 10 ^ i = ((10 ^ i : Nat) : Int) by simp, Int.toNat_natCast]
end Go.Proofs.YtbchcjlllddlpaaGreat.Pure
/- What sums on numbers with places after the point compute: the whole of dec's sums, told by whole numbers. No conditions but size. -/
namespace Go.Proofs.YtbchcjlllddlpaaGreat.Pure
set_option linter.unusedVariables false
set_option linter.unusedSimpArgs false
open Go Go.Ev Go.Lm Go.Pu
/-- A number as two words. -/
def w2 (n : Nat) : Int × Int := (((n % 18446744073709551616 : Nat) : Int), ((n / 18446744073709551616 : Nat) : Int))
theorem W2_w2 {n : Nat} (h : n < 340282366920938463463374607431768211456) : W2 (w2 n) := by
  unfold w2 W2 Wd
  dsimp only
  omega
theorem N2_w2 (n : Nat) : N2 (w2 n) = (n : Int) := by
  unfold w2 N2
  dsimp only
  omega
theorem w2_of {x : Int × Int} (h : W2 x) {n : Nat} (hn : N2 x = (n : Int)) : x = w2 n := by
  have hb := N2_bd h
  exact N2_inj h (W2_w2 (by omega)) (by rw [hn, N2_w2])
/-- The number i at s places. -/
def DV (i : Int) (s : Nat) : Sapi_Dec := ⟨decide (i < 0), w2 i.natAbs, (s : Int)⟩
def Sm (i : Int) : Prop := i.natAbs < 1000000000000000000000000000000
def nil0 : Sapi_Dec := ⟨false, (0, 0), 0⟩
/-- The number that a sum is, or the word that it does not fit. -/
def mkD (v : Int) (m : Nat) : Sapi_Dec × Int := if v.natAbs < 1000000000000000000000000000000 then (DV v m, 0) else (nil0, 3)
theorem small_all {k : Nat} (hk : 60 < k) {x : Int × Int} (hx : W2 x) : dec_small.f k x = some (decide (N2 x < 1000000000000000000000000000000)) := by
  unfold dec_small.f dec_ten.f
  obtain ⟨t, t1, t2, t3⟩ := Ten_eq (k := k) hk (i := 30) (by decide)
  have t1' : limb_Ten.f k 30 = some (t, true) := t1
  rw [t1', Option.bind_some, Option.bind_some]
  obtain ⟨j, rfl⟩ : ∃ j, k = j + 3 := ⟨k - 3, by omega⟩
  have e : limb_Cmp.f (j + 3) (x.1, x.2) (t.1, t.2) = _ := Cmp_eq j hx t2
  rw [e, Option.bind_some, t3, show (10 : Int) ^ 30 = 1000000000000000000000000000000 by decide]
  refine congrArg some ?_
  by_cases h : N2 x < 1000000000000000000000000000000
  · rw [if_pos h, decide_eq_true h]; rfl
  · rw [if_neg h, decide_eq_false h]; split <;> rfl
theorem nought_eq (k : Nat) {x : Int × Int} (hx : W2 x) : dec_nought.f k x = some (decide (N2 x = 0)) := by
  unfold dec_nought.f
  obtain ⟨a, b⟩ := x
  obtain ⟨⟨h1, h2⟩, h3, h4⟩ := hx
  dsimp only at *
  refine congrArg some ?_
  unfold N2
  dsimp only
  by_cases ha : a = 0
  · subst ha
    by_cases hb : b = 0
    · subst hb; rfl
    · rw [show ((b == 0) : Bool) = false by simp [hb], Bool.and_false, decide_eq_false (by omega)]
  · rw [show ((a == 0) : Bool) = false by simp [ha], Bool.false_and, decide_eq_false (by omega)]
theorem Sm_w2 {i : Int} (h : Sm i) : W2 (w2 i.natAbs) := W2_w2 (by unfold Sm at h; omega)
theorem Right_DV {k : Nat} (hk : 60 < k) {i : Int} {s : Nat} (hi : Sm i) (hs : s ≤ 9) : dec_Right.f k (DV i s) = some true := by
  unfold dec_Right.f DV
  dsimp only
  have e1 : dec_small.f k ((w2 i.natAbs).1, (w2 i.natAbs).2) = some (decide (N2 (w2 i.natAbs) < 1000000000000000000000000000000)) := small_all hk (Sm_w2 hi)
  have e2 : dec_nought.f k ((w2 i.natAbs).1, (w2 i.natAbs).2) = some (decide (N2 (w2 i.natAbs) = 0)) := nought_eq k (Sm_w2 hi)
  unfold Sm at hi
  rw [e1, Option.bind_some, e2, N2_w2, ct (by omega), ct (by omega), ct (by omega)]
  by_cases h : i < 0
  · rw [ct h, Option.bind_some, decide_eq_false (by omega)]; rfl
  · rw [cf h]
theorem Sign_DV {k : Nat} (hk : 60 < k) {i : Int} {s : Nat} (hi : Sm i) (hs : s ≤ 9) : dec_Sign.f k (DV i s) = some (if i = 0 then 0 else if i < 0 then -1 else 1) := by
  unfold dec_Sign.f
  have h : dec_Right.f k ⟨(DV i s).f_Neg, ((DV i s).f_C.1, (DV i s).f_C.2), (DV i s).f_Scale⟩ = some true := Right_DV hk hi hs
  have e2 : dec_nought.f k ((DV i s).f_C.1, (DV i s).f_C.2) = some (decide (N2 (w2 i.natAbs) = 0)) := nought_eq k (Sm_w2 hi)
  rw [h, Option.bind_some, Bool.not_true, cond_false, e2, Option.bind_some, Option.bind_some, N2_w2]
  dsimp only
  unfold DV
  dsimp only
  by_cases h0 : i = 0
  · rw [ct (by omega), if_pos h0]
  · rw [cf (by omega), if_neg h0]
    by_cases h1 : i < 0
    · rw [ct h1, if_pos h1]
    · rw [cf h1, if_neg h1]
theorem made_eq {k : Nat} (hk : 60 < k) (neg : Bool) {x : Int × Int × Int × Int} (hx : W4 x) (s : Nat) : dec_made.f k neg x (s : Int) = some (mkD (if neg then -(N4 x) else N4 x) s) := by
  unfold dec_made.f mkD
  obtain ⟨z, b, z1, z2, z3, z4, z5⟩ := Short_eq k hx
  have z1' : limb_Short.f k (x.1, x.2.1, x.2.2.1, x.2.2.2) = some (z, b) := z1
  have hb := N4_bd hx
  rw [z1', Option.bind_some]
  have e1 : dec_small.f k (z.1, z.2) = some (decide (N2 z < 1000000000000000000000000000000)) := small_all hk z2
  have e2 : dec_nought.f k (z.1, z.2) = some (decide (N2 z = 0)) := nought_eq k z2
  have hna : (if neg = true then -(N4 x) else N4 x).natAbs = (N4 x).natAbs := by split <;> omega
  rw [hna]
  cases b
  · have : ¬ N4 x < 340282366920938463463374607431768211456 := fun h => by have := z3.2 h; cases this
    rw [Bool.not_false, cond_true, Option.bind_some, if_neg (by omega)]
    rfl
  · have hN := z4 rfl
    rw [Bool.not_true, cond_false, e1, Option.bind_some, Option.bind_some, e2, hN]
    dsimp only
    by_cases h : N4 x < 1000000000000000000000000000000
    · rw [decide_eq_true h, Bool.not_true, cond_false, if_pos (by omega)]
      have hz : z = w2 (N4 x).natAbs := w2_of z2 (by omega)
      unfold DV
      rw [hna, ← hz]
      cases neg
      · rw [cond_false]
        refine congrArg some ?_
        rw [decide_eq_false]
        simp only [Bool.false_eq_true, if_false]
        omega
      · rw [cond_true, Option.bind_some]
        refine congrArg some ?_
        have : (!decide (N4 x = 0)) = decide ((if true = true then -(N4 x) else N4 x) < 0) := by
          rw [if_pos rfl]
          by_cases h0 : N4 x = 0
          · rw [decide_eq_true h0, decide_eq_false (by omega)]; rfl
          · rw [decide_eq_false h0, decide_eq_true (by omega)]; rfl
        rw [this]
    · rw [decide_eq_false h, Bool.not_false, cond_true, if_neg (by omega)]
      rfl
theorem wide_eq {k : Nat} (hk : 60 < k) (n : Bool) {c : Int × Int} (hc : W2 c) {s t : Nat} (hst : s ≤ t) (ht : t ≤ s + 38) (h9 : t ≤ 100) : ∃ z, dec_wide.f k ⟨n, c, (s : Int)⟩ (t : Int) = some z ∧ W4 z ∧ N4 z = N2 c * 10 ^ (t - s) := by
  unfold dec_wide.f dec_ten.f
  dsimp only
  obtain ⟨u, u1, u2, u3⟩ := Ten_eq hk (i := t - s) (by omega)
  rw [wrapi (by omega), show (t : Int) - (s : Int) = ((t - s : Nat) : Int) by omega, u1, Option.bind_some, Option.bind_some]
  obtain ⟨z, z1, z2, z3⟩ := Mul_eq (k := k) (by omega) hc u2
  have z1' : limb_Mul.f k (c.1, c.2) (u.1, u.2) = some z := z1
  dsimp only
  rw [z1', Option.bind_some]
  exact ⟨z, rfl, z2, by rw [z3, u3]⟩
theorem not2 {x : Int × Int} (hx : W2 x) : W2 (bits .xor .u64 18446744073709551615 x.1, bits .xor .u64 18446744073709551615 x.2) ∧ N2 (bits .xor .u64 18446744073709551615 x.1, bits .xor .u64 18446744073709551615 x.2) = 340282366920938463463374607431768211455 - N2 x := by
  obtain ⟨a, b⟩ := x
  obtain ⟨⟨h1, h2⟩, h3, h4⟩ := hx
  dsimp only at *
  obtain ⟨a', rfl⟩ := Int.eq_ofNat_of_zero_le h1
  obtain ⟨b', rfl⟩ := Int.eq_ofNat_of_zero_le h3
  rw [not64 (by omega), not64 (by omega)]
  unfold W2 Wd N2
  dsimp only
  omega
def lo (x : Int × Int × Int × Int) : Int × Int := (x.1, x.2.1)
def hi (x : Int × Int × Int × Int) : Int × Int := (x.2.2.1, x.2.2.2)
theorem N4_halves (x : Int × Int × Int × Int) : N4 x = N2 (lo x) + 340282366920938463463374607431768211456 * N2 (hi x) := by
  unfold N4 N2 lo hi
  dsimp only
  omega
theorem W2_lo {x : Int × Int × Int × Int} (h : W4 x) : W2 (lo x) := ⟨h.1, h.2.1⟩
theorem W2_hi {x : Int × Int × Int × Int} (h : W4 x) : W2 (hi x) := ⟨h.2.2.1, h.2.2.2⟩
theorem W2_one : W2 (1, 0) := W2_of ⟨by decide, by decide⟩
theorem plus4 (k : Nat) {x y : Int × Int × Int × Int} (hx : W4 x) (hy : W4 y) (bx : N4 x < 28948022309329048855892746252171976963317496166410141009864396001978282409984) (by_ : N4 y < 28948022309329048855892746252171976963317496166410141009864396001978282409984) :
    ∃ z, dec_plus.f k x y = some z ∧ W4 z ∧ N4 z = N4 x + N4 y := by
  have h1 := N4_halves x
  have h2 := N4_halves y
  have l1 := N2_bd (W2_lo hx)
  have l2 := N2_bd (W2_lo hy)
  have m1 := N2_bd (W2_hi hx)
  have m2 := N2_bd (W2_hi hy)
  unfold dec_plus.f dec_halves.f
  rw [Option.bind_some, Option.bind_some]
  dsimp only
  obtain ⟨a, b, a1, a2, a3, a4, a5⟩ := Add_eq k (W2_hi hx) (W2_hi hy)
  obtain rfl : b = true := a5.2 (by omega)
  have a1' : limb_Add.f k (x.2.2.1, x.2.2.2) (y.2.2.1, y.2.2.2) = some (a, true) := a1
  have a3 := a3 rfl
  obtain ⟨c, e, c1, c2, c3, c4, c5⟩ := Add_eq k (W2_lo hx) (W2_lo hy)
  have c1' : limb_Add.f k (x.1, x.2.1) (y.1, y.2.1) = some (c, e) := c1
  rw [a1', Option.bind_some, c1', Option.bind_some]
  cases e
  · have hov : ¬ N2 (lo x) + N2 (lo y) < 340282366920938463463374607431768211456 := fun h => by have := c5.2 h; cases this
    rw [Bool.not_false, cond_true]
    obtain ⟨n1, n2⟩ := not2 (W2_lo hx)
    obtain ⟨d, f, d1, d2, d3, d4, d5⟩ := Sub_eq k (W2_lo hy) n1
    obtain rfl : f = true := d5.2 (by omega)
    have d1' : limb_Sub.f k (y.1, y.2.1) (bits .xor .u64 18446744073709551615 x.1, bits .xor .u64 18446744073709551615 x.2.1) = some (d, true) := d1
    have d3 := d3 rfl
    rw [d1', Option.bind_some, Of_eq, Option.bind_some]
    obtain ⟨g, f, g1, g2, g3, g4, g5⟩ := Sub_eq k d2 W2_one
    have hone : N2 (1, 0) = 1 := N2_of 1
    obtain rfl : f = true := g5.2 (by omega)
    have g1' : limb_Sub.f k (d.1, d.2) (1, 0) = some (g, true) := g1
    have g3 := g3 rfl
    dsimp only
    rw [g1', Option.bind_some, Option.bind_some]
    obtain ⟨u, f, u1, u2, u3, u4, u5⟩ := Add_eq k a2 W2_one
    obtain rfl : f = true := u5.2 (by omega)
    have u1' : limb_Add.f k (a.1, a.2) (1, 0) = some (u, true) := u1
    have u3 := u3 rfl
    rw [u1', Option.bind_some, Option.bind_some]
    refine ⟨_, rfl, ⟨g2.1, g2.2, u2.1, u2.2⟩, ?_⟩
    rw [N4_halves]
    show N2 g + 340282366920938463463374607431768211456 * N2 u = _
    omega
  · rw [Bool.not_true, cond_false, Option.bind_some]
    have c3 := c3 rfl
    refine ⟨_, rfl, ⟨c2.1, c2.2, a2.1, a2.2⟩, ?_⟩
    rw [N4_halves]
    show N2 c + 340282366920938463463374607431768211456 * N2 a = _
    omega
theorem less4 (k : Nat) {x y : Int × Int × Int × Int} (hx : W4 x) (hy : W4 y) (h : N4 y ≤ N4 x) :
    ∃ z, dec_less.f k x y = some z ∧ W4 z ∧ N4 z = N4 x - N4 y := by
  have h1 := N4_halves x
  have h2 := N4_halves y
  have l1 := N2_bd (W2_lo hx)
  have l2 := N2_bd (W2_lo hy)
  have m1 := N2_bd (W2_hi hx)
  have m2 := N2_bd (W2_hi hy)
  unfold dec_less.f dec_halves.f
  rw [Option.bind_some, Option.bind_some]
  dsimp only
  obtain ⟨a, b, a1, a2, a3, a4, a5⟩ := Sub_eq k (W2_hi hx) (W2_hi hy)
  obtain rfl : b = true := a5.2 (by omega)
  have a1' : limb_Sub.f k (x.2.2.1, x.2.2.2) (y.2.2.1, y.2.2.2) = some (a, true) := a1
  have a3 := a3 rfl
  obtain ⟨c, e, c1, c2, c3, c4, c5⟩ := Sub_eq k (W2_lo hx) (W2_lo hy)
  have c1' : limb_Sub.f k (x.1, x.2.1) (y.1, y.2.1) = some (c, e) := c1
  rw [a1', Option.bind_some, c1', Option.bind_some]
  cases e
  · have hov : ¬ N2 (lo y) ≤ N2 (lo x) := fun h => by have := c5.2 h; cases this
    rw [Bool.not_false, cond_true]
    obtain ⟨d, f, d1, d2, d3, d4, d5⟩ := Sub_eq k (W2_lo hy) (W2_lo hx)
    obtain rfl : f = true := d5.2 (by omega)
    have d1' : limb_Sub.f k (y.1, y.2.1) (x.1, x.2.1) = some (d, true) := d1
    have d3 := d3 rfl
    rw [d1', Option.bind_some, Of_eq, Option.bind_some]
    obtain ⟨g, f, g1, g2, g3, g4, g5⟩ := Sub_eq k d2 W2_one
    have hone : N2 (1, 0) = 1 := N2_of 1
    obtain rfl : f = true := g5.2 (by omega)
    have g1' : limb_Sub.f k (d.1, d.2) (1, 0) = some (g, true) := g1
    have g3 := g3 rfl
    dsimp only
    rw [g1', Option.bind_some, Option.bind_some]
    obtain ⟨u, f, u1, u2, u3, u4, u5⟩ := Sub_eq k a2 W2_one
    obtain rfl : f = true := u5.2 (by omega)
    have u1' : limb_Sub.f k (a.1, a.2) (1, 0) = some (u, true) := u1
    have u3 := u3 rfl
    rw [u1', Option.bind_some, Option.bind_some]
    obtain ⟨n1, n2⟩ := not2 g2
    refine ⟨_, rfl, ⟨n1.1, n1.2, u2.1, u2.2⟩, ?_⟩
    rw [N4_halves]
    show N2 (bits .xor .u64 18446744073709551615 g.1, bits .xor .u64 18446744073709551615 g.2) + 340282366920938463463374607431768211456 * N2 u = _
    omega
  · rw [Bool.not_true, cond_false, Option.bind_some]
    have c3 := c3 rfl
    refine ⟨_, rfl, ⟨c2.1, c2.2, a2.1, a2.2⟩, ?_⟩
    rw [N4_halves]
    show N2 c + 340282366920938463463374607431768211456 * N2 a = _
    omega
theorem cmp_step (k : Nat) {a0 a1 a2 a3 b0 b1 b2 b3 : Int} {i : Nat} (hi : i < 4) : dec_cmp.l2.once k ((i : Int), [a0, a1, a2, a3], [b0, b1, b2, b3]) = cond ([a0, a1, a2, a3].getD i 0 != [b0, b1, b2, b3].getD i 0) (cond (decide ([a0, a1, a2, a3].getD i 0 < [b0, b1, b2, b3].getD i 0)) (some (.inr (.inr (-1)))) (some (.inr (.inr 1)))) (some (.inl ((i : Int) - 1, [a0, a1, a2, a3], [b0, b1, b2, b3]))) := by
  unfold dec_cmp.l2.once
  dsimp only
  rw [ct (by omega), inb_t (by omega) (by omega), cond_true, Int.toNat_natCast, blt_t hi, cond_true, cond_true, cond_true, cond_true, cond_true, cond_true, cond_true, wrapi (by omega)]
theorem cmp4 {k : Nat} (hk : 5 < k) {x y : Int × Int × Int × Int} (hx : W4 x) (hy : W4 y) : dec_cmp.f k x y = some (if N4 x < N4 y then -1 else if N4 x = N4 y then 0 else 1) := by
  obtain ⟨j, rfl⟩ : ∃ j, k = j + 5 := ⟨k - 5, by omega⟩
  obtain ⟨a0, a1, a2, a3⟩ := x
  obtain ⟨b0, b1, b2, b3⟩ := y
  obtain ⟨⟨_, _⟩, ⟨_, _⟩, ⟨_, _⟩, _, _⟩ := hx
  obtain ⟨⟨_, _⟩, ⟨_, _⟩, ⟨_, _⟩, _, _⟩ := hy
  unfold dec_cmp.f N4
  dsimp only at *
  have s3 : dec_cmp.l2.once (j + 5) (3, [a0, a1, a2, a3], [b0, b1, b2, b3]) = cond (a3 != b3) (cond (decide (a3 < b3)) (some (.inr (.inr (-1)))) (some (.inr (.inr 1)))) (some (.inl (((3 : Nat) : Int) - 1, [a0, a1, a2, a3], [b0, b1, b2, b3]))) := cmp_step (j + 5) (i := 3) (by decide)
  have s2 : dec_cmp.l2.once (j + 5) (((3 : Nat) : Int) - 1, [a0, a1, a2, a3], [b0, b1, b2, b3]) = cond (a2 != b2) (cond (decide (a2 < b2)) (some (.inr (.inr (-1)))) (some (.inr (.inr 1)))) (some (.inl (((2 : Nat) : Int) - 1, [a0, a1, a2, a3], [b0, b1, b2, b3]))) := cmp_step (j + 5) (i := 2) (by decide)
  have s1 : dec_cmp.l2.once (j + 5) (((2 : Nat) : Int) - 1, [a0, a1, a2, a3], [b0, b1, b2, b3]) = cond (a1 != b1) (cond (decide (a1 < b1)) (some (.inr (.inr (-1)))) (some (.inr (.inr 1)))) (some (.inl (((1 : Nat) : Int) - 1, [a0, a1, a2, a3], [b0, b1, b2, b3]))) := cmp_step (j + 5) (i := 1) (by decide)
  have s0 : dec_cmp.l2.once (j + 5) (((1 : Nat) : Int) - 1, [a0, a1, a2, a3], [b0, b1, b2, b3]) = cond (a0 != b0) (cond (decide (a0 < b0)) (some (.inr (.inr (-1)))) (some (.inr (.inr 1)))) (some (.inl (((0 : Nat) : Int) - 1, [a0, a1, a2, a3], [b0, b1, b2, b3]))) := cmp_step (j + 5) (i := 0) (by decide)
  have s : dec_cmp.l2.once (j + 5) (((0 : Nat) : Int) - 1, [a0, a1, a2, a3], [b0, b1, b2, b3]) = some (.inr (.inl ())) := by unfold dec_cmp.l2.once; rfl
  have way : ∀ {a b : Int} {n : Nat} {u v : (Int × List Int × List Int)}, dec_cmp.l2.once (j + 5) u = cond (a != b) (cond (decide (a < b)) (some (.inr (.inr (-1)))) (some (.inr (.inr 1)))) (some (.inl v)) → iter (dec_cmp.l2.once (j + 5)) (n + 1) u = if a < b then some (.inr (-1)) else if a = b then iter (dec_cmp.l2.once (j + 5)) n v else some (.inr 1) := by
    intro a b n u v h
    by_cases he : a = b
    · subst he
      rw [bne_self_eq_false, cond_false] at h
      rw [iter_step h, if_neg (by omega), if_pos rfl]
    · rw [show (a != b) = true by simp [he], cond_true] at h
      by_cases hlt : a < b
      · rw [ct hlt] at h
        rw [iter_stop h, if_pos hlt]
      · rw [cf hlt] at h
        rw [iter_stop h, if_neg hlt, if_neg he]
  rw [way (n := j + 4) s3, way (n := j + 3) s2, way (n := j + 2) s1, way (n := j + 1) s0, iter_stop s]
  by_cases g3 : a3 < b3
  · rw [if_pos g3, if_pos (by omega)]; rfl
  rw [if_neg g3]
  by_cases e3 : a3 = b3
  · rw [if_pos e3]
    by_cases g2 : a2 < b2
    · rw [if_pos g2, if_pos (by omega)]; rfl
    rw [if_neg g2]
    by_cases e2 : a2 = b2
    · rw [if_pos e2]
      by_cases g1 : a1 < b1
      · rw [if_pos g1, if_pos (by omega)]; rfl
      rw [if_neg g1]
      by_cases e1 : a1 = b1
      · rw [if_pos e1]
        by_cases g0 : a0 < b0
        · rw [if_pos g0, if_pos (by omega)]; rfl
        rw [if_neg g0]
        by_cases e0 : a0 = b0
        · rw [if_pos e0, if_neg (by omega), if_pos (by omega)]; rfl
        · rw [if_neg e0, if_neg (by omega), if_neg (by omega)]; rfl
      · rw [if_neg e1, if_neg (by omega), if_neg (by omega)]; rfl
    · rw [if_neg e2, if_neg (by omega), if_neg (by omega)]; rfl
  · rw [if_neg e3, if_neg (by omega), if_neg (by omega)]; rfl
theorem ten9 {a : Nat} (h : a ≤ 9) : (10 : Nat) ^ a ≤ 1000000000 := Nat.le_trans (Nat.pow_le_pow_right (by decide) h) (by decide)
theorem mx (s t : Nat) : (if (t : Int) > (s : Int) then (t : Int) else (s : Int)) = ((max s t : Nat) : Int) := by split <;> omega
/-- The sum of two. -/
theorem Add_DV {k : Nat} (hk : 60 < k) {i j : Int} {s t : Nat} (hi : Sm i) (hj : Sm j) (hs : s ≤ 9) (ht : t ≤ 9) : dec_Add.f k (DV i s) (DV j t) = some (mkD (i * 10 ^ (max s t - s) + j * 10 ^ (max s t - t)) (max s t)) := by
  have r1 : dec_Right.f k ⟨decide (i < 0), ((w2 i.natAbs).1, (w2 i.natAbs).2), (s : Int)⟩ = some true := Right_DV hk hi hs
  have r2 : dec_Right.f k ⟨decide (j < 0), ((w2 j.natAbs).1, (w2 j.natAbs).2), (t : Int)⟩ = some true := Right_DV hk hj ht
  obtain ⟨x, x1, x2, x3⟩ := wide_eq hk (decide (i < 0)) (Sm_w2 hi) (s := s) (t := max s t) (by omega) (by omega) (by omega)
  obtain ⟨y, y1, y2, y3⟩ := wide_eq hk (decide (j < 0)) (Sm_w2 hj) (s := t) (t := max s t) (by omega) (by omega) (by omega)
  have x1' : dec_wide.f k ⟨decide (i < 0), ((w2 i.natAbs).1, (w2 i.natAbs).2), (s : Int)⟩ ((max s t : Nat) : Int) = some x := x1
  have y1' : dec_wide.f k ⟨decide (j < 0), ((w2 j.natAbs).1, (w2 j.natAbs).2), (t : Int)⟩ ((max s t : Nat) : Int) = some y := y1
  rw [N2_w2] at x3 y3
  have p1 := ten9 (show max s t - s ≤ 9 by omega)
  have p2 := ten9 (show max s t - t ≤ 9 by omega)
  have q1 : (i.natAbs * 10 ^ (max s t - s) : Nat) ≤ 1000000000000000000000000000000 * 1000000000 := Nat.mul_le_mul (by unfold Sm at hi; omega) p1
  have q2 : (j.natAbs * 10 ^ (max s t - t) : Nat) ≤ 1000000000000000000000000000000 * 1000000000 := Nat.mul_le_mul (by unfold Sm at hj; omega) p2
  have cx : N4 x = ((i.natAbs * 10 ^ (max s t - s) : Nat) : Int) := by rw [x3, Int.natCast_mul, Int.natCast_pow]; rfl
  have cy : N4 y = ((j.natAbs * 10 ^ (max s t - t) : Nat) : Int) := by rw [y3, Int.natCast_mul, Int.natCast_pow]; rfl
  have vx : i * 10 ^ (max s t - s) = if i < 0 then -(N4 x) else N4 x := by
    rw [x3]
    by_cases h : i < 0
    · rw [if_pos h, show ((i.natAbs : Nat) : Int) = -i by omega, Int.neg_mul, Int.neg_neg]
    · rw [if_neg h, show ((i.natAbs : Nat) : Int) = i by omega]
  have vy : j * 10 ^ (max s t - t) = if j < 0 then -(N4 y) else N4 y := by
    rw [y3]
    by_cases h : j < 0
    · rw [if_pos h, show ((j.natAbs : Nat) : Int) = -j by omega, Int.neg_mul, Int.neg_neg]
    · rw [if_neg h, show ((j.natAbs : Nat) : Int) = j by omega]
  rw [vx, vy]
  generalize i.natAbs * 10 ^ (max s t - s) = M at *
  generalize j.natAbs * 10 ^ (max s t - t) = N at *
  clear vx vy x3 y3 p1 p2
  unfold dec_Add.f DV
  dsimp only
  rw [r1, Option.bind_some, Bool.not_true, cond_false, r2, Option.bind_some, Bool.not_true, Option.bind_some]
  dsimp only
  rw [cond_false, mx, x1', Option.bind_some, y1', Option.bind_some]
  by_cases hi0 : i < 0
  · rw [if_pos hi0, decide_eq_true hi0]
    by_cases hj0 : j < 0
    · rw [if_pos hj0, decide_eq_true hj0, show ((true == true) : Bool) = true from rfl, cond_true]
      obtain ⟨z, z1, z2, z3⟩ := plus4 k x2 y2 (by omega) (by omega)
      have z1' : dec_plus.f k (x.1, x.2.1, x.2.2.1, x.2.2.2) (y.1, y.2.1, y.2.2.1, y.2.2.2) = some z := z1
      have m : dec_made.f k true (z.1, z.2.1, z.2.2.1, z.2.2.2) ((max s t : Nat) : Int) = _ := made_eq hk true z2 (max s t)
      rw [z1', Option.bind_some, m, Option.bind_some, if_pos rfl, z3, show -(N4 x) + -(N4 y) = -(N4 x + N4 y) by omega]
    · rw [if_neg hj0, decide_eq_false hj0, show ((true == false) : Bool) = false from rfl, cond_false]
      have c : dec_cmp.f k (x.1, x.2.1, x.2.2.1, x.2.2.2) (y.1, y.2.1, y.2.2.1, y.2.2.2) = _ := cmp4 (k := k) (by omega) x2 y2
      rw [c, Option.bind_some]
      by_cases hlt : N4 x < N4 y
      · rw [if_pos hlt, cf (by omega)]
        obtain ⟨z, z1, z2, z3⟩ := less4 k y2 x2 (by omega)
        have z1' : dec_less.f k (y.1, y.2.1, y.2.2.1, y.2.2.2) (x.1, x.2.1, x.2.2.1, x.2.2.2) = some z := z1
        have m : dec_made.f k false (z.1, z.2.1, z.2.2.1, z.2.2.2) ((max s t : Nat) : Int) = _ := made_eq hk false z2 (max s t)
        rw [z1', Option.bind_some, m, Option.bind_some, if_neg (by decide), z3, show -(N4 x) + N4 y = N4 y - N4 x by omega]
      · rw [if_neg hlt, ct (by split <;> decide)]
        obtain ⟨z, z1, z2, z3⟩ := less4 k x2 y2 (by omega)
        have z1' : dec_less.f k (x.1, x.2.1, x.2.2.1, x.2.2.2) (y.1, y.2.1, y.2.2.1, y.2.2.2) = some z := z1
        have m : dec_made.f k true (z.1, z.2.1, z.2.2.1, z.2.2.2) ((max s t : Nat) : Int) = _ := made_eq hk true z2 (max s t)
        rw [z1', Option.bind_some, m, Option.bind_some, if_pos rfl, z3, show -(N4 x) + N4 y = -(N4 x - N4 y) by omega]
  · rw [if_neg hi0, decide_eq_false hi0]
    by_cases hj0 : j < 0
    · rw [if_pos hj0, decide_eq_true hj0, show ((false == true) : Bool) = false from rfl, cond_false]
      have c : dec_cmp.f k (x.1, x.2.1, x.2.2.1, x.2.2.2) (y.1, y.2.1, y.2.2.1, y.2.2.2) = _ := cmp4 (k := k) (by omega) x2 y2
      rw [c, Option.bind_some]
      by_cases hlt : N4 x < N4 y
      · rw [if_pos hlt, cf (by omega)]
        obtain ⟨z, z1, z2, z3⟩ := less4 k y2 x2 (by omega)
        have z1' : dec_less.f k (y.1, y.2.1, y.2.2.1, y.2.2.2) (x.1, x.2.1, x.2.2.1, x.2.2.2) = some z := z1
        have m : dec_made.f k true (z.1, z.2.1, z.2.2.1, z.2.2.2) ((max s t : Nat) : Int) = _ := made_eq hk true z2 (max s t)
        rw [z1', Option.bind_some, m, Option.bind_some, if_pos rfl, z3, show N4 x + -(N4 y) = -(N4 y - N4 x) by omega]
      · rw [if_neg hlt, ct (by split <;> decide)]
        obtain ⟨z, z1, z2, z3⟩ := less4 k x2 y2 (by omega)
        have z1' : dec_less.f k (x.1, x.2.1, x.2.2.1, x.2.2.2) (y.1, y.2.1, y.2.2.1, y.2.2.2) = some z := z1
        have m : dec_made.f k false (z.1, z.2.1, z.2.2.1, z.2.2.2) ((max s t : Nat) : Int) = _ := made_eq hk false z2 (max s t)
        rw [z1', Option.bind_some, m, Option.bind_some, if_neg (by decide), z3, show N4 x + -(N4 y) = N4 x - N4 y by omega]
    · rw [if_neg hj0, decide_eq_false hj0, show ((false == false) : Bool) = true from rfl, cond_true]
      obtain ⟨z, z1, z2, z3⟩ := plus4 k x2 y2 (by omega) (by omega)
      have z1' : dec_plus.f k (x.1, x.2.1, x.2.2.1, x.2.2.2) (y.1, y.2.1, y.2.2.1, y.2.2.2) = some z := z1
      have m : dec_made.f k false (z.1, z.2.1, z.2.2.1, z.2.2.2) ((max s t : Nat) : Int) = _ := made_eq hk false z2 (max s t)
      rw [z1', Option.bind_some, m, Option.bind_some, if_neg (by decide), z3]
end Go.Proofs.YtbchcjlllddlpaaGreat.Pure
/- What pyxref1's sums on numbers with places after the point compute: dec's own. No conditions but size. -/
namespace Go.Proofs.YtbchcjlllddlpaaGreat.Pure
set_option linter.unusedVariables false
set_option linter.unusedSimpArgs false
open Go Go.Ev Go.Lm Go.Pu Go.Dg

theorem Words2_eq {k : Nat} (hk : 602 < k) {n : Nat} (hn : n < 10 ^ 200) : ∃ z b, pyxref1_Words2.f k (dig n) = some (z, b) ∧ W2 z ∧ (b = true ↔ n < 340282366920938463463374607431768211456) ∧ (b = true → N2 z = (n : Int)) ∧ (b = false → z = (0, 0)) := by
  unfold pyxref1_Words2.f
  rw [radix_eq (by omega), Option.bind_some, DivNat_eq hk hn (by omega) (by omega), Option.bind_some, Option.bind_some]
  dsimp only
  rw [CmpNat_eq (by omega) (by omega) (by omega), Option.bind_some]
  by_cases h : n / 18446744073709551616 < 18446744073709551616
  · rw [if_pos h, show decide ((-1 : Int) ≥ 0) = false from rfl, cond_false, short_eq hk (by omega), Option.bind_some, short_eq hk h, Option.bind_some]
    refine ⟨_, _, rfl, ⟨⟨by dsimp only; omega, by dsimp only; omega⟩, by dsimp only; omega, by dsimp only; omega⟩, ⟨(fun _ => by omega), fun _ => rfl⟩, fun _ => ?_, (fun h => by cases h)⟩
    unfold N2
    dsimp only
    omega
  · rw [if_neg h]
    rw [show decide ((if n / 18446744073709551616 = 18446744073709551616 then (0 : Int) else 1) ≥ 0) = true by split <;> rfl, cond_true]
    exact ⟨_, _, rfl, W20, ⟨(fun h => by cases h), (fun h' => by omega)⟩, (fun h => by cases h), fun _ => rfl⟩
theorem len30 (n : Nat) : (dig n).length ≤ 30 ↔ n < 1000000000000000000000000000000 := by
  constructor
  · intro h
    have h1 := dig_lt n
    have h2 : (10 : Nat) ^ (dig n).length ≤ 10 ^ 30 := Nat.pow_le_pow_right (by decide) h
    have h3 : (10 : Nat) ^ 30 = 1000000000000000000000000000000 := by decide
    omega
  · intro h
    exact dig_len (m := 30) (by rw [show (10 : Nat) ^ 30 = 1000000000000000000000000000000 by decide]; omega)
theorem len0 (n : Nat) : (dig n).length = 0 ↔ n = 0 := by
  constructor
  · intro h
    by_cases h0 : n = 0
    · exact h0
    · rw [dig_pos h0] at h; cases h
  · rintro rfl; rw [dig_0]; rfl
theorem RRight_eq {k : Nat} (hk : 602 < k) {d : Sapi_Dec} (hw : W2 d.f_C) : pyxref1_RightDec.f k d = dec_Right.f k d := by
  unfold pyxref1_RightDec.f dec_Right.f
  have hb := N2_bd hw
  have hn : N2 d.f_C = ((N2 d.f_C).toNat : Int) := by omega
  have e1 : dec_small.f k (d.f_C.1, d.f_C.2) = some (decide (N2 d.f_C < 1000000000000000000000000000000)) := small_all (by omega) hw
  have e2 : dec_nought.f k (d.f_C.1, d.f_C.2) = some (decide (N2 d.f_C = 0)) := nought_eq k hw
  have e3 : pyxref1_Nat2.f k (d.f_C.1, d.f_C.2) = some (dig (N2 d.f_C).toNat) := Nat2_eq hk hw hn
  have l1 := len30 (N2 d.f_C).toNat
  have l2 := len0 (N2 d.f_C).toNat
  rw [e1, e2, e3, Option.bind_some, Option.bind_some, Option.bind_some]
  have c1 : decide (((dig (N2 d.f_C).toNat).length : Int) ≤ 30) = decide (N2 d.f_C < 1000000000000000000000000000000) := by
    rw [decide_eq_decide]; omega
  have c2 : (((dig (N2 d.f_C).toNat).length : Int) == 0) = decide (N2 d.f_C = 0) := by
    rw [Bool.eq_iff_iff, beq_iff_eq, decide_eq_true_iff]; omega
  rw [c1, c2]
theorem Make_eq {k : Nat} (hk : 602 < k) (neg : Bool) {n : Nat} (hn : n < 10 ^ 200) {s : Nat} (hs : s ≤ 9) : pyxref1_Make.f k neg (dig n) (s : Int) = some (mkD (if neg then -(n : Int) else n) s) := by
  unfold pyxref1_Make.f mkD
  have l1 := len30 n
  have l2 := len0 n
  have hna : (if neg = true then -(n : Int) else n).natAbs = n := by split <;> omega
  rw [hna]
  by_cases h : n < 1000000000000000000000000000000
  · rw [cf (by omega), cf (by omega), Option.bind_some]
    dsimp only
    rw [cf (by omega), if_pos h]
    obtain ⟨z, b, z1, z2, z3, z4, z5⟩ := Words2_eq hk hn
    rw [z1, Option.bind_some]
    have hz : z = w2 n := w2_of z2 (z4 (z3.2 (by omega)))
    unfold DV
    rw [hna, hz]
    cases neg
    · rw [cond_false]
      refine congrArg some ?_
      rw [if_neg (by decide), decide_eq_false (by omega)]
    · rw [cond_true]
      refine congrArg some ?_
      rw [if_pos rfl]
      have : decide (((dig n).length : Int) > 0) = decide (-(n : Int) < 0) := by rw [decide_eq_decide]; omega
      rw [this]
  · rw [ct (by omega), Option.bind_some, cond_true, if_neg h]
    rfl
theorem digits_eq {k : Nat} (hk : 602 < k) (n : Bool) {m s t : Nat} (hm : m < 340282366920938463463374607431768211456) (hst : s ≤ t) (ht : t ≤ 100) : pyxref1_digits.f k ⟨n, w2 m, (s : Int)⟩ (t : Int) = some (dig (m * 10 ^ (t - s))) := by
  unfold pyxref1_digits.f
  have e3 : pyxref1_Nat2.f k ((w2 m).1, (w2 m).2) = some (dig m) := Nat2_eq hk (W2_w2 hm) (N2_w2 m)
  have p : (10 : Nat) ^ (t - s) < 10 ^ 200 := Nat.pow_lt_pow_right (by decide) (by omega)
  dsimp only
  rw [e3, Option.bind_some, wrapi (by omega), show (t : Int) - (s : Int) = ((t - s : Nat) : Int) by omega, TenNat_eq (by omega), Option.bind_some, MulNat_eq hk (by omega) p, Option.bind_some]
def cl (s : Int) : Nat := (max 0 (min s 9)).toNat
theorem cl_le (s : Int) : cl s ≤ 9 := by unfold cl; omega
theorem cl_of {s : Nat} (h : s ≤ 9) : cl (s : Int) = s := by unfold cl; omega
theorem ROf_DV {k : Nat} (hk : 602 < k) {n : Int} (h : -9223372036854775808 ≤ n ∧ n < 9223372036854775808) (s : Int) : pyxref1_Of.f k n s = some (DV n (cl s)) := by
  have e : pyxref1_Within.f k s 0 9 = some ((cl s : Nat) : Int) := by
    unfold pyxref1_Within.f cl
    refine congrArg some ?_
    by_cases h9 : s < 9
    · rw [if_pos h9]; split <;> omega
    · rw [if_neg h9, if_pos (by omega)]; omega
  unfold pyxref1_Of.f
  have hw : (n.natAbs : Nat) < 10 ^ 200 := by omega
  have hs : ∀ b : Bool, b = decide (n < 0) → (pyxref1_Word.f k ((n.natAbs : Nat) : Int)).bind (fun t9 => ((pyxref1_Within.f k s 0 9).bind fun t10 => ((pyxref1_Make.f k b t9 t10).bind fun t11 => (some (⟨t11.1.f_Neg, (t11.1.f_C.1, t11.1.f_C.2), t11.1.f_Scale⟩ : Sapi_Dec))))) = some (DV n (cl s)) := by
    rintro _ rfl
    rw [Word_eq (by omega) (by omega), Option.bind_some, e, Option.bind_some, Make_eq hk _ hw (cl_le s), Option.bind_some]
    have : (if decide (n < 0) = true then -((n.natAbs : Nat) : Int) else ((n.natAbs : Nat) : Int)) = n := by
      by_cases hn : n < 0
      · rw [decide_eq_true hn, if_pos rfl]; omega
      · rw [decide_eq_false hn, if_neg (by decide)]; omega
    rw [this]
    unfold mkD
    rw [if_pos (by omega)]
  by_cases hn : n < 0
  · rw [ct hn, Option.bind_some]
    dsimp only
    rw [wrap64, wrap64, show (0 - n % 18446744073709551616) % 18446744073709551616 = ((n.natAbs : Nat) : Int) by omega]
    exact hs _ rfl
  · rw [cf hn, Option.bind_some]
    dsimp only
    rw [wrap64, show n % 18446744073709551616 = ((n.natAbs : Nat) : Int) by omega]
    exact hs _ rfl
end Go.Proofs.YtbchcjlllddlpaaGreat.Pure
/- What pyxref1's sums of two compute: dec's own. No conditions but size. -/
namespace Go.Proofs.YtbchcjlllddlpaaGreat.Pure
set_option linter.unusedVariables false
set_option linter.unusedSimpArgs false
open Go Go.Ev Go.Lm Go.Pu Go.Dg

theorem RNeg_DV {k : Nat} (hk : 602 < k) {i : Int} {s : Nat} (hi : Sm i) (hs : s ≤ 9) : pyxref1_Neg.f k (DV i s) = some (DV (-i) s) := by
  unfold pyxref1_Neg.f
  have h : pyxref1_RightDec.f k ⟨(DV i s).f_Neg, ((DV i s).f_C.1, (DV i s).f_C.2), (DV i s).f_Scale⟩ = some true := (RRight_eq hk (d := DV i s) (Sm_w2 hi)).trans (Right_DV (by omega) hi hs)
  have e2 : (((DV i s).f_C.1 == 0) && ((DV i s).f_C.2 == 0)) = decide (N2 (w2 i.natAbs) = 0) := Option.some.inj (nought_eq k (Sm_w2 hi))
  rw [h, Option.bind_some, Bool.not_true, cond_false, e2, N2_w2]
  unfold DV
  dsimp only
  by_cases h1 : i < 0
  · rw [decide_eq_true h1, Bool.not_true, cond_false, decide_eq_false (show ¬ (-i < 0) by omega), Int.natAbs_neg]
  · rw [decide_eq_false h1, Bool.not_false, cond_true, Int.natAbs_neg]
    by_cases h0 : i = 0
    · subst h0; rfl
    · rw [decide_eq_false (show ¬ ((i.natAbs : Int) = 0) by omega), decide_eq_true (show -i < 0 by omega)]; rfl
theorem RSign_eq {k : Nat} (hk : 602 < k) {d : Sapi_Dec} (hw : W2 d.f_C) : pyxref1_Sign.f k d = dec_Sign.f k d := by
  unfold pyxref1_Sign.f dec_Sign.f dec_nought.f
  have e : pyxref1_RightDec.f k ⟨d.f_Neg, (d.f_C.1, d.f_C.2), d.f_Scale⟩ = dec_Right.f k ⟨d.f_Neg, (d.f_C.1, d.f_C.2), d.f_Scale⟩ := RRight_eq hk hw
  rw [e]
  rfl
/-- The sum of two, by the digits. -/
theorem RAdd_DV {k : Nat} (hk : 602 < k) {i j : Int} {s t : Nat} (hi : Sm i) (hj : Sm j) (hs : s ≤ 9) (ht : t ≤ 9) : pyxref1_Add.f k (DV i s) (DV j t) = some (mkD (i * 10 ^ (max s t - s) + j * 10 ^ (max s t - t)) (max s t)) := by
  have r1 : pyxref1_RightDec.f k ⟨decide (i < 0), ((w2 i.natAbs).1, (w2 i.natAbs).2), (s : Int)⟩ = some true := (RRight_eq hk (d := DV i s) (Sm_w2 hi)).trans (Right_DV (by omega) hi hs)
  have r2 : pyxref1_RightDec.f k ⟨decide (j < 0), ((w2 j.natAbs).1, (w2 j.natAbs).2), (t : Int)⟩ = some true := (RRight_eq hk (d := DV j t) (Sm_w2 hj)).trans (Right_DV (by omega) hj ht)
  have x1' : pyxref1_digits.f k ⟨decide (i < 0), ((w2 i.natAbs).1, (w2 i.natAbs).2), (s : Int)⟩ ((max s t : Nat) : Int) = some (dig (i.natAbs * 10 ^ (max s t - s))) := digits_eq hk _ (by unfold Sm at hi; omega) (by omega) (by omega)
  have y1' : pyxref1_digits.f k ⟨decide (j < 0), ((w2 j.natAbs).1, (w2 j.natAbs).2), (t : Int)⟩ ((max s t : Nat) : Int) = some (dig (j.natAbs * 10 ^ (max s t - t))) := digits_eq hk _ (by unfold Sm at hj; omega) (by omega) (by omega)
  have p1 := ten9 (show max s t - s ≤ 9 by omega)
  have p2 := ten9 (show max s t - t ≤ 9 by omega)
  have q1 : (i.natAbs * 10 ^ (max s t - s) : Nat) ≤ 1000000000000000000000000000000 * 1000000000 := Nat.mul_le_mul (by unfold Sm at hi; omega) p1
  have q2 : (j.natAbs * 10 ^ (max s t - t) : Nat) ≤ 1000000000000000000000000000000 * 1000000000 := Nat.mul_le_mul (by unfold Sm at hj; omega) p2
  have vx : i * 10 ^ (max s t - s) = if i < 0 then -((i.natAbs * 10 ^ (max s t - s) : Nat) : Int) else ((i.natAbs * 10 ^ (max s t - s) : Nat) : Int) := by
    rw [Int.natCast_mul, Int.natCast_pow]
    by_cases h : i < 0
    · rw [if_pos h, show ((i.natAbs : Nat) : Int) = -i by omega, Int.neg_mul, Int.neg_neg]; rfl
    · rw [if_neg h, show ((i.natAbs : Nat) : Int) = i by omega]; rfl
  have vy : j * 10 ^ (max s t - t) = if j < 0 then -((j.natAbs * 10 ^ (max s t - t) : Nat) : Int) else ((j.natAbs * 10 ^ (max s t - t) : Nat) : Int) := by
    rw [Int.natCast_mul, Int.natCast_pow]
    by_cases h : j < 0
    · rw [if_pos h, show ((j.natAbs : Nat) : Int) = -j by omega, Int.neg_mul, Int.neg_neg]; rfl
    · rw [if_neg h, show ((j.natAbs : Nat) : Int) = j by omega]; rfl
  rw [vx, vy]
  generalize i.natAbs * 10 ^ (max s t - s) = M at *
  generalize j.natAbs * 10 ^ (max s t - t) = N at *
  clear vx vy p1 p2
  have hm : max s t ≤ 9 := by omega
  have hM : M < 10 ^ 200 := by omega
  have hN : N < 10 ^ 200 := by omega
  unfold pyxref1_Add.f DV
  dsimp only
  rw [r1, Option.bind_some, Bool.not_true, cond_false, r2, Option.bind_some, Bool.not_true, Option.bind_some]
  dsimp only
  rw [cond_false, mx, x1', Option.bind_some, y1', Option.bind_some]
  by_cases hi0 : i < 0
  · rw [if_pos hi0, decide_eq_true hi0]
    by_cases hj0 : j < 0
    · rw [if_pos hj0, decide_eq_true hj0, show ((true == true) : Bool) = true from rfl, cond_true]
      rw [AddNat_eq (by omega) hM hN, Option.bind_some, Make_eq hk true (by omega) hm, Option.bind_some, if_pos rfl, show -(M : Int) + -(N : Int) = -((M + N : Nat) : Int) by omega]
    · rw [if_neg hj0, decide_eq_false hj0, show ((true == false) : Bool) = false from rfl, cond_false]
      rw [CmpNat_eq (by omega) hM hN, Option.bind_some]
      by_cases hlt : M < N
      · rw [if_pos hlt, cf (by omega), SubNat_eq (by omega) hN (by omega), Option.bind_some, Make_eq hk false (by omega) hm, Option.bind_some, if_neg (by decide), show -(M : Int) + (N : Int) = ((N - M : Nat) : Int) by omega]
      · rw [if_neg hlt, ct (by split <;> decide), SubNat_eq (by omega) hM (by omega), Option.bind_some, Make_eq hk true (by omega) hm, Option.bind_some, if_pos rfl, show -(M : Int) + (N : Int) = -((M - N : Nat) : Int) by omega]
  · rw [if_neg hi0, decide_eq_false hi0]
    by_cases hj0 : j < 0
    · rw [if_pos hj0, decide_eq_true hj0, show ((false == true) : Bool) = false from rfl, cond_false]
      rw [CmpNat_eq (by omega) hM hN, Option.bind_some]
      by_cases hlt : M < N
      · rw [if_pos hlt, cf (by omega), SubNat_eq (by omega) hN (by omega), Option.bind_some, Make_eq hk true (by omega) hm, Option.bind_some, if_pos rfl, show (M : Int) + -(N : Int) = -((N - M : Nat) : Int) by omega]
      · rw [if_neg hlt, ct (by split <;> decide), SubNat_eq (by omega) hM (by omega), Option.bind_some, Make_eq hk false (by omega) hm, Option.bind_some, if_neg (by decide), show (M : Int) + -(N : Int) = ((M - N : Nat) : Int) by omega]
    · rw [if_neg hj0, decide_eq_false hj0, show ((false == false) : Bool) = true from rfl, cond_true]
      rw [AddNat_eq (by omega) hM hN, Option.bind_some, Make_eq hk false (by omega) hm, Option.bind_some, if_neg (by decide), show (M : Int) + (N : Int) = ((M + N : Nat) : Int) by omega]
end Go.Proofs.YtbchcjlllddlpaaGreat.Pure
/- Any decimal's value; which are right. No conditions but size. -/
namespace Go.Proofs.YtbchcjlllddlpaaGreat.Pure
set_option linter.unusedVariables false
set_option linter.unusedSimpArgs false
open Go Go.Ev Go.Lm Go.Pu Go.Dg

theorem drop_getD {α : Type} {l : List α} {i : Nat} (d : α) (h : i < l.length) : l.drop i = l.getD i d :: l.drop (i + 1) := by
  rw [List.drop_eq_getElem_cons h, List.getD_eq_getElem?_getD, List.getElem?_eq_getElem h, Option.getD_some]
def val (d : Sapi_Dec) : Int := if d.f_Neg then -(N2 d.f_C) else N2 d.f_C
def dOk (d : Sapi_Dec) : Bool := decide (N2 d.f_C < 1000000000000000000000000000000) && (decide (d.f_Scale ≥ 0) && (decide (d.f_Scale ≤ 9) && !(d.f_Neg && decide (N2 d.f_C = 0))))
theorem dOk_DV {d : Sapi_Dec} (hw : W2 d.f_C) (h : dOk d = true) : d = DV (val d) d.f_Scale.toNat ∧ Sm (val d) ∧ d.f_Scale.toNat ≤ 9 ∧ 0 ≤ d.f_Scale := by
  obtain ⟨n, c, z⟩ := d
  unfold dOk at h
  unfold val DV Sm
  have hb := N2_bd hw
  dsimp only at hw h hb ⊢
  simp only [Bool.and_eq_true, decide_eq_true_eq, Bool.not_eq_true', Bool.and_eq_false_iff, decide_eq_false_iff_not] at h
  obtain ⟨h1, h2, h3, h4⟩ := h
  have hc : c = w2 (N2 c).toNat := w2_of hw (by omega)
  refine ⟨?_, by split <;> omega, by omega, h2⟩
  cases n
  · rw [if_neg (by decide), decide_eq_false (by omega), show (N2 c).natAbs = (N2 c).toNat by omega, ← hc, show ((z.toNat : Nat) : Int) = z by omega]
  · rw [if_pos rfl, decide_eq_true (by rcases h4 with h4 | h4 <;> first | (cases h4; done) | omega), show (-(N2 c)).natAbs = (N2 c).toNat by omega, ← hc, show ((z.toNat : Nat) : Int) = z by omega]
theorem Right_val {k : Nat} (hk : 60 < k) {d : Sapi_Dec} (hw : W2 d.f_C) : dec_Right.f k d = some (dOk d) := by
  unfold dec_Right.f dOk
  have e1 : dec_small.f k (d.f_C.1, d.f_C.2) = some (decide (N2 d.f_C < 1000000000000000000000000000000)) := small_all hk hw
  have e2 : dec_nought.f k (d.f_C.1, d.f_C.2) = some (decide (N2 d.f_C = 0)) := nought_eq k hw
  rw [e1, e2, Option.bind_some]
  cases decide (N2 d.f_C < 1000000000000000000000000000000) <;> cases decide (d.f_Scale ≥ 0) <;> cases decide (d.f_Scale ≤ 9) <;> cases d.f_Neg <;> rfl
theorem val_DV (v : Int) (s : Nat) : val (DV v s) = v := by
  unfold val DV
  dsimp only
  rw [N2_w2]
  by_cases h : v < 0
  · rw [decide_eq_true h, if_pos rfl]; omega
  · rw [decide_eq_false h, if_neg (by decide)]; omega
theorem dOk_of_DV {v : Int} {s : Nat} (hv : Sm v) (hs : s ≤ 9) : dOk (DV v s) = true := by
  have h1 := Right_val (k := 61) (by decide) (d := DV v s) (Sm_w2 hv)
  rw [Right_DV (by decide) hv hs] at h1
  exact (Option.some.inj h1).symm
def sgn (v : Int) : Int := if v = 0 then 0 else if v < 0 then -1 else 1
theorem Sign_val {k : Nat} (hk : 60 < k) {d : Sapi_Dec} (hw : W2 d.f_C) : dec_Sign.f k d = some (if dOk d then sgn (val d) else 0) := by
  cases h : dOk d with
  | true =>
    obtain ⟨h1, h2, h3, _⟩ := dOk_DV hw h
    have := Sign_DV hk h2 h3
    rw [← h1] at this
    rw [this]
    rfl
  | false =>
    unfold dec_Sign.f
    have e : dec_Right.f k ⟨d.f_Neg, (d.f_C.1, d.f_C.2), d.f_Scale⟩ = some (dOk d) := Right_val hk hw
    rw [e, h]
    rfl
theorem sgn_beq (v : Int) : (sgn v == 0) = decide (v = 0) := by
  unfold sgn
  by_cases h : v = 0
  · rw [if_pos h, decide_eq_true h]; rfl
  · rw [if_neg h, decide_eq_false h]; split <;> rfl
end Go.Proofs.YtbchcjlllddlpaaGreat.Pure
/- What pyxhand's raw numbers, amounts and lines compute. No conditions but size. -/
namespace Go.Proofs.YtbchcjlllddlpaaGreat.Pure
set_option linter.unusedVariables false
set_option linter.unusedSimpArgs false
open Go Go.Ev Go.Lm Go.Pu Go.Dg

theorem bind_at {α β : Type} {x : Option α} {f : α → Option β} {v : α} {r : Option β} (h : x = some v) (h' : f v = r) : x.bind f = r := by rw [h]; exact h'
theorem ex_of {α : Type} {x r : Option α} {P : α → Prop} (h : x = r) (h' : ∃ v, r = some v ∧ P v) : ∃ v, x = some v ∧ P v := by rw [h]; exact h'
theorem Zero_eq (k : Nat) (s : Nat) : pyxref11_Zero.f k (s : Int) = some (DV 0 s) := rfl
theorem W2_wrap (a b : Int) : W2 (IntKind.wrap .u64 a, IntKind.wrap .u64 b) := by
  rw [wrap64, wrap64]
  unfold W2 Wd
  dsimp only
  omega
theorem HAmount_eq {k : Nat} (hk : 602 < k) (n s : Int) : ∃ v : Int, pyxhand_Amount.f k n s = some (DV v (cl s)) ∧ v.natAbs ≤ 1000000 := by
  unfold pyxhand_Amount.f
  have hb := pick_bd n (m := 2000001) (by decide)
  rw [Pick_eq k n (by decide) (by decide), Option.bind_some, wrapi (by omega), ROf_DV hk (by omega), Option.bind_some]
  exact ⟨_, rfl, by omega⟩
theorem HDec_ok {k : Nat} (hk : 602 < k) {n s b : Int} (hn : -9223372036854775808 ≤ n ∧ n < 9223372036854775808) : ∃ d, pyxhand_Dec.f k n s b = some d ∧ W2 d.f_C := by
  unfold pyxhand_Dec.f
  have of : ∀ (x y : Int), -9223372036854775808 ≤ x ∧ x < 9223372036854775808 → ∃ d, ((pyxref1_Of.f k x y).bind fun t7 => (some (⟨t7.f_Neg, (t7.f_C.1, t7.f_C.2), t7.f_Scale⟩ : Sapi_Dec))) = some d ∧ W2 d.f_C := by
    intro x y hx
    rw [ROf_DV hk hx, Option.bind_some]
    exact ⟨_, rfl, Sm_w2 (by unfold Sm; omega)⟩
  rw [Pick_eq k b (by decide) (by decide), Option.bind_some]
  cases (pick b 11 == 0)
  · rw [cond_false]
    cases (pick b 11 == 1)
    · rw [cond_false]
      cases (pick b 11 == 2)
      · rw [cond_false]
        cases (pick b 11 == 3)
        · rw [cond_false, Pick_eq k n (by decide) (by decide), Option.bind_some, Pick_eq k s (by decide) (by decide), Option.bind_some]
          have hb := pick_bd n (m := 2000000) (by decide)
          rw [wrapi (by omega)]
          exact of _ _ (by omega)
        · rw [cond_true, Pick_eq k s (by decide) (by decide), Option.bind_some]
          exact of _ _ hn
      · rw [cond_true, Pick_eq k n (by decide) (by decide), Option.bind_some, Pick_eq k s (by decide) (by decide), Option.bind_some]
        have hb := pick_bd n (m := 7) (by decide)
        rw [wrapi (by omega)]
        exact of _ _ (by omega)
    · rw [cond_true, Pick_eq k s (by decide) (by decide), Option.bind_some, Pick_eq k _ (by decide) (by decide), Option.bind_some]
      exact ⟨_, rfl, W2_wrap _ _⟩
  · rw [cond_true, Pick_eq k n (by decide) (by decide), Option.bind_some]
    exact ⟨_, rfl, W2_wrap _ _⟩
def isW (a : Int) : Bool := a == 3 || a == 6
/-- A line of a middle size, at s places, that is right. -/
def LnOk (s : Nat) (e : Int) (x : Sapi_Line) : Prop := ∃ v : Int, x.f_Amount = DV v s ∧ v.natAbs ≤ 100000000 ∧ v ≠ 0 ∧ (0 ≤ x.f_Acct ∧ x.f_Acct < 16) ∧ (isW x.f_Acct = true → 0 ≤ x.f_With ∧ x.f_With < e) ∧ (isW x.f_Acct = false → x.f_With = -1)
theorem LnOk.w2 {s : Nat} {e : Int} {x : Sapi_Line} (h : LnOk s e x) : W2 x.f_Amount.f_C := by
  obtain ⟨v, h1, h2, _⟩ := h
  rw [h1]
  exact Sm_w2 (by unfold Sm; omega)
/-- What lines come to. -/
def amtS : List Sapi_Line → Int
  | [] => 0
  | x :: r => val x.f_Amount + amtS r
theorem amtS_app : ∀ (l : List Sapi_Line) (x : Sapi_Line), amtS (l ++ [x]) = amtS l + val x.f_Amount
  | [], x => by
    show val x.f_Amount + 0 = 0 + val x.f_Amount
    omega
  | y :: l, x => by
    show val y.f_Amount + amtS (l ++ [x]) = val y.f_Amount + amtS l + val x.f_Amount
    rw [amtS_app l x]
    omega
theorem getD_mem {α : Type} {l : List α} {i : Nat} (d : α) (h : i < l.length) : l.getD i d ∈ l := by
  rw [List.getD_eq_getElem?_getD, List.getElem?_eq_getElem h]
  exact List.getElem_mem h
theorem HLines_loop {k : Nat} (hk : 700 < k) (L : List Int) (hlen : L.length ≤ 9223372036854775807) {s : Nat} (hs : s ≤ 9) (b : Int) {e : Int} (he : 1 ≤ e ∧ e ≤ 4611686018427387904) :
    ∃ out S, iter (pyxhand_Lines.l4.once k) k (L, (s : Int), b, e, 0, [], (DV 0 s).f_Neg, (DV 0 s).f_C.1, (DV 0 s).f_C.2, (DV 0 s).f_Scale) = some ((s : Int), b, out, (DV S s).f_Neg, (DV S s).f_C.1, (DV S s).f_C.2, (DV S s).f_Scale) ∧ S.natAbs ≤ 6000000 ∧ out.length ≤ 6 ∧ (∀ x ∈ out, LnOk s e x) ∧ amtS out = S := by
  obtain ⟨y, h1, h2⟩ := iter_rule (once := pyxhand_Lines.l4.once k) (fun st => ∃ (m : Nat) (out : List Sapi_Line) (S : Int), st = (L, (s : Int), b, e, 2 * (m : Int), out, (DV S s).f_Neg, (DV S s).f_C.1, (DV S s).f_C.2, (DV S s).f_Scale) ∧ m ≤ 6 ∧ out.length = m ∧ S.natAbs ≤ m * 1000000 ∧ (∀ x ∈ out, LnOk s e x) ∧ amtS out = S) (fun st => 7 - st.2.2.2.2.2.1.length)
    (fun r => ∃ out S, r = ((s : Int), b, out, (DV S s).f_Neg, (DV S s).f_C.1, (DV S s).f_C.2, (DV S s).f_Scale) ∧ S.natAbs ≤ 6000000 ∧ out.length ≤ 6 ∧ (∀ x ∈ out, LnOk s e x) ∧ amtS out = S) (by
    rintro _ ⟨m, out, S, rfl, hm, hl, hS, ho, hA⟩
    unfold pyxhand_Lines.l4.once
    dsimp only
    by_cases hc : 2 * m + 1 < L.length ∧ m < 6
    · left
      rw [wrapi (by omega), ct (by omega), Option.bind_some]
      dsimp only
      rw [ct (by omega), inb_t (by omega) (by omega), cond_true, Pick_eq k _ (by decide) (by decide), Option.bind_some, wrapi (by omega), inb_t (by omega) (by omega), cond_true]
      obtain ⟨v, v1, v2⟩ := HAmount_eq (k := k) (by omega) (L.getD (Int.toNat (2 * (m : Int) + 1)) 0) (s : Int)
      rw [cl_of hs] at v1
      rw [v1, Option.bind_some]
      have key : ∀ (acct w : Int), (0 ≤ acct ∧ acct < 16) → (isW acct = true → 0 ≤ w ∧ w < e) → (isW acct = false → w = -1) → ∃ x', ((((pyxref1_Sign.f k (⟨(DV v s).f_Neg, ((DV v s).f_C.1, (DV v s).f_C.2), (DV v s).f_Scale⟩ : Sapi_Dec)).bind fun t45 => (((cond (t45 == 0) ((pyxref1_Of.f k 1 (s : Int)).bind fun t46 => (some (L, (s : Int), b, e, 2 * (m : Int), out, (DV S s).f_Neg, (DV S s).f_C.1, (DV S s).f_C.2, (DV S s).f_Scale, acct, t46.f_Neg, t46.f_C.1, t46.f_C.2, t46.f_Scale, w))) (some (L, (s : Int), b, e, 2 * (m : Int), out, (DV S s).f_Neg, (DV S s).f_C.1, (DV S s).f_C.2, (DV S s).f_Scale, acct, (DV v s).f_Neg, (DV v s).f_C.1, (DV v s).f_C.2, (DV v s).f_Scale, w))) : Option (List Int × Int × Int × Int × Int × List Sapi_Line × Bool × Int × Int × Int × Int × Bool × Int × Int × Int × Int)).bind fun y63 => (cond (okLen (List.length y63.2.2.2.2.2.1 + List.length [(⟨y63.2.2.2.2.2.2.2.2.2.2.1, (⟨y63.2.2.2.2.2.2.2.2.2.2.2.1, (y63.2.2.2.2.2.2.2.2.2.2.2.2.1, y63.2.2.2.2.2.2.2.2.2.2.2.2.2.1), y63.2.2.2.2.2.2.2.2.2.2.2.2.2.2.1⟩ : Sapi_Dec), y63.2.2.2.2.2.2.2.2.2.2.2.2.2.2.2⟩ : Sapi_Line)]) 48) ((pyxref1_Add.f k (⟨y63.2.2.2.2.2.2.1, (y63.2.2.2.2.2.2.2.1, y63.2.2.2.2.2.2.2.2.1), y63.2.2.2.2.2.2.2.2.2.1⟩ : Sapi_Dec) (⟨y63.2.2.2.2.2.2.2.2.2.2.2.1, (y63.2.2.2.2.2.2.2.2.2.2.2.2.1, y63.2.2.2.2.2.2.2.2.2.2.2.2.2.1), y63.2.2.2.2.2.2.2.2.2.2.2.2.2.2.1⟩ : Sapi_Dec)).bind fun t64 => (some (y63.1, y63.2.1, y63.2.2.1, y63.2.2.2.1, y63.2.2.2.2.1, y63.2.2.2.2.2.1 ++ [(⟨y63.2.2.2.2.2.2.2.2.2.2.1, (⟨y63.2.2.2.2.2.2.2.2.2.2.2.1, (y63.2.2.2.2.2.2.2.2.2.2.2.2.1, y63.2.2.2.2.2.2.2.2.2.2.2.2.2.1), y63.2.2.2.2.2.2.2.2.2.2.2.2.2.2.1⟩ : Sapi_Dec), y63.2.2.2.2.2.2.2.2.2.2.2.2.2.2.2⟩ : Sapi_Line)], t64.1.f_Neg, t64.1.f_C.1, t64.1.f_C.2, t64.1.f_Scale))) none))) : Option (List Int × Int × Int × Int × Int × List Sapi_Line × Bool × Int × Int × Int)).bind fun y75 => (some (.inl (y75.1, y75.2.1, y75.2.2.1, y75.2.2.2.1, IntKind.wrap .i64 (y75.2.2.2.2.1 + 2), y75.2.2.2.2.2.1, y75.2.2.2.2.2.2.1, y75.2.2.2.2.2.2.2.1, y75.2.2.2.2.2.2.2.2.1, y75.2.2.2.2.2.2.2.2.2)) : Option (_ ⊕ ((Int × Int × List Sapi_Line × Bool × Int × Int × Int))))) = some (.inl x') ∧ (∃ (m : Nat) (out : List Sapi_Line) (S : Int), x' = (L, (s : Int), b, e, 2 * (m : Int), out, (DV S s).f_Neg, (DV S s).f_C.1, (DV S s).f_C.2, (DV S s).f_Scale) ∧ m ≤ 6 ∧ out.length = m ∧ S.natAbs ≤ m * 1000000 ∧ (∀ x ∈ out, LnOk s e x) ∧ amtS out = S) ∧ 7 - x'.2.2.2.2.2.1.length < 7 - out.length := by
        intro acct w q1 q2 q3
        have hv : Sm v := by unfold Sm; omega
        have sg : pyxref1_Sign.f k (⟨(DV v s).f_Neg, ((DV v s).f_C.1, (DV v s).f_C.2), (DV v s).f_Scale⟩ : Sapi_Dec) = some (if v = 0 then 0 else if v < 0 then -1 else 1) := (RSign_eq (d := DV v s) (by omega) (Sm_w2 hv)).trans (Sign_DV (by omega) hv hs)
        rw [sg, Option.bind_some]
        have fin : ∀ z : Int, z.natAbs ≤ 1000000 → z ≠ 0 → ∃ x', (((cond (okLen (List.length out + List.length [(⟨acct, (⟨(DV z s).f_Neg, ((DV z s).f_C.1, (DV z s).f_C.2), (DV z s).f_Scale⟩ : Sapi_Dec), w⟩ : Sapi_Line)]) 48) ((pyxref1_Add.f k (⟨(DV S s).f_Neg, ((DV S s).f_C.1, (DV S s).f_C.2), (DV S s).f_Scale⟩ : Sapi_Dec) (⟨(DV z s).f_Neg, ((DV z s).f_C.1, (DV z s).f_C.2), (DV z s).f_Scale⟩ : Sapi_Dec)).bind fun t64 => (some (L, (s : Int), b, e, 2 * (m : Int), out ++ [(⟨acct, (⟨(DV z s).f_Neg, ((DV z s).f_C.1, (DV z s).f_C.2), (DV z s).f_Scale⟩ : Sapi_Dec), w⟩ : Sapi_Line)], t64.1.f_Neg, t64.1.f_C.1, t64.1.f_C.2, t64.1.f_Scale))) none) : Option (List Int × Int × Int × Int × Int × List Sapi_Line × Bool × Int × Int × Int)).bind fun y75 => (some (.inl (y75.1, y75.2.1, y75.2.2.1, y75.2.2.2.1, IntKind.wrap .i64 (y75.2.2.2.2.1 + 2), y75.2.2.2.2.2.1, y75.2.2.2.2.2.2.1, y75.2.2.2.2.2.2.2.1, y75.2.2.2.2.2.2.2.2.1, y75.2.2.2.2.2.2.2.2.2)) : Option (_ ⊕ ((Int × Int × List Sapi_Line × Bool × Int × Int × Int))))) = some (.inl x') ∧ (∃ (m : Nat) (out : List Sapi_Line) (S : Int), x' = (L, (s : Int), b, e, 2 * (m : Int), out, (DV S s).f_Neg, (DV S s).f_C.1, (DV S s).f_C.2, (DV S s).f_Scale) ∧ m ≤ 6 ∧ out.length = m ∧ S.natAbs ≤ m * 1000000 ∧ (∀ x ∈ out, LnOk s e x) ∧ amtS out = S) ∧ 7 - x'.2.2.2.2.2.1.length < 7 - out.length := by
          intro z hz hz0
          have ad : pyxref1_Add.f k (⟨(DV S s).f_Neg, ((DV S s).f_C.1, (DV S s).f_C.2), (DV S s).f_Scale⟩ : Sapi_Dec) (⟨(DV z s).f_Neg, ((DV z s).f_C.1, (DV z s).f_C.2), (DV z s).f_Scale⟩ : Sapi_Dec) = _ := RAdd_DV (k := k) (by omega) (i := S) (j := z) (s := s) (t := s) (by unfold Sm; omega) (by unfold Sm; omega) hs hs
          rw [ad, okLen_t (by simp; omega), cond_true, Nat.max_self, Nat.sub_self, Int.pow_zero, Int.mul_one, Int.mul_one, Option.bind_some, Option.bind_some]
          unfold mkD
          rw [if_pos (by omega)]
          refine ⟨_, rfl, ⟨m + 1, out ++ [⟨acct, DV z s, w⟩], S + z, ?_, by omega, by simp [hl], by omega, ?_, by rw [amtS_app, hA, val_DV]⟩, ?_⟩
          · dsimp only
            rw [wrapi (by omega), show 2 * (m : Int) + 2 = 2 * ((m + 1 : Nat) : Int) by omega]
          · intro x hx
            rcases List.mem_append.1 hx with hx | hx
            · exact ho x hx
            · simp only [List.mem_cons, List.not_mem_nil, or_false] at hx
              subst hx
              exact ⟨z, rfl, by omega, hz0, q1, q2, q3⟩
          · dsimp only
            rw [List.length_append, List.length_singleton]
            omega
        by_cases h0 : v = 0
        · rw [if_pos h0, show ((0 : Int) == 0) = true from rfl, cond_true]
          rw [ROf_DV (k := k) (by omega) (by omega), cl_of hs, Option.bind_some, Option.bind_some]
          exact fin 1 (by decide) (by decide)
        · have : ((if v = 0 then (0 : Int) else if v < 0 then -1 else 1) == 0) = false := by
            rw [if_neg h0]; split <;> rfl
          rw [this, cond_false, Option.bind_some]
          exact fin v (by omega) h0
      have hA16 := pick_bd (L.getD (Int.toNat (2 * (m : Int))) 0) (m := 16) (by decide)
      generalize pick (L.getD (Int.toNat (2 * (m : Int))) 0) 16 = ac at *
      have hbb : pyxref11_IsWith.f k ac = some (isW ac) := by
        unfold pyxref11_IsWith.f isW
        cases (ac == 3) <;> rfl
      rw [hbb, Option.bind_some]
      cases hw : isW ac
      · rw [cond_false, Option.bind_some]
        exact key _ _ hA16 (fun h => by rw [hw] at h; cases h) (fun _ => rfl)
      · rw [cond_true, Pick_eq k _ (by split <;> omega) (by split <;> omega), Option.bind_some, cond_true, Option.bind_some]
        refine key _ _ hA16 (fun _ => ?_) (fun h => by rw [hw] at h; cases h)
        dsimp only
        refine ⟨(pick_bd _ (by split <;> omega)).1, Int.lt_of_lt_of_le (pick_bd _ (by split <;> omega)).2 ?_⟩
        split <;> omega
    · right
      by_cases h1 : 2 * m + 1 < L.length
      · rw [wrapi (by omega), ct (by omega), Option.bind_some]
        dsimp only
        rw [cf (by omega)]
        exact ⟨_, rfl, out, S, rfl, by omega, by omega, ho, hA⟩
      · have : ¬ (IntKind.wrap .i64 (2 * (m : Int) + 1) < (L.length : Int)) := by
          rw [wrapi (by omega)]; omega
        rw [cf this, Option.bind_some, cond_false]
        exact ⟨_, rfl, out, S, rfl, by omega, by omega, ho, hA⟩) k _ ⟨0, [], 0, rfl, by omega, rfl, by decide, (fun x hx => by cases hx), rfl⟩ (by dsimp only [List.length_nil]; omega)
  obtain ⟨out, S, rfl, h3⟩ := h2
  exact ⟨out, S, h1, h3⟩
theorem HLines_fill {k : Nat} (hk : 700 < k) (b : Int) {out : List Sapi_Line} (h0 : 0 < out.length) (h9 : out.length ≤ 9) (P : Sapi_Line → Prop) (hP : ∀ x ∈ out, P x) :
    ∃ out', iter (pyxhand_Lines.l28.once k) k (b, out) = some (b, out') ∧ out'.length = 9 ∧ ∀ x ∈ out', P x := by
  obtain ⟨y, h1, h2⟩ := iter_rule (once := pyxhand_Lines.l28.once k) (fun st => ∃ (o : List Sapi_Line), st = (b, o) ∧ 0 < o.length ∧ o.length ≤ 9 ∧ ∀ x ∈ o, P x) (fun st => 9 - st.2.length)
    (fun r => ∃ o, r = (b, o) ∧ o.length = 9 ∧ ∀ x ∈ o, P x) (by
    rintro _ ⟨o, rfl, g0, g9, hp⟩
    unfold pyxhand_Lines.l28.once
    dsimp only
    by_cases hc : o.length < 9
    · left
      rw [ct (by omega), inb_t (by omega) (by omega), cond_true, blt_t (by omega), cond_true, okLen_t (by simp; omega), cond_true]
      refine ⟨_, rfl, ⟨_, rfl, ?_, ?_, ?_⟩, ?_⟩
      · simp
      · simp; omega
      · intro x hx
        rcases List.mem_append.1 hx with hx | hx
        · exact hp x hx
        · simp only [List.mem_cons, List.not_mem_nil, or_false] at hx
          subst hx
          exact hp _ (getD_mem Sapi_Line.zero (by omega))
      · dsimp only
        rw [List.length_append, List.length_singleton]
        omega
    · right
      rw [cf (by omega)]
      exact ⟨_, rfl, o, rfl, by omega, hp⟩) k (b, out) ⟨out, rfl, h0, h9, hP⟩ (by dsimp only; omega)
  obtain ⟨o, rfl, h3⟩ := h2
  exact ⟨o, h1, h3⟩
/-- Is its number one of two words? -/
def LnW (x : Sapi_Line) : Prop := W2 x.f_Amount.f_C
theorem mem_set {α : Type} {l : List α} {i : Nat} {v x : α} (h : x ∈ l.set i v) : x ∈ l ∨ x = v := List.mem_or_eq_of_mem_set h
/-- Raw numbers as lines: some lines, each of whose amounts is of two words; where none is bent, of a middle size. -/
theorem HLines_ok2 {k : Nat} (hk : 700 < k) (L : List Int) (hlen : L.length ≤ 9223372036854775807) {s : Nat} (hs : s ≤ 9) {b : Int} (hb : -9223372036854775808 ≤ b ∧ b < 9223372036854775808) {e : Int} (he : 1 ≤ e ∧ e ≤ 4611686018427387904) :
    ∃ out, pyxhand_Lines.f k L (s : Int) b e = some out ∧ out.length ≤ 9 ∧ (∀ x ∈ out, LnW x) ∧ (b = 0 → amtS out = 0 ∧ 0 < out.length ∧ out.length ≤ 8 ∧ ∀ x ∈ out, LnOk s e x) := by
  unfold pyxhand_Lines.f
  rw [Zero_eq, Option.bind_some]
  obtain ⟨o1, S, l1, l2, l3, l4, l5⟩ := HLines_loop hk L hlen hs b he
  rw [l1, Option.bind_some]
  have hS : Sm S := by unfold Sm; omega
  have sg : pyxref1_Sign.f k (⟨(DV S s).f_Neg, ((DV S s).f_C.1, (DV S s).f_C.2), (DV S s).f_Scale⟩ : Sapi_Dec) = some (if S = 0 then 0 else if S < 0 then -1 else 1) := (RSign_eq (d := DV S s) (by omega) (Sm_w2 hS)).trans (Sign_DV (by omega) hS hs)
  dsimp only
  rw [sg, Option.bind_some]
  -- the balance
  have bal : ∀ bb : Bool, (bb = false → o1 ≠ [] ∧ S = 0) → (bb = true → o1 = [] ∨ S ≠ 0) → ∃ o2 : List Sapi_Line, (((cond bb ((pyxref1_Neg.f k (⟨(DV S s).f_Neg, ((DV S s).f_C.1, (DV S s).f_C.2), (DV S s).f_Scale⟩ : Sapi_Dec)).bind fun t94 => (((cond ((List.length o1 : Int) == 0) ((pyxref1_Of.f k 5 (s : Int)).bind fun t95 => ((pyxref1_Of.f k (-5) (s : Int)).bind fun t96 => (cond (okLen (List.length o1 + List.length [(⟨8, (⟨t96.f_Neg, (t96.f_C.1, t96.f_C.2), t96.f_Scale⟩ : Sapi_Dec), (-1)⟩ : Sapi_Line)]) 48) (some (b, o1 ++ [(⟨8, (⟨t96.f_Neg, (t96.f_C.1, t96.f_C.2), t96.f_Scale⟩ : Sapi_Dec), (-1)⟩ : Sapi_Line)], 0, t95.f_Neg, t95.f_C.1, t95.f_C.2, t95.f_Scale, (-1))) none))) (some (b, o1, 0, t94.f_Neg, t94.f_C.1, t94.f_C.2, t94.f_Scale, (-1)))) : Option (Int × List Sapi_Line × Int × Bool × Int × Int × Int × Int)).bind fun y105 => (cond (okLen (List.length y105.2.1 + List.length [(⟨y105.2.2.1, (⟨y105.2.2.2.1, (y105.2.2.2.2.1, y105.2.2.2.2.2.1), y105.2.2.2.2.2.2.1⟩ : Sapi_Dec), y105.2.2.2.2.2.2.2⟩ : Sapi_Line)]) 48) (some (y105.1, y105.2.1 ++ [(⟨y105.2.2.1, (⟨y105.2.2.2.1, (y105.2.2.2.2.1, y105.2.2.2.2.2.1), y105.2.2.2.2.2.2.1⟩ : Sapi_Dec), y105.2.2.2.2.2.2.2⟩ : Sapi_Line)])) none))) (some (b, o1))) : Option (Int × List Sapi_Line))) = some (b, o2) ∧ 0 < o2.length ∧ o2.length ≤ 8 ∧ (∀ x ∈ o2, LnOk s e x) ∧ amtS o2 = 0 := by
    intro bb hbb hbt
    cases bb
    · refine ⟨o1, rfl, ?_, by omega, l4, by rw [l5]; exact (hbb rfl).2⟩
      have := (hbb rfl).1
      cases o1 with
      | nil => exact absurd rfl this
      | cons a r => exact Nat.succ_pos _
    · have ng : pyxref1_Neg.f k (⟨(DV S s).f_Neg, ((DV S s).f_C.1, (DV S s).f_C.2), (DV S s).f_Scale⟩ : Sapi_Dec) = some (DV (-S) s) := RNeg_DV (by omega) hS hs
      rw [cond_true, ng, Option.bind_some]
      cases o1 with
      | nil =>
        rw [show ((([] : List Sapi_Line).length : Int) == 0) = true from rfl, cond_true, ROf_DV (k := k) (by omega) (by omega), ROf_DV (k := k) (by omega) (by omega), cl_of hs, Option.bind_some, Option.bind_some]
        refine ⟨[⟨8, DV (-5) s, -1⟩, ⟨0, DV 5 s, -1⟩], rfl, Nat.succ_pos _, by simp, fun x hx => ?_, by show val (DV (-5) s) + (val (DV 5 s) + 0) = 0; rw [val_DV, val_DV]; rfl⟩
        simp only [List.mem_cons, List.not_mem_nil, or_false] at hx
        rcases hx with rfl | rfl
        · exact ⟨-5, rfl, by decide, by decide, (by decide : (0 : Int) ≤ 8 ∧ (8 : Int) < 16), (fun h => absurd (show isW 8 = true from h) (by decide)), fun _ => rfl⟩
        · exact ⟨5, rfl, by decide, by decide, (by decide : (0 : Int) ≤ 0 ∧ (0 : Int) < 16), (fun h => absurd (show isW 0 = true from h) (by decide)), fun _ => rfl⟩
      | cons a r =>
        have : (((a :: r).length : Int) == 0) = false := by
          rw [List.length_cons]
          simp
          omega
        rw [this, cond_false, Option.bind_some]
        dsimp only
        rw [okLen_t (by simp only [List.length_cons, List.length_nil] at l3 ⊢; omega), cond_true]
        refine ⟨_, rfl, by simp, by simp only [List.length_append, List.length_cons, List.length_nil] at l3 ⊢; omega, fun x hx => ?_, by rw [amtS_app, l5]; show S + val (DV (-S) s) = 0; rw [val_DV]; omega⟩
        rcases List.mem_append.1 hx with hx | hx
        · exact l4 x hx
        · simp only [List.mem_cons, List.not_mem_nil, or_false] at hx
          subst hx
          exact ⟨-S, rfl, by omega, by rcases hbt rfl with h | h <;> first | (cases h; done) | omega, ⟨Int.le_refl 0, (by decide : (0 : Int) < 16)⟩, (fun h => absurd (show isW 0 = true from h) (by decide)), fun _ => rfl⟩
  have join : ∃ bb : Bool, ((bb = false → o1 ≠ [] ∧ S = 0) ∧ (bb = true → o1 = [] ∨ S ≠ 0)) ∧ (cond ((if S = 0 then (0 : Int) else if S < 0 then -1 else 1) != 0) (some ((s : Int), b, true, o1, (DV S s).f_Neg, (DV S s).f_C.1, (DV S s).f_C.2, (DV S s).f_Scale)) (some ((s : Int), b, (List.length o1 : Int) == 0, o1, (DV S s).f_Neg, (DV S s).f_C.1, (DV S s).f_C.2, (DV S s).f_Scale)) : Option (Int × Int × Bool × List Sapi_Line × Bool × Int × Int × Int)) = some ((s : Int), b, bb, o1, (DV S s).f_Neg, (DV S s).f_C.1, (DV S s).f_C.2, (DV S s).f_Scale) := by
    by_cases hS0 : S = 0
    · rw [if_pos hS0]
      refine ⟨_, ⟨fun h => ⟨?_, hS0⟩, fun h => .inl ?_⟩, rfl⟩
      · rintro rfl
        cases h
      · cases o1 with
        | nil => rfl
        | cons a r =>
          rw [List.length_cons, beq_iff_eq] at h
          omega
    · have : ((if S = 0 then (0 : Int) else if S < 0 then -1 else 1) != 0) = true := by
        rw [if_neg hS0]
        split <;> rfl
      rw [this]
      exact ⟨true, ⟨(fun h => by cases h), fun _ => .inr hS0⟩, rfl⟩
  obtain ⟨bb, hbb, hj⟩ := join
  rw [hj, Option.bind_some]
  dsimp only
  obtain ⟨o2, b1, b2, b3, b4, b5⟩ := bal bb hbb.1 hbb.2
  refine ex_of (bind_at b1 rfl) ?_
  dsimp only
  have pb := pick_bd (IntKind.wrap .i64 (Int.tdiv b 20)) (m := (o2.length : Int)) (by omega)
  rw [Pick_eq k _ (by omega) (by omega), Option.bind_some, Pick_eq k _ (by decide) (by decide), Option.bind_some]
  generalize pick (IntKind.wrap .i64 (Int.tdiv b 20)) (o2.length : Int) = w at *
  have hin : inb w (List.length o2) = true := inb_t (by omega) (by omega)
  have hbl : Nat.blt (Int.toNat w) (List.length o2) = true := blt_t (by omega)
  have hgm := getD_mem Sapi_Line.zero (l := o2) (i := Int.toNat w) (by omega)
  have hgw := (b4 _ hgm).w2
  have put : ∀ (v : Sapi_Line), W2 v.f_Amount.f_C → ∃ out, some (List.set o2 (Int.toNat w) v) = some out ∧ out.length ≤ 9 ∧ ∀ x ∈ out, LnW x := by
    intro v hv
    refine ⟨_, rfl, by rw [List.length_set]; omega, fun x hx => ?_⟩
    rcases mem_set hx with hx | rfl
    · exact (b4 x hx).w2
    · exact hv
  rw [hin, hbl]
  simp only [cond_true]
  by_cases hb0 : b = 0
  · refine ⟨o2, ?_, by omega, fun x hx => (b4 x hx).w2, fun _ => ⟨b5, b2, b3, b4⟩⟩
    have e0 : pick b 20 = 0 := by rw [hb0]; decide
    rw [e0]
    rfl
  refine (?_ : ∃ out, _ = some out ∧ out.length ≤ 9 ∧ ∀ x ∈ out, LnW x).imp fun out h => ⟨h.1, h.2.1, h.2.2, fun h => absurd h hb0⟩
  cases (pick b 20 == 12)
  · rw [cond_false]
    cases (pick b 20 == 13)
    · rw [cond_false]
      cases (pick b 20 == 14)
      · rw [cond_false]
        cases (pick b 20 == 15)
        · rw [cond_false]
          cases (pick b 20 == 16)
          · rw [cond_false]
            exact ⟨o2, rfl, by omega, fun x hx => (b4 x hx).w2⟩
          · rw [cond_true]
            obtain ⟨v, v1, v2, _⟩ := b4 _ hgm
            have ng : pyxref1_Neg.f k (⟨((List.getD o2 (Int.toNat w) Sapi_Line.zero).f_Amount).f_Neg, ((((List.getD o2 (Int.toNat w) Sapi_Line.zero).f_Amount).f_C).1, (((List.getD o2 (Int.toNat w) Sapi_Line.zero).f_Amount).f_C).2), ((List.getD o2 (Int.toNat w) Sapi_Line.zero).f_Amount).f_Scale⟩ : Sapi_Dec) = some (DV (-v) s) := by
              rw [v1]
              exact RNeg_DV (by omega) (by unfold Sm; omega) hs
            rw [ng, Option.bind_some]
            exact put _ (Sm_w2 (by unfold Sm; omega))
        · rw [cond_true]
          obtain ⟨o3, f1, f2, f3⟩ := HLines_fill hk b b2 (by omega) LnW (fun x hx => (b4 x hx).w2)
          rw [f1, Option.bind_some]
          dsimp only
          have p3 := pick_bd (IntKind.wrap .i64 (Int.tdiv b 160)) (m := 3) (by decide)
          rw [Pick_eq k _ (by decide) (by decide), Option.bind_some, wrapi (by omega), inS_t (by omega) (by omega) (by omega), cond_true]
          refine ⟨_, rfl, by rw [List.length_take]; omega, fun x hx => f3 x (List.mem_of_mem_take hx)⟩
      · rw [cond_true, Pick_eq k _ (by decide) (by decide), Option.bind_some]
        exact put _ hgw
    · rw [cond_true]
      obtain ⟨d, d1, d2⟩ := HDec_ok (k := k) (by omega) (s := IntKind.wrap .i64 (Int.tdiv b 7)) (b := IntKind.wrap .i64 (Int.tdiv b 160)) hb
      rw [d1, Option.bind_some]
      exact put _ d2
  · rw [cond_true, Pick_eq k _ (by decide) (by decide), Option.bind_some]
    exact put _ hgw
end Go.Proofs.YtbchcjlllddlpaaGreat.Pure
/- What the checks of an entry's lines compute. No conditions but size. -/
namespace Go.Proofs.YtbchcjlllddlpaaGreat.Pure
set_option linter.unusedVariables false
set_option linter.unusedSimpArgs false
open Go Go.Ev Go.Lm Go.Pu Go.Dg

theorem Of_DV (k : Nat) {n : Int} (h : -9223372036854775808 ≤ n ∧ n < 9223372036854775808) (s : Int) : dec_Of.f k n s = some (DV n (cl s)) := by
  have e : (if (if (9 : Int) < s then 9 else s) > 0 then (if (9 : Int) < s then 9 else s) else 0) = ((cl s : Nat) : Int) := by
    unfold cl
    by_cases h9 : (9 : Int) < s
    · rw [if_pos h9, if_pos (by omega)]; omega
    · rw [if_neg h9]; split <;> omega
  have hw : w2 n.natAbs = (((n.natAbs : Nat) : Int), 0) := by
    unfold w2
    rw [Nat.mod_eq_of_lt (by omega), Nat.div_eq_of_lt (by omega)]
    rfl
  unfold dec_Of.f DV
  rw [hw]
  by_cases hn : n < 0
  · rw [ct hn, Option.bind_some]
    dsimp only
    rw [wrap64, wrap64, show (0 - n % 18446744073709551616) % 18446744073709551616 = ((n.natAbs : Nat) : Int) by omega, Of_eq, Option.bind_some, e]
  · rw [cf hn, Option.bind_some]
    dsimp only
    rw [wrap64, show n % 18446744073709551616 = ((n.natAbs : Nat) : Int) by omega, Of_eq, Option.bind_some, e]
/-- Is a line right? -/
def rlB (s : Nat) (x : Sapi_Line) : Bool := (decide (0 ≤ x.f_Acct) && decide (x.f_Acct < 16)) && ((dOk x.f_Amount && !decide (val x.f_Amount = 0)) && ((x.f_Amount.f_Scale == (s : Int)) && (if isW x.f_Acct then decide (0 ≤ x.f_With) && decide (x.f_With < 8) else x.f_With == -1)))
theorem Kind_eq (k : Nat) (a : Int) : ∃ v, chart_Kind.f k a = some v ∧ (v == 0) = !(decide (0 ≤ a) && decide (a < 16)) := by
  unfold chart_Kind.f
  by_cases h0 : a < 0
  · rw [ct h0, Option.bind_some]
    exact ⟨_, rfl, by rw [decide_eq_false (show ¬ 0 ≤ a by omega)]; rfl⟩
  · rw [cf h0, Option.bind_some]
    dsimp only
    by_cases h1 : a ≥ 16
    · rw [ct h1]
      exact ⟨_, rfl, by rw [decide_eq_false (show ¬ a < 16 by omega), Bool.and_false]; rfl⟩
    · rw [cf h1, decide_eq_true (show 0 ≤ a by omega), decide_eq_true (show a < 16 by omega)]
      cases decide (a ≤ 3) <;> cases decide (a ≤ 6) <;> cases decide (a ≤ 8) <;> exact ⟨_, rfl, rfl⟩
theorem IsWith_eq (k : Nat) (a : Int) : chart_IsWith.f k a = some (isW a) := by
  unfold chart_IsWith.f isW
  cases a == 3 <;> rfl
theorem rightLine_eq {k : Nat} (hk : 60 < k) {x : Sapi_Line} (hw : LnW x) (s : Nat) : entry_rightLine.f k x (s : Int) = some (rlB s x) := by
  obtain ⟨a, d, w⟩ := x
  have hw : W2 d.f_C := hw
  unfold entry_rightLine.f rlB
  dsimp only
  obtain ⟨v, v1, v2⟩ := Kind_eq k a
  have sg : dec_Sign.f k ⟨d.f_Neg, (d.f_C.1, d.f_C.2), d.f_Scale⟩ = some (if dOk d then sgn (val d) else 0) := Sign_val hk hw
  have hj : (cond (decide (w ≥ 0)) (some ((s : Int), decide (w < 8), a, d.f_Neg, d.f_C.1, d.f_C.2, d.f_Scale, w)) (some ((s : Int), false, a, d.f_Neg, d.f_C.1, d.f_C.2, d.f_Scale, w)) : Option (Int × Bool × Int × Bool × Int × Int × Int × Int)) = some ((s : Int), decide (0 ≤ w) && decide (w < 8), a, d.f_Neg, d.f_C.1, d.f_C.2, d.f_Scale, w) := by
    by_cases h : w ≥ 0
    · rw [ct h, decide_eq_true (show 0 ≤ w from h), Bool.true_and]
    · rw [cf h, decide_eq_false (show ¬ 0 ≤ w from h), Bool.false_and]
  rw [hj, Option.bind_some]
  dsimp only
  rw [v1, Option.bind_some, v2, sg]
  have hz : ((if dOk d then sgn (val d) else 0) == (0 : Int)) = !(dOk d && !decide (val d = 0)) := by
    cases dOk d
    · rfl
    · rw [if_pos rfl, sgn_beq]; cases decide (val d = 0) <;> rfl
  rw [Option.bind_some, hz, show (d.f_Scale != (s : Int)) = !(d.f_Scale == (s : Int)) from rfl]
  simp only [IsWith_eq, Option.bind_some]
  cases (decide (0 ≤ a) && decide (a < 16))
  · rfl
  · cases (dOk d && !decide (val d = 0))
    · rfl
    · cases (d.f_Scale == (s : Int))
      · rfl
      · simp only [Bool.not_true, cond_false, Option.bind_some]
        cases isW a
        · rfl
        · cases (decide (0 ≤ w) && decide (w < 8)) <;> rfl
theorem Right_lines {k : Nat} (hk : 60 < k) {l : List Sapi_Line} (hl : l.length ≤ 1000) (hw : ∀ x ∈ l, LnW x) (s : Nat) : ∀ (n i : Nat), i ≤ l.length → l.length - i < n →
    iter (entry_Right.l4.once k) n (l, (s : Int), l, (l.length : Int), (i : Int)) = some (if (l.drop i).all (rlB s) then .inl (l, (s : Int)) else .inr 1) := by
  intro n
  induction n with
  | zero => intro i _ h; omega
  | succ n ih =>
    intro i hi hn
    by_cases hc : i < l.length
    · have hm := getD_mem Sapi_Line.zero (l := l) hc
      have hr := rightLine_eq hk (hw _ hm) s
      have hx : l.getD (Int.toNat (i : Int)) Sapi_Line.zero = l.getD i Sapi_Line.zero := by rw [Int.toNat_natCast]
      rw [drop_getD Sapi_Line.zero hc, List.all_cons]
      generalize l.getD i Sapi_Line.zero = x at *
      cases hb : rlB s x with
      | true =>
        rw [Bool.true_and, ← ih (i + 1) (by omega) (by omega)]
        refine iter_step ?_
        unfold entry_Right.l4.once
        dsimp only
        have hr' : entry_rightLine.f k ⟨x.f_Acct, ⟨x.f_Amount.f_Neg, (x.f_Amount.f_C.1, x.f_Amount.f_C.2), x.f_Amount.f_Scale⟩, x.f_With⟩ (s : Int) = some (rlB s x) := hr
        rw [ct (by omega), inb_t (by omega) (by omega), cond_true, hx, hr', Option.bind_some, hb, Bool.not_true, cond_false, wrapi (by omega)]
        rfl
      | false =>
        rw [Bool.false_and, if_neg (by decide)]
        refine iter_stop ?_
        unfold entry_Right.l4.once
        dsimp only
        have hr' : entry_rightLine.f k ⟨x.f_Acct, ⟨x.f_Amount.f_Neg, (x.f_Amount.f_C.1, x.f_Amount.f_C.2), x.f_Amount.f_Scale⟩, x.f_With⟩ (s : Int) = some (rlB s x) := hr
        rw [ct (by omega), inb_t (by omega) (by omega), cond_true, hx, hr', Option.bind_some, hb, Bool.not_false, cond_true]
    · rw [List.drop_eq_nil_of_le (by omega), List.all_nil, if_pos rfl]
      refine iter_stop ?_
      unfold entry_Right.l4.once
      dsimp only
      rw [cf (by omega)]
/-- The sum of the lines, one by one; none where it does not fit. -/
def runS : Int → List Sapi_Line → Option Int
  | a, [] => some a
  | a, x :: r => if (a + val x.f_Amount).natAbs < 1000000000000000000000000000000 then runS (a + val x.f_Amount) r else none
theorem rl_DV {s : Nat} {x : Sapi_Line} (hw : LnW x) (h : rlB s x = true) : x.f_Amount = DV (val x.f_Amount) s ∧ Sm (val x.f_Amount) ∧ val x.f_Amount ≠ 0 ∧ s ≤ 9 := by
  unfold rlB at h
  simp only [Bool.and_eq_true, Bool.not_eq_true', decide_eq_false_iff_not, beq_iff_eq] at h
  obtain ⟨_, ⟨h1, h2⟩, h3, _⟩ := h
  obtain ⟨g1, g2, g3, g4⟩ := dOk_DV hw h1
  have hs : x.f_Amount.f_Scale.toNat = s := by omega
  rw [hs] at g1 g3
  exact ⟨g1, g2, h2, g3⟩
def sums (s : Nat) (r : Option Int) : ((Bool × Int × Int × Int) ⊕ Int) := match r with
  | some S => .inl ((DV S s).f_Neg, (DV S s).f_C.1, (DV S s).f_C.2, (DV S s).f_Scale)
  | none => .inr 3
theorem Right_sums {k : Nat} (hk : 60 < k) {l : List Sapi_Line} (hl : l.length ≤ 1000) (hw : ∀ x ∈ l, LnW x) {s : Nat} (hr : ∀ x ∈ l, rlB s x = true) : ∀ (n i : Nat) (a : Int), i ≤ l.length → l.length - i < n → Sm a →
    iter (entry_Right.l11.once k) n (l, (l.length : Int), (i : Int), (DV a s).f_Neg, (DV a s).f_C.1, (DV a s).f_C.2, (DV a s).f_Scale) = some (sums s (runS a (l.drop i))) := by
  intro n
  induction n with
  | zero => intro i a _ h; omega
  | succ n ih =>
    intro i a hi hn ha
    by_cases hc : i < l.length
    · have hm := getD_mem Sapi_Line.zero (l := l) hc
      obtain ⟨g1, g2, g3, g4⟩ := rl_DV (hw _ hm) (hr _ hm)
      rw [drop_getD Sapi_Line.zero hc]
      have hx : l.getD (Int.toNat (i : Int)) Sapi_Line.zero = l.getD i Sapi_Line.zero := by rw [Int.toNat_natCast]
      have e1 : dec_Add.f k ⟨(DV a s).f_Neg, ((DV a s).f_C.1, (DV a s).f_C.2), (DV a s).f_Scale⟩ ⟨(l.getD i Sapi_Line.zero).f_Amount.f_Neg, ((l.getD i Sapi_Line.zero).f_Amount.f_C.1, (l.getD i Sapi_Line.zero).f_Amount.f_C.2), (l.getD i Sapi_Line.zero).f_Amount.f_Scale⟩ = some (mkD (a + val (l.getD i Sapi_Line.zero).f_Amount) s) := by
        have := Add_DV hk (i := a) (j := val (l.getD i Sapi_Line.zero).f_Amount) (s := s) (t := s) ha g2 g4 g4
        rw [← g1, Nat.max_self, Nat.sub_self, Int.pow_zero, Int.mul_one, Int.mul_one] at this
        exact this
      unfold runS
      by_cases hf : (a + val (l.getD i Sapi_Line.zero).f_Amount).natAbs < 1000000000000000000000000000000
      · rw [if_pos hf, ← ih (i + 1) _ (by omega) (by omega) hf]
        refine iter_step ?_
        unfold entry_Right.l11.once
        dsimp only
        unfold mkD at e1
        rw [if_pos hf] at e1
        rw [ct (by omega), inb_t (by omega) (by omega), cond_true, hx, e1, Option.bind_some, wrapi (by omega)]
        rfl
      · rw [if_neg hf]
        refine iter_stop ?_
        unfold entry_Right.l11.once
        dsimp only
        unfold mkD at e1
        rw [if_neg hf] at e1
        rw [ct (by omega), inb_t (by omega) (by omega), cond_true, hx, e1, Option.bind_some]
        rfl
    · rw [List.drop_eq_nil_of_le (by omega)]
      refine iter_stop ?_
      unfold entry_Right.l11.once
      dsimp only
      rw [cf (by omega)]
      rfl
theorem runS_Sm : ∀ (l : List Sapi_Line) (a S : Int), Sm a → runS a l = some S → Sm S := by
  intro l
  induction l with
  | nil => intro a S ha h; unfold runS at h; cases h; exact ha
  | cons x r ih =>
    intro a S ha h
    unfold runS at h
    split at h
    · exact ih _ _ (by assumption) h
    · cases h
/-- What the check of an entry's lines answers. -/
def rightE (s : Nat) (l : List Sapi_Line) : Int := if l.length = 0 ∨ 8 < l.length then 1 else if l.all (rlB s) then (match runS 0 l with | none => 3 | some S => if S = 0 then 0 else 9) else 1
theorem ERight_eq {k : Nat} (hk : 60 < k) {l : List Sapi_Line} (hl : l.length ≤ 1000 ∧ l.length < k) (hw : ∀ x ∈ l, LnW x) {s : Nat} (hs : s ≤ 9) : entry_Right.f k l (s : Int) = some (rightE s l) := by
  unfold entry_Right.f rightE
  have hj : (cond ((List.length l : Int) == 0) (some (l, (s : Int), true)) (some (l, (s : Int), decide ((List.length l : Int) > 8))) : Option (List Sapi_Line × Int × Bool)) = some (l, (s : Int), decide (l.length = 0 ∨ 8 < l.length)) := by
    by_cases h : l.length = 0
    · rw [show ((List.length l : Int) == 0) = true by rw [h]; rfl, cond_true, decide_eq_true (.inl h)]
    · rw [show ((List.length l : Int) == 0) = false by rw [Bool.eq_false_iff]; intro hh; rw [beq_iff_eq] at hh; omega, cond_false]
      congr 3
      rw [decide_eq_decide]; omega
  rw [hj, Option.bind_some]
  dsimp only
  by_cases h : l.length = 0 ∨ 8 < l.length
  · rw [ct h, if_pos h]
  · rw [cf h, if_neg h]
    have h4 := Right_lines hk hl.1 hw s k 0 (by omega) (by omega)
    rw [List.drop_zero] at h4
    have h4' : iter (entry_Right.l4.once k) k (l, (s : Int), l, (l.length : Int), 0) = _ := h4
    rw [h4', Option.bind_some]
    by_cases ha : l.all (rlB s) = true
    · rw [if_pos ha, if_pos ha]
      dsimp only
      rw [Of_DV k (by omega), cl_of hs, Option.bind_some]
      have h5 := Right_sums hk hl.1 hw (s := s) (fun x hx => List.all_eq_true.1 ha x hx) k 0 0 (by omega) (by omega) (by unfold Sm; decide)
      rw [List.drop_zero] at h5
      have h5' : iter (entry_Right.l11.once k) k (l, (l.length : Int), 0, (DV 0 s).f_Neg, (DV 0 s).f_C.1, (DV 0 s).f_C.2, (DV 0 s).f_Scale) = _ := h5
      rw [h5', Option.bind_some]
      unfold sums
      cases hr : runS 0 l with
      | none => rfl
      | some S =>
        dsimp only
        have hS := runS_Sm l 0 S (by unfold Sm; decide) hr
        have sg : dec_Sign.f k ⟨(DV S s).f_Neg, ((DV S s).f_C.1, (DV S s).f_C.2), (DV S s).f_Scale⟩ = _ := Sign_DV hk hS hs
        rw [sg, Option.bind_some]
        by_cases h0 : S = 0
        · rw [if_pos h0, if_pos h0]; rfl
        · rw [if_neg h0, if_neg h0]
          split <;> rfl
    · rw [if_neg ha, if_neg ha]
end Go.Proofs.YtbchcjlllddlpaaGreat.Pure
/- What the calls on an entity's book compute. No conditions but size. -/
namespace Go.Proofs.YtbchcjlllddlpaaGreat.Pure
set_option linter.unusedVariables false
set_option linter.unusedSimpArgs false
open Go Go.Ev Go.Lm Go.Pu Go.Dg

def T12 (t : Speriod_Table) : Prop := t.f_Closed.length = 12 ∧ t.f_Version.length = 12
theorem pk {t : Speriod_Table} (h : T12 t) : (⟨pack 12 false t.f_Closed, pack 12 0 t.f_Version⟩ : Speriod_Table) = t := by
  rw [pack_eq false h.1, pack_eq 0 h.2]
theorem pkB {b : Sledger_Book} (h : T12 b.f_t) : (⟨b.f_scale, b.f_l, ⟨pack 12 false b.f_t.f_Closed, pack 12 0 b.f_t.f_Version⟩⟩ : Sledger_Book) = b := by
  rw [pk h]
/-- Is a period one, and open? -/
def opn (t : Speriod_Table) (p : Int) : Bool := decide (p ≥ 0) && (decide (p < 12) && !(t.f_Closed.getD p.toNat false))
theorem IsOpen_eq (k : Nat) {t : Speriod_Table} (h : T12 t) (p : Int) : period_IsOpen.f k t p = some (opn t p) := by
  unfold period_IsOpen.f period_is.f opn
  by_cases h0 : p ≥ 0
  · rw [ct h0, decide_eq_true h0, Option.bind_some]
    by_cases h1 : p < 12
    · rw [ct h1, decide_eq_true h1, inb_t (by omega) (by omega), blt_t (by omega), cond_true, cond_true, pack_eq false h.1]
      rfl
    · rw [cf h1, decide_eq_false h1]; rfl
  · rw [cf h0, decide_eq_false h0]; rfl
noncomputable def addR (b : Sledger_Book) (x : Sapi_Entry) : Int × Int × Sledger_Book := if opn b.f_t x.f_Period then (if b.f_l.length = 40 then (0, 5, b) else ((b.f_l.length : Int), 0, ⟨b.f_scale, b.f_l ++ [x], b.f_t⟩)) else (0, 8, b)
theorem Badd_eq (k : Nat) {b : Sledger_Book} (h : T12 b.f_t) (hl : b.f_l.length ≤ 40) {x : Sapi_Entry} (hx : x.f_Lines.length ≤ 1000) : ledger_Book_add.f k b x = some (addR b x) := by
  unfold ledger_Book_add.f addR slices_Clone_api_Line.f
  rw [pkB h, pk h, IsOpen_eq k h, Option.bind_some]
  cases opn b.f_t x.f_Period
  · rw [if_neg (by decide)]; rfl
  · rw [Bool.not_true, cond_false, if_pos rfl]
    by_cases h40 : b.f_l.length = 40
    · rw [if_pos h40, show ((b.f_l.length : Int) == 40) = true by rw [h40]; rfl, cond_true]
    · rw [if_neg h40, show ((b.f_l.length : Int) == 40) = false by rw [Bool.eq_false_iff]; intro hh; rw [beq_iff_eq] at hh; omega, cond_false, okLen_t (by simp; omega), cond_true, Option.bind_some, okLen_t (by simp; omega), cond_true, List.nil_append, wrapi (by simp; omega), List.length_append, List.length_singleton]
      rw [show (((b.f_l.length + 1 : Nat) : Int) - 1) = (b.f_l.length : Int) by omega]
theorem addR_T {b : Sledger_Book} (h : T12 b.f_t) (x : Sapi_Entry) : T12 (addR b x).2.2.f_t := by
  unfold addR; split <;> (try split) <;> exact h
noncomputable def postR (s : Nat) (b : Sledger_Book) (p : Int) (l : List Sapi_Line) : Int × Int × Sledger_Book := if rightE s l = 0 then addR b ⟨p, l, -1⟩ else (0, rightE s l, b)
theorem Bpost_eq {k : Nat} (hk : 1000 < k) {b : Sledger_Book} (h : T12 b.f_t) (hl : b.f_l.length ≤ 40) {s : Nat} (hs : s ≤ 9) (hb : b.f_scale = (s : Int)) (p : Int) {l : List Sapi_Line} (hn : l.length ≤ 1000) (hw : ∀ x ∈ l, LnW x) :
    ledger_Book_Post.f k b p l = some (postR s b p l) := by
  unfold ledger_Book_Post.f postR
  rw [hb, ERight_eq (k := k) (by omega) ⟨hn, by omega⟩ hw hs, Option.bind_some, ← hb, pkB h]
  by_cases h0 : rightE s l = 0
  · rw [if_pos h0, show (rightE s l != 0) = false by rw [h0]; rfl, cond_false, Badd_eq k h hl (x := ⟨p, l, -1⟩) hn, Option.bind_some, pkB (addR_T h _)]
  · rw [if_neg h0, show (rightE s l != 0) = true by rw [bne_iff_ne]; exact h0, cond_true]
/-- Lines that were posted. -/
def LsOk (s : Nat) (l : List Sapi_Line) : Prop := l.length ≤ 8 ∧ ∀ x ∈ l, x.f_Amount = DV (val x.f_Amount) s ∧ Sm (val x.f_Amount)
theorem set_getD {α : Type} (l : List α) (i : Nat) (d : α) : l.set i (l.getD i d) = l := by
  by_cases h : i < l.length
  · rw [List.getD_eq_getElem?_getD, List.getElem?_eq_getElem h, Option.getD_some, List.set_getElem_self]
  · exact List.set_eq_of_length_le (by omega)
theorem Bentries_eq {k : Nat} (hk : 1000 < k) {b : Sledger_Book} (h : T12 b.f_t) (hl : b.f_l.length ≤ 40) (he : ∀ x ∈ b.f_l, x.f_Lines.length ≤ 1000) : ledger_Book_Entries.f k b = some (b.f_l, b) := by
  unfold ledger_Book_Entries.f slices_Clone_api_Entry_o.f slices_Clip_api_Entry_v0_o.f
  rw [okLen_t (by simp; omega), cond_true, List.nil_append, Option.bind_some, decide_eq_true rfl, Bool.and_true, cond_true, Option.bind_some, pk h]
  have hi := iter_seq (once := ledger_Book_Entries.l5.once k) (fun i => ((b.f_l.length : Int), (i : Int), b.f_l, b.f_scale, b.f_l, b.f_t)) b.f_l.length (by
    intro i hi
    have hm := he _ (getD_mem Sapi_Entry.zero hi)
    unfold ledger_Book_Entries.l5.once slices_Clone_api_Line.f slices_Clip_api_Line.f
    dsimp only
    rw [ct (by omega), inb_t (by omega) (by omega), cond_true, Int.toNat_natCast, blt_t hi, cond_true, okLen_t (by simp only [List.length_nil, Nat.zero_add]; omega), cond_true, List.nil_append, Option.bind_some, decide_eq_true rfl, Bool.true_and, inS_t (by omega) (by omega) (by omega), cond_true, Option.bind_some, cond_true, cond_true, pk h, Int.toNat_natCast, List.take_length, wrapi (by omega)]
    have : (⟨(b.f_l.getD i Sapi_Entry.zero).f_Period, (b.f_l.getD i Sapi_Entry.zero).f_Lines, (b.f_l.getD i Sapi_Entry.zero).f_Of⟩ : Sapi_Entry) = b.f_l.getD i Sapi_Entry.zero := rfl
    rw [this, set_getD]
    rfl) (b.f_l, b.f_scale, b.f_l, b.f_t) (by
    unfold ledger_Book_Entries.l5.once
    dsimp only
    rw [cf (by omega), pk h]) k 0 (by omega) (by omega)
  have hi' : iter (ledger_Book_Entries.l5.once k) k ((b.f_l.length : Int), 0, b.f_l, b.f_scale, b.f_l, b.f_t) = some (b.f_l, b.f_scale, b.f_l, b.f_t) := hi
  rw [hi', Option.bind_some]
  dsimp only
  rw [pkB h]
end Go.Proofs.YtbchcjlllddlpaaGreat.Pure
/- What the calls on periods compute, told by lists. No conditions but that the lists are of twelve. -/
namespace Go.Proofs.YtbchcjlllddlpaaGreat.Pe
set_option linter.unusedVariables false
set_option linter.unusedSimpArgs false
open Go Go.Ev Go.Pu

def F12 : List Bool := [false, false, false, false, false, false, false, false, false, false, false, false]
def Z12 : List Int := [0, 0, 0, 0, 0, 0, 0, 0, 0, 0, 0, 0]
def cOk (C : List Bool) (p : Int) : Bool := decide (0 ≤ p) && (decide (p < 12) && (!C.getD p.toNat false && (!decide (p > 0) || C.getD (p - 1).toNat false)))
def clo (C : List Bool) (V : List Int) (p : Int) : List Bool × List Int × Int := if cOk C p = true then (C.set p.toNat true, V.set p.toNat (IntKind.wrap .i64 (V.getD p.toNat 0 + 1)), 0) else (F12, Z12, 8)
def isO (C : List Bool) (p : Int) : Bool := decide (0 ≤ p) && (decide (p < 12) && !C.getD p.toNat false)

theorem is_eq (k : Nat) (p : Int) : period_is.f k p = some (decide (0 ≤ p) && decide (p < 12)) := by
  unfold period_is.f
  by_cases h : p ≥ 0
  · rw [ct h]; simp [h]
  · rw [cf h]; simp; omega
section
variable {C : List Bool} {V : List Int} (hC : C.length = 12) (hV : V.length = 12) (k : Nat) {p : Int} (hp : -1000 ≤ p ∧ p ≤ 1000)
include hC
theorem IsOpen_eq (p : Int) : period_IsOpen.f k ⟨C, V⟩ p = some (isO C p) := by
  unfold period_IsOpen.f isO
  rw [is_eq, Option.bind_some]
  simp only [pack_eq false hC]
  by_cases h : 0 ≤ p ∧ p < 12
  · rw [decide_eq_true h.1, decide_eq_true h.2, inb_t h.1 (by omega), blt_t (by omega)]; rfl
  · by_cases h1 : 0 ≤ p
    · rw [decide_eq_false (show ¬ p < 12 by omega)]; simp
    · rw [decide_eq_false h1]; simp
include hV hp
end
end Go.Proofs.YtbchcjlllddlpaaGreat.Pe
/- The reference's book, told right beside the program's. No conditions but size. -/
namespace Go.Proofs.YtbchcjlllddlpaaGreat.Pure
set_option linter.unusedVariables false
set_option linter.unusedSimpArgs false
open Go Go.Ev Go.Lm Go.Pu Go.Dg
theorem bof {α β : Type} {o : Option α} {v : α} {f : α → Option β} {r : Option β} (h : o = some v) (h' : f v = r) : o.bind f = r := by rw [h]; exact h'
theorem getD_memL {α : Type} {l : List α} {i : Nat} (d : α) (h : i < l.length) : l.getD i d ∈ l := by
  rw [List.getD_eq_getElem?_getD, List.getElem?_eq_getElem h]
  exact List.getElem_mem h
end Go.Proofs.YtbchcjlllddlpaaGreat.Pure
/- The reference's book against the program's: reversals, periods; the same entries. No conditions but size. -/
namespace Go.Proofs.YtbchcjlllddlpaaGreat.Pure
set_option linter.unusedVariables false
set_option linter.unusedSimpArgs false
open Go Go.Ev Go.Lm Go.Pu Go.Dg
structure TInv (s : Nat) (b : Sledger_Book) : Prop where
  T : T12 b.f_t
  len : b.f_l.length ≤ 40
  sc : b.f_scale = (s : Int)
  ls : ∀ x ∈ b.f_l, LsOk s x.f_Lines
theorem TInv.add {s : Nat} {b : Sledger_Book} (h : TInv s b) {x : Sapi_Entry} (hx : LsOk s x.f_Lines) : TInv s (addR b x).2.2 := by
  unfold addR
  split
  · split
    · exact h
    · rename_i h40
      have := h.len
      refine ⟨h.T, by simp; omega, h.sc, fun y hy => ?_⟩
      rcases List.mem_append.1 hy with hy | hy
      · exact h.ls y hy
      · have : y = x := by simpa using hy
        rw [this]; exact hx
  · exact h
theorem LsOk_right {s : Nat} {l : List Sapi_Line} (hw : ∀ x ∈ l, LnW x) (h : rightE s l = 0) : LsOk s l := by
  unfold rightE at h
  split at h
  · cases h
  · rename_i h0
    split at h
    · rename_i ha
      refine ⟨by omega, fun x hx => ?_⟩
      obtain ⟨e1, e2, _, _⟩ := rl_DV (hw x hx) (List.all_eq_true.1 ha x hx)
      exact ⟨e1, e2⟩
    · cases h
theorem TInv.post {s : Nat} {b : Sledger_Book} (h : TInv s b) (p : Int) {l : List Sapi_Line} (hw : ∀ x ∈ l, LnW x) : TInv s (postR s b p l).2.2 := by
  unfold postR
  split
  · rename_i h0
    exact h.add (LsOk_right hw h0)
  · exact h
end Go.Proofs.YtbchcjlllddlpaaGreat.Pure
/- The books of raw acts: the project's and the document's are one. No conditions but size. -/
namespace Go.Proofs.YtbchcjlllddlpaaGreat.Pure
set_option linter.unusedVariables false
set_option linter.unusedSimpArgs false
open Go Go.Ev Go.Lm Go.Pu Go.Dg
/-- An empty book. -/
def b0 (s : Nat) : Sledger_Book := ⟨(s : Int), [], ⟨[false, false, false, false, false, false, false, false, false, false, false, false], [0, 0, 0, 0, 0, 0, 0, 0, 0, 0, 0, 0]⟩⟩
theorem b0_inv (s : Nat) : TInv s (b0 s) := ⟨⟨rfl, rfl⟩, Nat.zero_le _, rfl, fun x hx => (List.not_mem_nil hx).elim⟩
end Go.Proofs.YtbchcjlllddlpaaGreat.Pure
/- Sums by keys, in plain numbers: a map of them and a list that rises are one. No conditions but size. -/
namespace Go.Proofs.YtbchcjlllddlpaaGreat.Pure
set_option linter.unusedVariables false
set_option linter.unusedSimpArgs false
open Go Go.Ev Go.Lm Go.Pu Go.Dg
abbrev KZ := Int × Int
def ltZ (a b : KZ) : Bool := decide (a.1 < b.1) || (a.1 == b.1 && decide (a.2 < b.2))
theorem ltZ_iff {a b : KZ} : ltZ a b = true ↔ a.1 < b.1 ∨ (a.1 = b.1 ∧ a.2 < b.2) := by unfold ltZ; simp
theorem ltZ_irr {a b : KZ} (h : ltZ a b = true) : a ≠ b := by
  rintro rfl
  rw [ltZ_iff] at h
  omega
theorem ltZ_trans {a b c : KZ} (h : ltZ a b = true) (h' : ltZ b c = true) : ltZ a c = true := by
  rw [ltZ_iff] at *
  omega
theorem ltZ_total {a b : KZ} (h : ltZ a b = false) (h' : b ≠ a) : ltZ b a = true := by
  rw [ltZ_iff]
  have h1 : ¬ (a.1 < b.1 ∨ (a.1 = b.1 ∧ a.2 < b.2)) := fun hh => by rw [ltZ_iff.2 hh] at h; cases h
  by_cases e1 : b.1 = a.1
  · by_cases e2 : b.2 = a.2
    · exact absurd (Prod.ext e1 e2) h'
    · omega
  · omega
theorem keq_iff {a b : KZ} : keq_a2_i64 a b = true ↔ a = b := by
  unfold keq_a2_i64
  rw [Bool.and_eq_true, beq_iff_eq, beq_iff_eq]
  exact ⟨fun h => Prod.ext h.1 h.2, fun h => by rw [h]; exact ⟨rfl, rfl⟩⟩
/-- Does it rise? -/
def Ris (l : List (KZ × Int)) : Prop := l.Pairwise fun a b => ltZ a.1 b.1 = true
def SmL (l : List (KZ × Int)) : Prop := ∀ p ∈ l, Sm p.2
instance (v : Int) : Decidable (Sm v) := by unfold Sm; exact inferInstance
/-- A number more at a key of a list that rises. -/
def putZ (k : KZ) (v : Int) : List (KZ × Int) → Option (List (KZ × Int))
  | [] => some [(k, v)]
  | x :: r => if x.1 = k then (if Sm (x.2 + v) then some ((k, x.2 + v) :: r) else none) else if ltZ k x.1 = true then some ((k, v) :: x :: r) else (putZ k v r).map (x :: ·)
/-- What stands there. -/
def getZ (k : KZ) : List (KZ × Int) → Option Int
  | [] => none
  | x :: r => if x.1 = k then some x.2 else getZ k r
theorem getZ_mem : ∀ {l : List (KZ × Int)} {k : KZ} {v : Int}, getZ k l = some v → (k, v) ∈ l
  | [], k, v, h => by cases h
  | x :: r, k, v, h => by
    unfold getZ at h
    split at h
    · rename_i e
      cases h
      rw [← e]
      exact List.mem_cons_self
    · exact List.mem_cons_of_mem _ (getZ_mem h)
theorem getZ_none : ∀ {l : List (KZ × Int)} {k : KZ}, getZ k l = none → ∀ p ∈ l, p.1 ≠ k
  | [], k, h, p, hp => (List.not_mem_nil hp).elim
  | x :: r, k, h, p, hp => by
    unfold getZ at h
    split at h
    · cases h
    · rename_i e
      rcases List.mem_cons.1 hp with rfl | hp
      · exact e
      · exact getZ_none h p hp
theorem getZ_above {k : KZ} {l : List (KZ × Int)} (h : ∀ p ∈ l, ltZ k p.1 = true) : getZ k l = none := by
  induction l with
  | nil => rfl
  | cons x r ih =>
    unfold getZ
    rw [if_neg (fun e => ltZ_irr (h x List.mem_cons_self) e.symm), ih fun p hp => h p (List.mem_cons_of_mem _ hp)]
/-- What is put: what is known of it. -/
theorem putZ_spec {k : KZ} {v : Int} (hv : Sm v) : ∀ {l : List (KZ × Int)}, Ris l → SmL l → match putZ k v l with
    | some z => Ris z ∧ SmL z ∧ z.length ≤ l.length + 1 ∧ (∀ p ∈ z, p.1 = k ∨ p.1 ∈ l.map (·.1)) ∧ (match getZ k l with
      | some u => Sm (u + v) ∧ z = l.map fun p => if p.1 = k then (k, u + v) else p
      | none => z.Perm ((k, v) :: l))
    | none => ∃ u, getZ k l = some u ∧ ¬ Sm (u + v)
  | [], _, _ => ⟨List.pairwise_singleton _ _, fun p hp => by rw [List.mem_singleton.1 hp]; exact hv, Nat.le_refl _, fun p hp => .inl (by rw [List.mem_singleton.1 hp]), .refl _⟩
  | x :: r, hr, hs => by
    have hr' := List.pairwise_cons.1 hr
    have hsr : SmL r := fun p hp => hs p (List.mem_cons_of_mem _ hp)
    unfold putZ getZ
    by_cases e : x.1 = k
    · rw [if_pos e, if_pos e]
      by_cases hm : Sm (x.2 + v)
      · rw [if_pos hm]
        have hmap : ∀ p ∈ r, (if p.1 = k then (k, x.2 + v) else p) = p := fun p hp => by
          have := hr'.1 p hp
          rw [if_neg (fun e' => ltZ_irr this (by rw [e, e']))]
        refine ⟨List.pairwise_cons.2 ⟨fun p hp => by have := hr'.1 p hp; rw [e] at this; exact this, hr'.2⟩, fun p hp => ?_, by simp, fun p hp => ?_, hm, ?_⟩
        · rcases List.mem_cons.1 hp with rfl | hp
          · exact hm
          · exact hsr p hp
        · rcases List.mem_cons.1 hp with rfl | hp
          · exact .inl rfl
          · exact .inr (List.mem_map.2 ⟨p, List.mem_cons_of_mem _ hp, rfl⟩)
        · rw [List.map_cons, if_pos e, (List.map_congr_left hmap).trans (List.map_id _)]
      · rw [if_neg hm]
        exact ⟨x.2, rfl, hm⟩
    · rw [if_neg e, if_neg e]
      by_cases hl : ltZ k x.1 = true
      · rw [if_pos hl]
        have hab : ∀ p ∈ r, ltZ k p.1 = true := fun p hp => ltZ_trans hl (hr'.1 p hp)
        rw [getZ_above hab]
        refine ⟨List.pairwise_cons.2 ⟨fun p hp => ?_, hr⟩, fun p hp => ?_, by simp, fun p hp => ?_, .refl _⟩
        · rcases List.mem_cons.1 hp with rfl | hp
          · exact hl
          · exact hab p hp
        · rcases List.mem_cons.1 hp with rfl | hp
          · exact hv
          · exact hs p hp
        · rcases List.mem_cons.1 hp with rfl | hp
          · exact .inl rfl
          · exact .inr (List.mem_map.2 ⟨p, hp, rfl⟩)
      · rw [if_neg hl]
        have hxk : ltZ x.1 k = true := ltZ_total (by simpa using hl) e
        have ih := putZ_spec (k := k) hv hr'.2 hsr
        cases hz : putZ k v r with
        | none =>
          rw [hz] at ih
          exact ih
        | some z =>
          rw [hz] at ih
          obtain ⟨h1, h2, h3, h4, h5⟩ := ih
          refine ⟨List.pairwise_cons.2 ⟨fun p hp => ?_, h1⟩, fun p hp => ?_, by simp; omega, fun p hp => ?_, ?_⟩
          · rcases h4 p hp with h | h
            · rw [h]; exact hxk
            · obtain ⟨q, hq, e'⟩ := List.mem_map.1 h
              rw [← e']
              exact hr'.1 q hq
          · rcases List.mem_cons.1 hp with rfl | hp
            · exact hs _ List.mem_cons_self
            · exact h2 p hp
          · rcases List.mem_cons.1 hp with rfl | hp
            · exact .inr (List.mem_map.2 ⟨_, List.mem_cons_self, rfl⟩)
            · rcases h4 p hp with h | h
              · exact .inl h
              · exact .inr (by rw [List.map_cons]; exact List.mem_cons_of_mem _ h)
          · cases hg : getZ k r with
            | some u =>
              rw [hg] at h5
              refine ⟨h5.1, ?_⟩
              rw [List.map_cons, if_neg e, h5.2]
            | none =>
              rw [hg] at h5
              exact (List.Perm.cons x h5).trans (.swap _ _ _)
/-- A map of such numbers, at s places: the same as a list that rises. -/
def mkz (s : Nat) (p : KZ × Int) : KZ × Sapi_Dec := (p.1, DV p.2 s)
theorem Ris.nd {l : List (KZ × Int)} (h : Ris l) : (l.map (·.1)).Nodup := by
  unfold List.Nodup
  rw [List.pairwise_map]
  exact h.imp fun h => ltZ_irr h
theorem mkz_keys (s : Nat) (l : List (KZ × Int)) : (l.map (mkz s)).map (·.1) = l.map (·.1) := by
  rw [List.map_map]
  rfl
theorem mget_nd {k : KZ} {d : Sapi_Dec} : ∀ {M : List (KZ × Sapi_Dec)}, (M.map (·.1)).Nodup → (k, d) ∈ M → mget (keq_a2_i64 k) M = some d
  | [], _, h => by cases h
  | x :: r, hn, h => by
    rw [List.map_cons, List.nodup_cons] at hn
    unfold mget
    rcases List.mem_cons.1 h with e | h
    · subst e
      rw [keq_iff.2 rfl]
      rfl
    · have : keq_a2_i64 k x.1 = false := by
        rw [Bool.eq_false_iff]
        intro hk
        exact hn.1 (List.mem_map.2 ⟨_, h, keq_iff.1 hk⟩)
      rw [this]
      exact mget_nd hn.2 h
theorem mget_no {k : KZ} : ∀ {M : List (KZ × Sapi_Dec)}, (∀ p ∈ M, p.1 ≠ k) → mget (keq_a2_i64 k) M = none
  | [], _ => rfl
  | x :: r, h => by
    unfold mget
    have : keq_a2_i64 k x.1 = false := by
      rw [Bool.eq_false_iff]
      intro hk
      exact h x List.mem_cons_self (keq_iff.1 hk).symm
    rw [this]
    exact mget_no fun p hp => h p (List.mem_cons_of_mem _ hp)
theorem mput_no {k : KZ} {d : Sapi_Dec} : ∀ {M : List (KZ × Sapi_Dec)}, (∀ p ∈ M, p.1 ≠ k) → mput (keq_a2_i64 k) k d M = M ++ [(k, d)]
  | [], _ => rfl
  | x :: r, h => by
    unfold mput
    have : keq_a2_i64 k x.1 = false := by
      rw [Bool.eq_false_iff]
      intro hk
      exact h x List.mem_cons_self (keq_iff.1 hk).symm
    rw [this, cond_false, mput_no fun p hp => h p (List.mem_cons_of_mem _ hp)]
    rfl
theorem mput_nd {k : KZ} {d u : Sapi_Dec} : ∀ {M : List (KZ × Sapi_Dec)}, (M.map (·.1)).Nodup → (k, u) ∈ M → mput (keq_a2_i64 k) k d M = M.map fun p => if p.1 = k then (k, d) else p
  | [], _, h => by cases h
  | x :: r, hn, h => by
    rw [List.map_cons, List.nodup_cons] at hn
    unfold mput
    by_cases e : x.1 = k
    · rw [keq_iff.2 e.symm, cond_true, List.map_cons, if_pos e, e]
      congr 1
      refine ((List.map_congr_left fun p hp => ?_).trans (List.map_id r)).symm
      exact if_neg fun e' => hn.1 (List.mem_map.2 ⟨p, hp, by rw [e, e']⟩)
    · have hk : keq_a2_i64 k x.1 = false := by
        rw [Bool.eq_false_iff]
        intro hk
        exact e (keq_iff.1 hk).symm
      rw [hk, cond_false, List.map_cons, if_neg e]
      rcases List.mem_cons.1 h with e' | h
      · exact absurd (congrArg Prod.fst e').symm e
      · rw [mput_nd hn.2 h]
/-- A map that is the list. -/
structure MZ (s : Nat) (M : List (KZ × Sapi_Dec)) (l : List (KZ × Int)) : Prop where
  perm : M.Perm (l.map (mkz s))
  ris : Ris l
  sm : SmL l
theorem MZ.nil (s : Nat) : MZ s [] [] := ⟨.refl _, List.Pairwise.nil, fun p hp => (List.not_mem_nil hp).elim⟩
theorem MZ.nd {s : Nat} {M : List (KZ × Sapi_Dec)} {l : List (KZ × Int)} (h : MZ s M l) : (M.map (·.1)).Nodup := by
  have := h.perm.map (·.1)
  rw [mkz_keys] at this
  exact this.nodup_iff.2 h.ris.nd
theorem MZ.get {s : Nat} {M : List (KZ × Sapi_Dec)} {l : List (KZ × Int)} (h : MZ s M l) (k : KZ) : mget (keq_a2_i64 k) M = (getZ k l).map fun v => DV v s := by
  cases hg : getZ k l with
  | some v => exact mget_nd h.nd (h.perm.mem_iff.2 (List.mem_map.2 ⟨_, getZ_mem hg, rfl⟩))
  | none =>
    refine mget_no fun p hp => ?_
    obtain ⟨q, hq, rfl⟩ := List.mem_map.1 (h.perm.mem_iff.1 hp)
    exact getZ_none hg q hq
theorem MZ.put {s : Nat} {M : List (KZ × Sapi_Dec)} {l z : List (KZ × Int)} (h : MZ s M l) {k : KZ} {v : Int} (hv : Sm v) (hz : putZ k v l = some z) : MZ s (mput (keq_a2_i64 k) k (DV ((getZ k l).getD 0 + v) s) M) z := by
  have sp := putZ_spec (k := k) hv h.ris h.sm
  rw [hz] at sp
  obtain ⟨h1, h2, h3, h4, h5⟩ := sp
  refine ⟨?_, h1, h2⟩
  cases hg : getZ k l with
  | some u =>
    rw [hg] at h5
    obtain ⟨h6, h7⟩ := h5
    rw [mput_nd h.nd (h.perm.mem_iff.2 (List.mem_map.2 ⟨_, getZ_mem hg, rfl⟩)), h7]
    refine (h.perm.map _).trans (List.Perm.of_eq ?_)
    rw [List.map_map, List.map_map]
    refine List.map_congr_left fun p _ => ?_
    show (if p.1 = k then (k, DV (u + v) s) else mkz s p) = mkz s (if p.1 = k then (k, u + v) else p)
    split <;> rfl
  | none =>
    rw [hg] at h5
    rw [mput_no fun p hp => by
      obtain ⟨q, hq, rfl⟩ := List.mem_map.1 (h.perm.mem_iff.1 hp)
      exact getZ_none hg q hq]
    refine (List.perm_append_comm.trans ((List.Perm.cons _ h.perm).trans ?_))
    show (mkz s (k, 0 + v) :: l.map (mkz s)).Perm (z.map (mkz s))
    rw [Int.zero_add]
    exact (h5.map (mkz s)).symm
/-- Those that are not 0. -/
def someZ (l : List (KZ × Int)) : List (KZ × Int) := l.filter fun p => p.2 != 0
theorem keepL_perm {α : Type} {p : α → Option Bool} {q : α → Bool} : ∀ {l : List α}, (∀ x ∈ l, p x = some (q x)) → keepL p l = some (l.filter fun x => !q x)
  | [], _ => rfl
  | x :: r, h => by
    unfold keepL
    rw [h x List.mem_cons_self, Option.bind_some, keepL_perm fun y hy => h y (List.mem_cons_of_mem _ hy), Option.bind_some]
    cases hq : q x with
    | true => rw [List.filter_cons_of_neg (by simp [hq])]; rfl
    | false => rw [List.filter_cons_of_pos (by simp [hq])]; rfl
theorem someZ_ris {l : List (KZ × Int)} (h : Ris l) : Ris (someZ l) := h.sublist List.filter_sublist
theorem someZ_sm {l : List (KZ × Int)} (h : SmL l) : SmL (someZ l) := fun p hp => h p ((List.mem_filter.1 hp).1)
theorem w2_zero {v : Int} {s : Nat} : (val (DV v s) == 0) = (v == 0) := by rw [val_DV]
theorem MZ.some {s : Nat} {M : List (KZ × Sapi_Dec)} {l : List (KZ × Int)} (h : MZ s M l) : MZ s (M.filter fun p => !(val p.2 == 0)) (someZ l) := by
  refine ⟨(h.perm.filter _).trans (List.Perm.of_eq ?_), someZ_ris h.ris, someZ_sm h.sm⟩
  unfold someZ
  rw [List.filter_map]
  congr 1
  refine List.filter_congr fun p _ => ?_
  show (!(val (DV p.2 s) == 0)) = (p.2 != 0)
  rw [w2_zero]
  rfl
theorem MZ.len {s : Nat} {M : List (KZ × Sapi_Dec)} {l : List (KZ × Int)} (h : MZ s M l) : M.length = l.length := by rw [h.perm.length_eq, List.length_map]
end Go.Proofs.YtbchcjlllddlpaaGreat.Pure
/- What the project's trial and flows are. No conditions but size. -/
namespace Go.Proofs.YtbchcjlllddlpaaGreat.Pure
set_option linter.unusedVariables false
set_option linter.unusedSimpArgs false
open Go Go.Ev Go.Lm Go.Pu Go.Dg
def kindZ (a : Int) : Int := if a < 0 ∨ a ≥ 16 then 0 else if a ≤ 3 then 1 else if a ≤ 6 then 2 else if a ≤ 8 then 3 else 4
theorem CK_eq (k : Nat) (a : Int) : chart_Kind.f k a = some (kindZ a) := by
  unfold chart_Kind.f kindZ
  by_cases h : a < 0
  · rw [ct h, if_pos (.inl h)]; rfl
  · rw [cf h, Option.bind_some]
    dsimp only
    by_cases h2 : a ≥ 16
    · rw [ct h2, if_pos (.inr h2)]
    · rw [cf h2, if_neg (by omega)]
      by_cases h3 : a ≤ 3
      · rw [ct h3, if_pos h3]
      · rw [cf h3, if_neg h3]
        by_cases h4 : a ≤ 6
        · rw [ct h4, if_pos h4]
        · rw [cf h4, if_neg h4]
          by_cases h5 : a ≤ 8
          · rw [ct h5, if_pos h5]
          · rw [cf h5, if_neg h5]
/-- The key that a line counts as. -/
def kzL (o : Bool) (x : Sapi_Line) : KZ := if kindZ x.f_Acct = 4 ∧ o = false then (8, 0) else (x.f_Acct, IntKind.wrap .i64 (x.f_With + 1))
theorem key_eq (k : Nat) (x : Sapi_Line) (o : Bool) : trial_key.f k x o = some (kzL o x) := by
  unfold trial_key.f kzL
  rw [CK_eq, Option.bind_some]
  by_cases h : kindZ x.f_Acct = 4
  · rw [show (kindZ x.f_Acct == 4) = true by rw [h]; rfl, cond_true, Option.bind_some]
    cases o
    · rw [if_pos ⟨h, rfl⟩]; rfl
    · rw [if_neg (by simp)]; rfl
  · rw [show (kindZ x.f_Acct == 4) = false by simpa using h, cond_false, Option.bind_some, if_neg (fun hh => h hh.1)]
    rfl
theorem Add_same {k : Nat} (hk : 60 < k) {i j : Int} {s : Nat} (hi : Sm i) (hj : Sm j) (hs : s ≤ 9) : dec_Add.f k (DV i s) (DV j s) = some (mkD (i + j) s) := by
  have h := Add_DV hk hi hj hs hs
  rw [Nat.max_self, Nat.sub_self, Int.pow_zero, Int.mul_one, Int.mul_one] at h
  exact h
theorem Sm0 : Sm 0 := by unfold Sm; decide
theorem putZ_val {k : KZ} {v : Int} {l : List (KZ × Int)} (hv : Sm v) (hr : Ris l) (hs : SmL l) : (putZ k v l).isSome = decide (Sm ((getZ k l).getD 0 + v)) := by
  have h := putZ_spec (k := k) hv hr hs
  cases hz : putZ k v l with
  | some z =>
    rw [hz] at h
    obtain ⟨_, _, _, _, h5⟩ := h
    cases hg : getZ k l with
    | some u => rw [hg] at h5; rw [decide_eq_true (show Sm ((some u).getD 0 + v) from h5.1)]; rfl
    | none => rw [decide_eq_true (show Sm ((none : Option Int).getD 0 + v) by rw [Option.getD_none, Int.zero_add]; exact hv)]; rfl
  | none =>
    rw [hz] at h
    obtain ⟨u, hu, hn⟩ := h
    rw [hu, decide_eq_false (show ¬ Sm ((some u).getD 0 + v) from hn)]
    rfl
/-- All lines of an entry. -/
def linesZ (o : Bool) : List Sapi_Line → List (KZ × Int) → Option (List (KZ × Int))
  | [], z => some z
  | x :: r, z => (putZ (kzL o x) (val x.f_Amount) z).bind (linesZ o r)
/-- All entries up to a period. -/
def entZ (p : Int) (t : Speriod_Table) : List Sapi_Entry → List (KZ × Int) → Option (List (KZ × Int))
  | [], z => some z
  | x :: r, z => if x.f_Period > p then entZ p t r z else (linesZ (opn t x.f_Period) x.f_Lines z).bind (entZ p t r)
theorem line_in {k : Nat} (hk : 1002 < k) {s : Nat} (hs : s ≤ 4) {bt t : Speriod_Table} (hb : T12 bt) (ht : T12 t) {ls : List Sapi_Line} (hl : ls.length ≤ 1000) (hw : ∀ x ∈ ls, x.f_Amount = DV (val x.f_Amount) s ∧ Sm (val x.f_Amount))
    {M : List (KZ × Sapi_Dec)} {z : List (KZ × Int)} (hM : MZ s M z) {j : Nat} (hj : j < ls.length) (p : Int) (es : List Sapi_Entry) (n i : Int) (bl : List Sapi_Entry) (per : Int) (ls2 : List Sapi_Line) (of : Int) :
    trial_Of.l11.once k (p, es, n, i, ls, (ls.length : Int), (j : Int), (s : Int), bl, bt, M, t, per, ls2, of) = some (match putZ (kzL (opn t per) (ls.getD j Sapi_Line.zero)) (val (ls.getD j Sapi_Line.zero).f_Amount) z with
      | some z' => .inl (p, es, n, i, ls, (ls.length : Int), ((j + 1 : Nat) : Int), (s : Int), bl, bt, mput (keq_a2_i64 (kzL (opn t per) (ls.getD j Sapi_Line.zero))) (kzL (opn t per) (ls.getD j Sapi_Line.zero)) (DV ((getZ (kzL (opn t per) (ls.getD j Sapi_Line.zero)) z).getD 0 + val (ls.getD j Sapi_Line.zero).f_Amount) s) M, t, per, ls2, of)
      | none => .inr (.inr ([], 3, ⟨(s : Int), bl, bt⟩))) := by
  have hx := hw _ (getD_memL Sapi_Line.zero hj)
  have hwr := wrapi (show -9223372036854775808 ≤ (j : Int) + 1 ∧ (j : Int) + 1 < 9223372036854775808 by omega)
  have e1 := pk hb
  have e2 := pk ht
  unfold trial_Of.l11.once
  dsimp only
  simp only [e1, e2]
  rw [ct (show (j : Int) < (ls.length : Int) by omega), inb_t (by omega) (by omega), cond_true, Int.toNat_natCast]
  generalize ls.getD j Sapi_Line.zero = x at hx ⊢
  obtain ⟨hx1, hx2⟩ := hx
  refine bof (IsOpen_eq k ht per) (bof (key_eq k x _) ?_)
  generalize kzL (opn t per) x = key
  have hg : mget (keq_a2_i64 (key.1, key.2)) M = (getZ key z).map fun v => DV v s := hM.get key
  have hu : Sm ((getZ key z).getD 0) := by
    cases hgz : getZ key z with
    | none => exact Sm0
    | some u => exact hM.sm _ (getZ_mem hgz)
  have hv := putZ_val (k := key) hx2 hM.ris hM.sm
  rw [hg, Option.bind_some, Option.bind_some]
  refine bof (v := (p, es, n, i, ls, (ls.length : Int), (j : Int), (s : Int), bl, bt, M, t, per, ls2, of, x.f_Acct, x.f_Amount.f_Neg, x.f_Amount.f_C.1, x.f_Amount.f_C.2, x.f_Amount.f_Scale, x.f_With, key.1, key.2, (DV ((getZ key z).getD 0) s).f_Neg, (DV ((getZ key z).getD 0) s).f_C.1, (DV ((getZ key z).getD 0) s).f_C.2, (DV ((getZ key z).getD 0) s).f_Scale)) ?_ ?_
  · cases getZ key z with
    | none =>
      have ho : dec_Of.f k 0 (s : Int) = some (DV 0 s) := by
        have := Of_DV k (n := 0) (by omega) (s : Int)
        rwa [cl_of (by omega)] at this
      rw [Option.map_none, Option.isSome_none, Bool.not_false, cond_true]
      refine bof (v := ((s : Int), (⟨(s : Int), bl, bt⟩ : Sledger_Book))) ?_ ?_
      · unfold ledger_Book_Scale.f
        simp only [e1]
      · refine bof ho ?_
        simp only [e1]
        rfl
    | some u => rfl
  · dsimp only
    have ha : dec_Add.f k (⟨(DV ((getZ key z).getD 0) s).f_Neg, ((DV ((getZ key z).getD 0) s).f_C.1, (DV ((getZ key z).getD 0) s).f_C.2), (DV ((getZ key z).getD 0) s).f_Scale⟩ : Sapi_Dec) (⟨x.f_Amount.f_Neg, (x.f_Amount.f_C.1, x.f_Amount.f_C.2), x.f_Amount.f_Scale⟩ : Sapi_Dec) = some (mkD ((getZ key z).getD 0 + val x.f_Amount) s) := by
      show dec_Add.f k (DV ((getZ key z).getD 0) s) x.f_Amount = _
      rw [hx1, val_DV]
      exact Add_same (by omega) hu hx2 (by omega)
    refine bof ha ?_
    simp only [e1, e2, hwr]
    cases hp : putZ key (val x.f_Amount) z with
    | some z' =>
      rw [hp] at hv
      have hS : Sm ((getZ key z).getD 0 + val x.f_Amount) := of_decide_eq_true hv.symm
      have hm : mkD ((getZ key z).getD 0 + val x.f_Amount) s = (DV ((getZ key z).getD 0 + val x.f_Amount) s, 0) := if_pos hS
      rw [hm]
      rfl
    | none =>
      rw [hp] at hv
      have hS : ¬ Sm ((getZ key z).getD 0 + val x.f_Amount) := of_decide_eq_false hv.symm
      have hm : mkD ((getZ key z).getD 0 + val x.f_Amount) s = (nil0, 3) := if_neg hS
      rw [hm]
      rfl
theorem lines_in {k : Nat} (hk : 1002 < k) {s : Nat} (hs : s ≤ 4) {bt t : Speriod_Table} (hb : T12 bt) (ht : T12 t) {ls : List Sapi_Line} (hl : ls.length ≤ 1000) (hw : ∀ x ∈ ls, x.f_Amount = DV (val x.f_Amount) s ∧ Sm (val x.f_Amount))
    (p : Int) (es : List Sapi_Entry) (n i : Int) (bl : List Sapi_Entry) (per : Int) (ls2 : List Sapi_Line) (of : Int) : ∀ (m j : Nat) (M : List (KZ × Sapi_Dec)) (z : List (KZ × Int)), MZ s M z → j ≤ ls.length → ls.length - j < m →
    ∃ r, iter (trial_Of.l11.once k) m (p, es, n, i, ls, (ls.length : Int), (j : Int), (s : Int), bl, bt, M, t, per, ls2, of) = some r ∧ (match linesZ (opn t per) (ls.drop j) z with
      | some z' => ∃ M', r = .inl (p, es, n, i, (s : Int), bl, bt, M', t) ∧ MZ s M' z'
      | none => r = .inr ([], 3, ⟨(s : Int), bl, bt⟩)) := by
  intro m
  induction m with
  | zero => intro j M z _ _ h; omega
  | succ m ih =>
    intro j M z hM hj hm
    by_cases hc : j < ls.length
    · have st := line_in hk hs hb ht hl hw hM hc p es n i bl per ls2 of
      have hx := hw _ (getD_memL Sapi_Line.zero hc)
      rw [drop_getD Sapi_Line.zero hc]
      unfold linesZ
      cases hp : putZ (kzL (opn t per) (ls.getD j Sapi_Line.zero)) (val (ls.getD j Sapi_Line.zero).f_Amount) z with
      | some z' =>
        rw [hp] at st
        rw [iter_step st, Option.bind_some]
        exact ih (j + 1) _ z' (hM.put hx.2 hp) (by omega) (by omega)
      | none =>
        rw [hp] at st
        exact ⟨_, iter_stop st, rfl⟩
    · rw [List.drop_eq_nil_of_le (by omega)]
      refine ⟨_, iter_stop ?_, M, rfl, hM⟩
      unfold trial_Of.l11.once
      dsimp only
      rw [cf (by omega), pk hb, pk ht]
theorem ents_in {k : Nat} (hk : 1002 < k) {s : Nat} (hs : s ≤ 4) {bt t : Speriod_Table} (hb : T12 bt) (ht : T12 t) {es : List Sapi_Entry} (hl : es.length ≤ 1000) (hw : ∀ x ∈ es, LsOk s x.f_Lines) (p : Int) (bl : List Sapi_Entry) :
    ∀ (m i : Nat) (M : List (KZ × Sapi_Dec)) (z : List (KZ × Int)), MZ s M z → i ≤ es.length → es.length - i < m →
    ∃ r, iter (trial_Of.l7.once k) m (p, es, (es.length : Int), (i : Int), (s : Int), bl, bt, M, t) = some r ∧ (match entZ p t (es.drop i) z with
      | some z' => ∃ M', r = .inl (M', (s : Int), bl, bt) ∧ MZ s M' z'
      | none => r = .inr ([], 3, ⟨(s : Int), bl, bt⟩)) := by
  intro m
  induction m with
  | zero => intro i M z _ _ h; omega
  | succ m ih =>
    intro i M z hM hi hm
    have e1 := pk hb
    have e2 := pk ht
    by_cases hc : i < es.length
    · have hx := hw _ (getD_memL Sapi_Entry.zero hc)
      have hwr := wrapi (show -9223372036854775808 ≤ (i : Int) + 1 ∧ (i : Int) + 1 < 9223372036854775808 by omega)
      rw [drop_getD Sapi_Entry.zero hc]
      unfold entZ
      have st : trial_Of.l7.once k (p, es, (es.length : Int), (i : Int), (s : Int), bl, bt, M, t) = cond (decide ((es.getD i Sapi_Entry.zero).f_Period > p)) (some (.inl (p, es, (es.length : Int), ((i + 1 : Nat) : Int), (s : Int), bl, bt, M, t)))
          ((iter (trial_Of.l11.once k) k (p, es, (es.length : Int), (i : Int), (es.getD i Sapi_Entry.zero).f_Lines, ((es.getD i Sapi_Entry.zero).f_Lines.length : Int), 0, (s : Int), bl, bt, M, t, (es.getD i Sapi_Entry.zero).f_Period, (es.getD i Sapi_Entry.zero).f_Lines, (es.getD i Sapi_Entry.zero).f_Of)).bind fun | .inl y => (some (.inl (y.1, y.2.1, y.2.2.1, IntKind.wrap .i64 (y.2.2.2.1 + 1), y.2.2.2.2.1, y.2.2.2.2.2.1, (⟨pack 12 false y.2.2.2.2.2.2.1.f_Closed, pack 12 0 y.2.2.2.2.2.2.1.f_Version⟩ : Speriod_Table), y.2.2.2.2.2.2.2.1, (⟨pack 12 false y.2.2.2.2.2.2.2.2.f_Closed, pack 12 0 y.2.2.2.2.2.2.2.2.f_Version⟩ : Speriod_Table)))) | .inr y => (some (.inr (.inr (y.1, y.2.1, (⟨y.2.2.f_scale, y.2.2.f_l, (⟨pack 12 false y.2.2.f_t.f_Closed, pack 12 0 y.2.2.f_t.f_Version⟩ : Speriod_Table)⟩ : Sledger_Book)))))) := by
        unfold trial_Of.l7.once
        dsimp only
        simp only [e1, e2]
        rw [ct (show (i : Int) < (es.length : Int) by omega), inb_t (by omega) (by omega), cond_true, Int.toNat_natCast, hwr]
        rfl
      generalize es.getD i Sapi_Entry.zero = x at hx st ⊢
      by_cases hp : x.f_Period > p
      · rw [ct hp] at st
        rw [if_pos hp, iter_step st]
        exact ih (i + 1) M z hM (by omega) (by omega)
      · rw [cf hp] at st
        rw [if_neg hp]
        obtain ⟨r, hr, hr2⟩ := lines_in hk hs hb ht (ls := x.f_Lines) (by have := hx.1; omega) hx.2 p es (es.length : Int) (i : Int) bl x.f_Period x.f_Lines x.f_Of k 0 M z hM (Nat.zero_le _) (by have := hx.1; omega)
        rw [List.drop_zero] at hr2
        have hr' : iter (trial_Of.l11.once k) k (p, es, (es.length : Int), (i : Int), x.f_Lines, (x.f_Lines.length : Int), 0, (s : Int), bl, bt, M, t, x.f_Period, x.f_Lines, x.f_Of) = some r := hr
        rw [hr', Option.bind_some] at st
        cases hq : linesZ (opn t x.f_Period) x.f_Lines z with
        | some z' =>
          rw [hq] at hr2
          obtain ⟨M', rfl, hM'⟩ := hr2
          dsimp only at st
          rw [e1, e2, hwr] at st
          rw [iter_step st, Option.bind_some]
          exact ih (i + 1) M' z' hM' (by omega) (by omega)
        | none =>
          rw [hq] at hr2
          subst hr2
          dsimp only at st
          rw [e1] at st
          exact ⟨_, iter_stop st, rfl⟩
    · rw [List.drop_eq_nil_of_le (by omega)]
      refine ⟨_, iter_stop ?_, M, rfl, hM⟩
      unfold trial_Of.l7.once
      dsimp only
      rw [cf (by omega), e1]
theorem trial_key0 {k : Nat} (hk : 1002 < k) {s : Nat} (hs : s ≤ 4) {M : List (KZ × Sapi_Dec)} {z : List (KZ × Int)} (hM : MZ s M z) : keepL (fun p => (trial_Of_1.f k p.1 p.2).bind fun y => some y) M = some (M.filter fun p => !(val p.2 == 0)) := by
  refine keepL_perm fun p hp => ?_
  obtain ⟨q, hq, rfl⟩ := List.mem_map.1 (hM.perm.mem_iff.1 hp)
  have h := Sign_DV (k := k) (by omega) (hM.sm q hq) (by omega : s ≤ 9)
  have h' : trial_Of_1.f k (mkz s q).1 (mkz s q).2 = some (sgn q.2 == 0) := by
    unfold trial_Of_1.f
    exact bof h rfl
  rw [h', Option.bind_some, sgn_beq]
  show some (decide (q.2 = 0)) = some (val (DV q.2 s) == 0)
  rw [val_DV]
  rfl
/-- The trial of a book. -/
theorem Trial_eq {k : Nat} (hk : 1002 < k) {s : Nat} (hs : s ≤ 4) {b : Sledger_Book} (h : TInv s b) (p : Int) : ∃ M e, trial_Of.f k b p = some (M, e, b) ∧
    (if p < 0 ∨ p ≥ 12 then M = [] ∧ e = 8 else match entZ p b.f_t b.f_l [] with
      | some z => e = 0 ∧ MZ s M (someZ z)
      | none => M = [] ∧ e = 3) := by
  have e1 := pk h.T
  have e2 : (⟨b.f_scale, b.f_l, ⟨pack 12 false b.f_t.f_Closed, pack 12 0 b.f_t.f_Version⟩⟩ : Sledger_Book) = b := pkB h.T
  unfold trial_Of.f
  simp only [e1]
  by_cases hp : p < 0
  · refine ⟨[], 8, ?_, by rw [if_pos (.inl hp)]; exact ⟨rfl, rfl⟩⟩
    rw [ct hp, Option.bind_some]
    dsimp only
    rw [cond_true, e1]
  · rw [cf hp, Option.bind_some]
    dsimp only
    by_cases hp2 : p ≥ 12
    · refine ⟨[], 8, ?_, by rw [if_pos (.inr hp2)]; exact ⟨rfl, rfl⟩⟩
      rw [ct hp2, e1]
    · rw [cf hp2]
      simp only [if_neg (show ¬ (p < 0 ∨ p ≥ 12) by omega)]
      have hE := Bentries_eq (k := k) (by omega) h.T h.len (fun x hx => by have := (h.ls x hx).1; omega)
      obtain ⟨r, hr, hr2⟩ := ents_in hk hs h.T h.T (es := b.f_l) (by have := h.len; omega) h.ls p b.f_l k 0 [] [] (MZ.nil s) (Nat.zero_le _) (by have := h.len; omega)
      rw [List.drop_zero] at hr2
      have hr' : iter (trial_Of.l7.once k) k (p, b.f_l, (b.f_l.length : Int), 0, b.f_scale, b.f_l, b.f_t, [], b.f_t) = some r := by rw [h.sc]; exact hr
      have hP : ledger_Book_Periods.f k (⟨b.f_scale, b.f_l, ⟨pack 12 false b.f_t.f_Closed, pack 12 0 b.f_t.f_Version⟩⟩ : Sledger_Book) = some (b.f_t, b) := by
        rw [e2]
        unfold ledger_Book_Periods.f
        rw [e1]
      have hE' : ledger_Book_Entries.f k (⟨b.f_scale, b.f_l, ⟨pack 12 false b.f_t.f_Closed, pack 12 0 b.f_t.f_Version⟩⟩ : Sledger_Book) = some (b.f_l, b) := by rw [e2]; exact hE
      cases hz : entZ p b.f_t b.f_l [] with
      | some z =>
        rw [hz] at hr2
        obtain ⟨M, rfl, hM⟩ := hr2
        refine ⟨M.filter fun p => !(val p.2 == 0), 0, ?_, rfl, hM.some⟩
        refine bof hP (bof hE' (bof (v := .inl (M, (s : Int), b.f_l, b.f_t)) (by simp only [e1]; exact hr') ?_))
        dsimp only
        refine bof (trial_key0 hk hs hM) ?_
        rw [← h.sc, e2]
      | none =>
        rw [hz] at hr2
        subst hr2
        refine ⟨[], 3, ?_, rfl, rfl⟩
        refine bof hP (bof hE' (bof (v := .inr ([], 3, ⟨(s : Int), b.f_l, b.f_t⟩)) (by simp only [e1]; exact hr') ?_))
        dsimp only
        rw [← h.sc, e2]
end Go.Proofs.YtbchcjlllddlpaaGreat.Pure
/- What the document's trial is: the same sums. No conditions but size. -/
namespace Go.Proofs.YtbchcjlllddlpaaGreat.Pure
set_option linter.unusedVariables false
set_option linter.unusedSimpArgs false
open Go Go.Ev Go.Lm Go.Pu Go.Dg
theorem getD_map {α β : Type} (f : α → β) {l : List α} {i : Nat} (d : α) (e : β) (h : i < l.length) : (l.map f).getD i e = f (l.getD i d) := by
  rw [List.getD_eq_getElem?_getD, List.getD_eq_getElem?_getD, List.getElem?_map, List.getElem?_eq_getElem h]
  rfl
end Go.Proofs.YtbchcjlllddlpaaGreat.Pure
/- The document's trial of a book is the project's; flows; sums of an account. No conditions but size. -/
namespace Go.Proofs.YtbchcjlllddlpaaGreat.Pure
set_option linter.unusedVariables false
set_option linter.unusedSimpArgs false
open Go Go.Ev Go.Lm Go.Pu Go.Dg
/-- A flow is with no one. -/
def FlowW (x : Sapi_Line) : Prop := kindZ x.f_Acct = 4 → x.f_With = -1
def EInv (b : Sledger_Book) : Prop := ∀ x ∈ b.f_l, (0 ≤ x.f_Period ∧ x.f_Period < 12) ∧ ∀ y ∈ x.f_Lines, FlowW y
theorem opn_p {t : Speriod_Table} {p : Int} (h : opn t p = true) : 0 ≤ p ∧ p < 12 := by
  unfold opn at h
  simp only [Bool.and_eq_true, decide_eq_true_eq] at h
  exact ⟨h.1, h.2.1⟩
theorem EInv.add {b : Sledger_Book} (h : EInv b) {x : Sapi_Entry} (hx : ∀ y ∈ x.f_Lines, FlowW y) : EInv (addR b x).2.2 := by
  unfold addR
  split
  · rename_i ho
    split
    · exact h
    · intro y hy
      rcases List.mem_append.1 hy with hy | hy
      · exact h y hy
      · have : y = x := by simpa using hy
        rw [this]
        exact ⟨opn_p ho, hx⟩
  · exact h
theorem putZ_len {key : KZ} {v : Int} (hv : Sm v) {z z' : List (KZ × Int)} (hr : Ris z) (hs : SmL z) (h : putZ key v z = some z') : Ris z' ∧ SmL z' ∧ z'.length ≤ z.length + 1 := by
  have := putZ_spec (k := key) hv hr hs
  rw [h] at this
  exact ⟨this.1, this.2.1, this.2.2.1⟩
theorem linesZ_len {o : Bool} : ∀ {ls : List Sapi_Line} {z z' : List (KZ × Int)}, (∀ x ∈ ls, Sm (val x.f_Amount)) → Ris z → SmL z → linesZ o ls z = some z' → Ris z' ∧ SmL z' ∧ z'.length ≤ z.length + ls.length
  | [], z, z', _, hr, hz, h => by cases h; exact ⟨hr, hz, Nat.le_refl _⟩
  | x :: r, z, z', hw, hr, hz, h => by
    unfold linesZ at h
    obtain ⟨z1, h1, h2⟩ := Option.bind_eq_some_iff.1 h
    obtain ⟨g1, g2, g3⟩ := putZ_len (hw x List.mem_cons_self) hr hz h1
    obtain ⟨f1, f2, f3⟩ := linesZ_len (fun y hy => hw y (List.mem_cons_of_mem _ hy)) g1 g2 h2
    exact ⟨f1, f2, by rw [List.length_cons]; omega⟩
theorem entZ_len {p : Int} {t : Speriod_Table} {s : Nat} : ∀ {es : List Sapi_Entry} {z z' : List (KZ × Int)}, (∀ x ∈ es, LsOk s x.f_Lines) → Ris z → SmL z → entZ p t es z = some z' → Ris z' ∧ SmL z' ∧ z'.length ≤ z.length + 8 * es.length
  | [], z, z', _, hr, hz, h => by cases h; exact ⟨hr, hz, Nat.le_refl _⟩
  | x :: r, z, z', hw, hr, hz, h => by
    unfold entZ at h
    rw [List.length_cons]
    split at h
    · obtain ⟨g1, g2, g3⟩ := entZ_len (fun y hy => hw y (List.mem_cons_of_mem _ hy)) hr hz h
      exact ⟨g1, g2, by omega⟩
    · obtain ⟨z1, h1, h2⟩ := Option.bind_eq_some_iff.1 h
      have hx := hw x List.mem_cons_self
      obtain ⟨f1, f2, f3⟩ := linesZ_len (fun y hy => (hx.2 y hy).2) hr hz h1
      obtain ⟨g1, g2, g3⟩ := entZ_len (fun y hy => hw y (List.mem_cons_of_mem _ hy)) f1 f2 h2
      have := hx.1
      exact ⟨g1, g2, by omega⟩
end Go.Proofs.YtbchcjlllddlpaaGreat.Pure
/- Flows, sums of an account, keys, of the project's and of the document's. No conditions but size. -/
namespace Go.Proofs.YtbchcjlllddlpaaGreat.Pure
set_option linter.unusedVariables false
set_option linter.unusedSimpArgs false
open Go Go.Ev Go.Lm Go.Pu Go.Dg
end Go.Proofs.YtbchcjlllddlpaaGreat.Pure
/- Keys and sums of a trial. No conditions but size. -/
namespace Go.Proofs.YtbchcjlllddlpaaGreat.Pure
set_option linter.unusedVariables false
set_option linter.unusedSimpArgs false
open Go Go.Ev Go.Lm Go.Pu Go.Dg
theorem srt_id (l : List KZ) : srt_a2_i64 l = isrt l := by
  unfold srt_a2_i64
  rw [show l.map (fun (x : Int × Int) => (x.1, x.2)) = l from List.map_id l]
  exact List.map_id _
theorem lt_le {a b : KZ} (h : ltZ a b = true) : leII a b = true := by
  rw [ltZ_iff] at h
  unfold leII
  simp
  omega
theorem MZ.keys {s : Nat} {M : List (KZ × Sapi_Dec)} {z : List (KZ × Int)} (h : MZ s M z) : srt_a2_i64 (M.map fun p => p.1) = z.map (·.1) := by
  rw [srt_id]
  refine perm_sorted_eq leII_anti ((isrt_perm _).trans ?_) (isrt_sorted _) ?_
  · have := h.perm.map (·.1)
    rw [mkz_keys] at this
    exact this
  · rw [List.pairwise_map]
    exact h.ris.imp fun h => lt_le h
theorem Keys2_eq {k s : Nat} {M : List (KZ × Sapi_Dec)} {z : List (KZ × Int)} (h : MZ s M z) (hl : z.length ≤ 1000) : trial_Keys.f k M = some (z.map (·.1), M) := by
  unfold trial_Keys.f
  rw [okLen_t (by rw [List.length_map, h.len]; omega), cond_true, h.keys]
  refine bof (v := z.map (·.1)) ?_ rfl
  unfold slices_Clip__2_int_2_int.f
  have : inS 0 ((z.map (·.1)).length : Int) (z.map (·.1)).length = true := by unfold inS; simp
  rw [decide_eq_true rfl, this, Bool.true_and, cond_true, Int.toNat_natCast, List.take_length]
theorem getZ_at : ∀ {z : List (KZ × Int)}, Ris z → ∀ p ∈ z, getZ p.1 z = some p.2
  | [], _, p, hp => (List.not_mem_nil hp).elim
  | x :: r, h, p, hp => by
    have h' := List.pairwise_cons.1 h
    unfold getZ
    rcases List.mem_cons.1 hp with rfl | hp
    · rw [if_pos rfl]
    · rw [if_neg (ltZ_irr (h'.1 p hp)), getZ_at h'.2 p hp]
/-- The sum of an account, from what there is. -/
def sumZ (acct : Int) (s : Nat) : List (KZ × Int) → Int × Nat → Option (Int × Nat)
  | [], q => some q
  | x :: r, q => if x.1.1 = acct then (if Sm (q.1 * 10 ^ (max q.2 s - q.2) + x.2 * 10 ^ (max q.2 s - s)) then sumZ acct s r (q.1 * 10 ^ (max q.2 s - q.2) + x.2 * 10 ^ (max q.2 s - s), max q.2 s) else none) else sumZ acct s r q
theorem getD_memZ {z : List (KZ × Int)} {i : Nat} (hi : i < z.length) : z.getD i ((0, 0), 0) ∈ z := by
  rw [List.getD_eq_getElem?_getD, List.getElem?_eq_getElem hi]
  exact List.getElem_mem hi
theorem sum_in {k : Nat} (hk : 1002 < k) {s : Nat} (hs : s ≤ 4) {M : List (KZ × Sapi_Dec)} {z : List (KZ × Int)} (h : MZ s M z) (hl : z.length ≤ 1000) (acct : Int) (d : Sapi_Dec) : ∀ (m i : Nat) (q : Int × Nat), Sm q.1 → q.2 ≤ 9 → i ≤ z.length → z.length - i < m →
    iter (trial_Sum.l3.once k) m (acct, z.map (·.1), (z.length : Int), (i : Int), M, d.f_Neg, d.f_C.1, d.f_C.2, d.f_Scale, (DV q.1 q.2).f_Neg, (DV q.1 q.2).f_C.1, (DV q.1 q.2).f_C.2, (DV q.1 q.2).f_Scale) = some (match sumZ acct s (z.drop i) q with
      | some r => .inl (d.f_Neg, d.f_C.1, d.f_C.2, d.f_Scale, (DV r.1 r.2).f_Neg, (DV r.1 r.2).f_C.1, (DV r.1 r.2).f_C.2, (DV r.1 r.2).f_Scale, M)
      | none => .inr (⟨false, (0, 0), 0⟩, 3, M)) := by
  intro m
  induction m with
  | zero => intro i q _ _ _ h; omega
  | succ m ih =>
    intro i q hq hq2 hi hm
    by_cases hc : i < z.length
    · have hx := getD_memZ hc
      have hwr := wrapi (show -9223372036854775808 ≤ (i : Int) + 1 ∧ (i : Int) + 1 < 9223372036854775808 by omega)
      have hgd := getD_map (fun p : KZ × Int => p.1) ((0, 0), 0) (0, 0) hc
      have hg := h.get (z.getD i ((0, 0), 0)).1
      rw [getZ_at h.ris _ hx] at hg
      have hsx := h.sm _ hx
      have st : trial_Sum.l3.once k (acct, z.map (·.1), (z.length : Int), (i : Int), M, d.f_Neg, d.f_C.1, d.f_C.2, d.f_Scale, (DV q.1 q.2).f_Neg, (DV q.1 q.2).f_C.1, (DV q.1 q.2).f_C.2, (DV q.1 q.2).f_Scale) = some (if (z.getD i ((0, 0), 0)).1.1 = acct then (if Sm (q.1 * 10 ^ (max q.2 s - q.2) + (z.getD i ((0, 0), 0)).2 * 10 ^ (max q.2 s - s)) then
            .inl (acct, z.map (·.1), (z.length : Int), ((i + 1 : Nat) : Int), M, d.f_Neg, d.f_C.1, d.f_C.2, d.f_Scale, (DV (q.1 * 10 ^ (max q.2 s - q.2) + (z.getD i ((0, 0), 0)).2 * 10 ^ (max q.2 s - s)) (max q.2 s)).f_Neg, (DV (q.1 * 10 ^ (max q.2 s - q.2) + (z.getD i ((0, 0), 0)).2 * 10 ^ (max q.2 s - s)) (max q.2 s)).f_C.1, (DV (q.1 * 10 ^ (max q.2 s - q.2) + (z.getD i ((0, 0), 0)).2 * 10 ^ (max q.2 s - s)) (max q.2 s)).f_C.2, (DV (q.1 * 10 ^ (max q.2 s - q.2) + (z.getD i ((0, 0), 0)).2 * 10 ^ (max q.2 s - s)) (max q.2 s)).f_Scale)
            else .inr (.inr (⟨false, (0, 0), 0⟩, 3, M)))
          else .inl (acct, z.map (·.1), (z.length : Int), ((i + 1 : Nat) : Int), M, d.f_Neg, d.f_C.1, d.f_C.2, d.f_Scale, (DV q.1 q.2).f_Neg, (DV q.1 q.2).f_C.1, (DV q.1 q.2).f_C.2, (DV q.1 q.2).f_Scale)) := by
        unfold trial_Sum.l3.once
        dsimp only
        rw [ct (show (i : Int) < (z.length : Int) by omega), inb_t (by omega) (by rw [List.length_map]; omega), cond_true, Int.toNat_natCast]
        simp only [hgd, hwr]
        generalize z.getD i ((0, 0), 0) = x at hg hsx ⊢
        have hg' : mget (keq_a2_i64 (x.1.1, x.1.2)) M = some (DV x.2 s) := hg
        by_cases e : x.1.1 = acct
        · rw [show (x.1.1 != acct) = false by simp [e], cond_false, if_pos e, hg', Option.bind_some, Option.bind_some]
          refine bof (v := mkD (q.1 * 10 ^ (max q.2 s - q.2) + x.2 * 10 ^ (max q.2 s - s)) (max q.2 s)) (Add_DV (k := k) (by omega) hq hsx hq2 (by omega)) ?_
          by_cases hS : Sm (q.1 * 10 ^ (max q.2 s - q.2) + x.2 * 10 ^ (max q.2 s - s))
          · have hm : mkD (q.1 * 10 ^ (max q.2 s - q.2) + x.2 * 10 ^ (max q.2 s - s)) (max q.2 s) = (DV (q.1 * 10 ^ (max q.2 s - q.2) + x.2 * 10 ^ (max q.2 s - s)) (max q.2 s), 0) := if_pos hS
            rw [hm, if_pos hS]
            rfl
          · have hm : mkD (q.1 * 10 ^ (max q.2 s - q.2) + x.2 * 10 ^ (max q.2 s - s)) (max q.2 s) = (nil0, 3) := if_neg hS
            rw [hm, if_neg hS]
            rfl
        · rw [show (x.1.1 != acct) = true by simp [e], cond_true, if_neg e]
          rfl
      rw [drop_getD ((0, 0), 0) hc]
      unfold sumZ
      generalize z.getD i ((0, 0), 0) = x at st ⊢
      by_cases e : x.1.1 = acct
      · rw [if_pos e] at st ⊢
        by_cases hS : Sm (q.1 * 10 ^ (max q.2 s - q.2) + x.2 * 10 ^ (max q.2 s - s))
        · rw [if_pos hS] at st ⊢
          rw [iter_step st]
          exact ih (i + 1) (_, max q.2 s) hS (by dsimp only; omega) (by omega) (by omega)
        · rw [if_neg hS] at st ⊢
          exact iter_stop st
      · rw [if_neg e] at st ⊢
        rw [iter_step st]
        exact ih (i + 1) q hq hq2 (by omega) (by omega)
    · rw [List.drop_eq_nil_of_le (by omega)]
      refine iter_stop ?_
      unfold trial_Sum.l3.once
      dsimp only
      rw [cf (by omega)]
      rfl
theorem Sum_eq {k : Nat} (hk : 1002 < k) {s : Nat} (hs : s ≤ 4) {M : List (KZ × Sapi_Dec)} {z : List (KZ × Int)} (h : MZ s M z) (hl : z.length ≤ 1000) (acct : Int) (to : Int) : trial_Sum.f k M acct to = some (match sumZ acct s z (0, cl to) with
    | some r => (DV r.1 r.2, 0, M)
    | none => (⟨false, (0, 0), 0⟩, 3, M)) := by
  have it := sum_in hk hs h hl acct ⟨false, (0, 0), 0⟩ k 0 (0, cl to) Sm0 (cl_le to) (Nat.zero_le _) (by omega)
  rw [List.drop_zero] at it
  unfold trial_Sum.f
  refine bof (Of_DV k (n := 0) (by omega) to) (bof (Keys2_eq h hl) ?_)
  dsimp only
  rw [List.length_map]
  refine bof it ?_
  cases sumZ acct s z (0, cl to) <;> rfl
theorem keqD_refl (d : Sapi_Dec) : keq_Sapi_Dec d d = true := by
  unfold keq_Sapi_Dec
  simp
end Go.Proofs.YtbchcjlllddlpaaGreat.Pure
/- What lines put under keys, in plain numbers of a middle size. No conditions but size. -/
namespace Go.Proofs.YtbchcjlllddlpaaGreat.Pure
set_option linter.unusedVariables false
set_option linter.unusedSimpArgs false
open Go Go.Ev Go.Lm Go.Pu Go.Dg
/-- What stands under keys of a kind. -/
def sumP (P : KZ → Bool) : List (KZ × Int) → Int
  | [] => 0
  | x :: r => (if P x.1 = true then x.2 else 0) + sumP P r
/-- At most n times a hundred million, each. -/
structure BZ (n : Nat) (z : List (KZ × Int)) : Prop where
  h : ∀ q ∈ z, q.2.natAbs ≤ n * 100000000
theorem Sm_of {v : Int} {n : Nat} (hn : n ≤ 100000) (h : v.natAbs ≤ n * 100000000) : Sm v := by
  unfold Sm
  have : n * 100000000 ≤ 100000 * 100000000 := Nat.mul_le_mul_right _ hn
  omega
theorem putZ_ok {k : KZ} {v : Int} (hv : v.natAbs ≤ 100000000) {n : Nat} (hn : n + 1 ≤ 100000) (z : List (KZ × Int)) (h : BZ n z) : ∃ z', putZ k v z = some z' ∧ BZ (n + 1) z' := by
  induction z with
  | nil =>
    refine ⟨[(k, v)], by unfold putZ; rfl, ⟨fun q hq => ?_⟩⟩
    rw [List.mem_singleton.1 hq]
    dsimp only
    omega
  | cons x r ih =>
    have hx := h.h x List.mem_cons_self
    have up : ∀ q ∈ x :: r, q.2.natAbs ≤ (n + 1) * 100000000 := fun q hq => Nat.le_trans (h.h q hq) (Nat.mul_le_mul_right _ (Nat.le_succ n))
    unfold putZ
    by_cases e : x.1 = k
    · have hS : (x.2 + v).natAbs ≤ (n + 1) * 100000000 := by omega
      rw [if_pos e, if_pos (Sm_of hn hS)]
      refine ⟨_, rfl, ⟨fun q hq => ?_⟩⟩
      rcases List.mem_cons.1 hq with rfl | hq
      · exact hS
      · exact up q (List.mem_cons_of_mem _ hq)
    · rw [if_neg e]
      by_cases hl : ltZ k x.1 = true
      · rw [if_pos hl]
        refine ⟨_, rfl, ⟨fun q hq => ?_⟩⟩
        rcases List.mem_cons.1 hq with rfl | hq
        · dsimp only
          omega
        · exact up q hq
      · rw [if_neg hl]
        obtain ⟨z', h1, h2⟩ := ih ⟨fun q hq => h.h q (List.mem_cons_of_mem _ hq)⟩
        rw [h1]
        refine ⟨_, rfl, ⟨fun q hq => ?_⟩⟩
        rcases List.mem_cons.1 hq with rfl | hq
        · exact up _ List.mem_cons_self
        · exact h2.h q hq
theorem putZ_sumP {P : KZ → Bool} {k : KZ} {v : Int} : ∀ {z z' : List (KZ × Int)}, putZ k v z = some z' → sumP P z' = sumP P z + (if P k = true then v else 0)
  | [], z', h => by
    cases h
    show (if P k = true then v else 0) + 0 = 0 + _
    omega
  | x :: r, z', h => by
    unfold putZ at h
    by_cases e : x.1 = k
    · rw [if_pos e] at h
      split at h
      · cases h
        unfold sumP
        dsimp only
        rw [e]
        split <;> omega
      · cases h
    · rw [if_neg e] at h
      by_cases hl : ltZ k x.1 = true
      · rw [if_pos hl] at h
        cases h
        show (if P k = true then v else 0) + sumP P (x :: r) = _
        omega
      · rw [if_neg hl] at h
        obtain ⟨z1, h1, h2⟩ := Option.map_eq_some_iff.1 h
        subst h2
        have := putZ_sumP (P := P) h1
        unfold sumP
        omega
/-- What lines, what entries put under keys of a kind. -/
def totL (P : KZ → Bool) (o : Bool) : List Sapi_Line → Int
  | [] => 0
  | x :: r => (if P (kzL o x) = true then val x.f_Amount else 0) + totL P o r
def totE (P : KZ → Bool) (p : Int) (t : Speriod_Table) : List Sapi_Entry → Int
  | [] => 0
  | x :: r => (if x.f_Period > p then 0 else totL P (opn t x.f_Period) x.f_Lines) + totE P p t r
theorem linesZ_sumP {P : KZ → Bool} {o : Bool} : ∀ {ls : List Sapi_Line} {z z' : List (KZ × Int)}, linesZ o ls z = some z' → sumP P z' = sumP P z + totL P o ls
  | [], z, z', h => by cases h; exact (Int.add_zero _).symm
  | x :: r, z, z', h => by
    unfold linesZ at h
    obtain ⟨z1, h1, h2⟩ := Option.bind_eq_some_iff.1 h
    have e1 := putZ_sumP (P := P) h1
    have e2 := linesZ_sumP (P := P) h2
    unfold totL
    omega
theorem entZ_sumP {P : KZ → Bool} {p : Int} {t : Speriod_Table} : ∀ {es : List Sapi_Entry} {z z' : List (KZ × Int)}, entZ p t es z = some z' → sumP P z' = sumP P z + totE P p t es
  | [], z, z', h => by cases h; exact (Int.add_zero _).symm
  | x :: r, z, z', h => by
    unfold entZ at h
    unfold totE
    split at h
    · rename_i hp
      have := entZ_sumP (P := P) h
      rw [if_pos hp]
      omega
    · rename_i hp
      obtain ⟨z1, h1, h2⟩ := Option.bind_eq_some_iff.1 h
      have e1 := linesZ_sumP (P := P) h1
      have e2 := entZ_sumP (P := P) h2
      rw [if_neg hp]
      omega
/-- Of a middle size. -/
def LB (x : Sapi_Line) : Prop := (val x.f_Amount).natAbs ≤ 100000000
theorem linesZ_ok {o : Bool} : ∀ {ls : List Sapi_Line} {n : Nat} {z : List (KZ × Int)}, (∀ x ∈ ls, LB x) → n + ls.length ≤ 100000 → BZ n z → ∃ z', linesZ o ls z = some z' ∧ BZ (n + ls.length) z'
  | [], n, z, _, _, h => ⟨z, rfl, h⟩
  | x :: r, n, z, hl, hn, h => by
    rw [List.length_cons] at hn ⊢
    obtain ⟨z1, h1, h2⟩ := putZ_ok (k := kzL o x) (hl x List.mem_cons_self) (n := n) (by omega) z h
    obtain ⟨z2, h3, h4⟩ := linesZ_ok (o := o) (fun y hy => hl y (List.mem_cons_of_mem _ hy)) (by omega) h2
    refine ⟨z2, ?_, by rw [show n + (r.length + 1) = n + 1 + r.length by omega]; exact h4⟩
    unfold linesZ
    rw [h1, Option.bind_some, h3]
theorem BZ.up {n m : Nat} {z : List (KZ × Int)} (h : BZ n z) (hn : n ≤ m) : BZ m z := ⟨fun q hq => Nat.le_trans (h.h q hq) (Nat.mul_le_mul_right _ hn)⟩
theorem entZ_ok {p : Int} {t : Speriod_Table} : ∀ {es : List Sapi_Entry} {n : Nat} {z : List (KZ × Int)}, (∀ x ∈ es, x.f_Lines.length ≤ 8 ∧ ∀ y ∈ x.f_Lines, LB y) → n + 8 * es.length ≤ 100000 → BZ n z → ∃ z', entZ p t es z = some z' ∧ BZ (n + 8 * es.length) z'
  | [], n, z, _, _, h => ⟨z, rfl, h⟩
  | x :: r, n, z, hl, hn, h => by
    rw [List.length_cons] at hn ⊢
    have hx := hl x List.mem_cons_self
    unfold entZ
    split
    · obtain ⟨z2, h3, h4⟩ := entZ_ok (p := p) (t := t) (fun y hy => hl y (List.mem_cons_of_mem _ hy)) (by omega) h
      exact ⟨z2, h3, h4.up (by omega)⟩
    · obtain ⟨z1, h1, h2⟩ := linesZ_ok (o := opn t x.f_Period) hx.2 (n := n) (by omega) h
      obtain ⟨z2, h3, h4⟩ := entZ_ok (p := p) (t := t) (fun y hy => hl y (List.mem_cons_of_mem _ hy)) (n := n + x.f_Lines.length) (by omega) h2
      refine ⟨z2, ?_, h4.up (by omega)⟩
      rw [h1, Option.bind_some, h3]
theorem sumP_some (P : KZ → Bool) : ∀ z : List (KZ × Int), sumP P (someZ z) = sumP P z
  | [] => rfl
  | x :: r => by
    have ih := sumP_some P r
    unfold someZ at ih ⊢
    by_cases h : x.2 = 0
    · rw [List.filter_cons_of_neg (by simp [h]), ih]
      show _ = (if P x.1 = true then x.2 else 0) + sumP P r
      rw [h]
      split <;> exact (Int.zero_add _).symm
    · rw [List.filter_cons_of_pos (by simpa using h)]
      unfold sumP
      rw [ih]
theorem BZ.some {n : Nat} {z : List (KZ × Int)} (h : BZ n z) : BZ n (someZ z) := ⟨fun q hq => h.h q (List.mem_filter.1 hq).1⟩
/-- Two that rise, of the same members, are one. -/
theorem ris_ext : ∀ {a b : List (KZ × Int)}, Ris a → Ris b → (∀ x, x ∈ a ↔ x ∈ b) → a = b
  | [], [], _, _, _ => rfl
  | [], y :: s, _, _, h => by cases (h y).2 List.mem_cons_self
  | x :: r, [], _, _, h => by cases (h x).1 List.mem_cons_self
  | x :: r, y :: s, ha, hb, h => by
    have ha' := List.pairwise_cons.1 ha
    have hb' := List.pairwise_cons.1 hb
    have e : x = y := by
      rcases List.mem_cons.1 ((h x).1 List.mem_cons_self) with e | hx
      · exact e
      · rcases List.mem_cons.1 ((h y).2 List.mem_cons_self) with e | hy
        · exact e.symm
        · exact absurd rfl (ltZ_irr (ltZ_trans (hb'.1 x hx) (ha'.1 y hy)))
    subst e
    refine congrArg (x :: ·) (ris_ext ha'.2 hb'.2 fun q => ⟨fun hq => ?_, fun hq => ?_⟩)
    · rcases List.mem_cons.1 ((h q).1 (List.mem_cons_of_mem _ hq)) with e | hq'
      · subst e; exact absurd rfl (ltZ_irr (ha'.1 q hq))
      · exact hq'
    · rcases List.mem_cons.1 ((h q).2 (List.mem_cons_of_mem _ hq)) with e | hq'
      · subst e; exact absurd rfl (ltZ_irr (hb'.1 q hq))
      · exact hq'
theorem sumP_none {P : KZ → Bool} : ∀ {z : List (KZ × Int)}, (∀ q ∈ z, P q.1 = false) → sumP P z = 0
  | [], _ => rfl
  | x :: r, h => by
    unfold sumP
    rw [if_neg (by rw [h x List.mem_cons_self]; decide), sumP_none fun q hq => h q (List.mem_cons_of_mem _ hq)]
    rfl
theorem sumP_key {z : List (KZ × Int)} (hz : Ris z) {q : KZ × Int} (hq : q ∈ z) : sumP (fun k => k == q.1) z = q.2 := by
  induction z with
  | nil => cases hq
  | cons x r ih =>
    have h' := List.pairwise_cons.1 hz
    unfold sumP
    rcases List.mem_cons.1 hq with rfl | hr
    · rw [sumP_none fun p hp => by
        rw [beq_eq_false_iff_ne]
        exact (ltZ_irr (h'.1 p hp)).symm, if_pos (by simp)]
      omega
    · rw [if_neg (by simpa using ltZ_irr (h'.1 q hr)), ih h'.2 hr]
      omega
/-- What is known of each key's sum is known of the whole. -/
theorem some_ext {a b : List (KZ × Int)} (ha : Ris a) (hb : Ris b) (h : ∀ k : KZ, sumP (fun q => q == k) a = sumP (fun q => q == k) b) : someZ a = someZ b := by
  have half : ∀ {a b : List (KZ × Int)}, Ris a → Ris b → (∀ k : KZ, sumP (fun q => q == k) a = sumP (fun q => q == k) b) → ∀ q, q ∈ someZ a → q ∈ someZ b := by
    intro a b ha hb h q hq
    obtain ⟨h1, h2⟩ := List.mem_filter.1 hq
    have e := sumP_key ha h1
    rw [h q.1] at e
    have h0 : q.2 ≠ 0 := by simpa using h2
    obtain ⟨p, hp, hk⟩ : ∃ p ∈ b, p.1 = q.1 := Classical.byContradiction fun hn => h0 (by
      rw [← e]
      exact sumP_none fun p hp => by
        rw [beq_eq_false_iff_ne]
        exact fun hk => hn ⟨p, hp, hk⟩)
    have e2 := sumP_key hb hp
    rw [hk, e] at e2
    have : p = q := Prod.ext hk e2.symm
    subst this
    exact List.mem_filter.2 ⟨hp, h2⟩
  exact ris_ext (someZ_ris ha) (someZ_ris hb) fun q => ⟨half ha hb h q, half hb ha (fun k => (h k).symm) q⟩
/-- Two maps that are one list are the same. -/
theorem mapEq_of {s : Nat} {M N : List (KZ × Sapi_Dec)} {z : List (KZ × Int)} (h : MZ s M z) (h' : MZ s N z) : mapEq keq_a2_i64 keq_Sapi_Dec M N = true := by
  unfold mapEq
  rw [h.len, h'.len, beq_self_eq_true, Bool.true_and, List.all_eq_true]
  intro p hp
  have : p ∈ N := h'.perm.mem_iff.2 (h.perm.mem_iff.1 hp)
  rw [mget_nd h'.nd (show (p.1, p.2) ∈ N from this)]
  exact keqD_refl p.2
/-- Is there one of the account? -/
def hasA (acct : Int) (z : List (KZ × Int)) : Bool := z.any fun q => q.1.1 == acct
theorem pow_le9 {n : Nat} (h : n ≤ 9) : 0 < (10 : Int) ^ n ∧ (10 : Int) ^ n ≤ 1000000000 := by
  have : ∀ m : Nat, m < 10 → 0 < (10 : Int) ^ m ∧ (10 : Int) ^ m ≤ 1000000000 := by decide
  exact this n (by omega)
theorem mulA_bd {x A : Int} {n : Nat} (hx : x.natAbs ≤ n * 100000000) (hA : 0 < A ∧ A ≤ 1000000000) : (x * A).natAbs ≤ n * 100000000000000000 := by
  rw [Int.natAbs_mul]
  have h1 : A.natAbs ≤ 1000000000 := by omega
  have h2 := Nat.mul_le_mul hx h1
  rw [Nat.mul_assoc] at h2
  exact h2
theorem sumZ_at {acct : Int} {s m n : Nat} (hs : s ≤ m) (hm : m ≤ 9) (hn : n ≤ 1000) : ∀ {z : List (KZ × Int)} {v : Int} {N : Nat}, BZ n z → v.natAbs ≤ N * 100000000000000000 → N + n * z.length ≤ 1000000 → sumZ acct s z (v, m) = some (v + sumP (fun k => k.1 == acct) z * 10 ^ (m - s), m)
  | [], v, N, _, _, _ => by
    unfold sumZ sumP
    rw [Int.zero_mul, Int.add_zero]
  | x :: r, v, N, hz, hv, hN => by
    have hx := mulA_bd (hz.h x List.mem_cons_self) (pow_le9 (show m - s ≤ 9 by omega))
    have hr : BZ n r := ⟨fun q hq => hz.h q (List.mem_cons_of_mem _ hq)⟩
    rw [List.length_cons, Nat.mul_add] at hN
    have hmx : max m s = m := by omega
    unfold sumZ sumP
    dsimp only
    by_cases e : x.1.1 = acct
    · rw [if_pos e, if_pos (show (x.1.1 == acct) = true by simpa using e), hmx, Nat.sub_self, Int.pow_zero, Int.mul_one]
      rw [if_pos (by unfold Sm; omega), sumZ_at hs hm hn (N := N + n) hr (by omega) (by omega), Int.add_mul, Int.add_assoc]
    · rw [if_neg e, if_neg (show ¬ (x.1.1 == acct) = true by simpa using e), sumZ_at hs hm hn (N := N) hr hv (by omega), Int.zero_add]
theorem sumZ_from {acct : Int} {s c n : Nat} (hs : s ≤ 9) (hc : c ≤ 9) (hn : n ≤ 1000) : ∀ {z : List (KZ × Int)}, BZ n z → n * z.length ≤ 1000000 → sumZ acct s z (0, c) = some (if hasA acct z then (sumP (fun k => k.1 == acct) z * 10 ^ (max c s - s), max c s) else (0, c))
  | [], _, _ => rfl
  | x :: r, hz, hN => by
    have hr : BZ n r := ⟨fun q hq => hz.h q (List.mem_cons_of_mem _ hq)⟩
    rw [List.length_cons, Nat.mul_add] at hN
    unfold sumZ sumP hasA
    dsimp only
    rw [List.any_cons]
    by_cases e : x.1.1 = acct
    · have hx := mulA_bd (hz.h x List.mem_cons_self) (pow_le9 (show max c s - s ≤ 9 by omega))
      rw [if_pos e, show (x.1.1 == acct) = true by simpa using e, Bool.true_or, if_pos rfl, if_pos rfl, Int.zero_mul, Int.zero_add]
      rw [if_pos (by unfold Sm; omega), sumZ_at (by omega) (by omega) hn (N := n) hr (by omega) (by omega), Int.add_mul]
    · rw [if_neg e, show (x.1.1 == acct) = false by simpa using e, Bool.false_or, if_neg Bool.false_ne_true, sumZ_from hs hc hn hr (by omega), Int.zero_add]
      rfl
theorem hasA_no {acct : Int} {z : List (KZ × Int)} (h : hasA acct z = false) : sumP (fun k => k.1 == acct) z = 0 := sumP_none fun q hq => by
  unfold hasA at h
  rw [List.any_eq_false] at h
  simpa using h q hq
end Go.Proofs.YtbchcjlllddlpaaGreat.Pure
/- The books' amounts are of a middle size; their closed periods are the first ones. No conditions but size. -/
namespace Go.Proofs.YtbchcjlllddlpaaGreat.Pure
set_option linter.unusedVariables false
set_option linter.unusedSimpArgs false
open Go Go.Ev Go.Lm Go.Pu Go.Dg
def BInv (b : Sledger_Book) : Prop := ∀ x ∈ b.f_l, ∀ y ∈ x.f_Lines, LB y
theorem BInv.add {b : Sledger_Book} (h : BInv b) {x : Sapi_Entry} (hx : ∀ y ∈ x.f_Lines, LB y) : BInv (addR b x).2.2 := by
  unfold addR
  split
  · split
    · exact h
    · intro y hy
      rcases List.mem_append.1 hy with hy | hy
      · exact h y hy
      · have : y = x := by simpa using hy
        rw [this]
        exact hx
  · exact h
theorem BInv.post {s : Nat} {b : Sledger_Book} (h : BInv b) (p : Int) {l : List Sapi_Line} (hl : ∀ y ∈ l, LB y) : BInv (postR s b p l).2.2 := by
  unfold postR
  split
  · exact h.add hl
  · exact h
theorem getD_setB {C : List Bool} {n : Nat} (h : n < C.length) (v : Bool) (i : Nat) : (C.set n v).getD i false = if i = n then v else C.getD i false := by
  rw [List.getD_eq_getElem?_getD, List.getD_eq_getElem?_getD, List.getElem?_set]
  by_cases e : i = n
  · rw [if_pos e, if_pos e.symm, if_pos h]; rfl
  · rw [if_neg e, if_neg (fun h => e h.symm)]
/-- The closed ones are the first c. -/
def ClC (c : Nat) (C : List Bool) : Prop := C.length = 12 ∧ ∀ i : Nat, i < 12 → C.getD i false = decide (i < c)
theorem ClC.clo {c : Nat} {C : List Bool} (h : ClC c C) {p : Int} (hp : 0 ≤ p ∧ p < 12) (hc : Pe.cOk C p = true) : p.toNat = c := by
  unfold Pe.cOk at hc
  simp only [Bool.and_eq_true, decide_eq_true_eq, Bool.not_eq_true', Bool.or_eq_true, decide_eq_false_iff_not] at hc
  obtain ⟨_, _, h1, h2⟩ := hc
  rw [h.2 _ (by omega), decide_eq_false_iff_not] at h1
  rcases h2 with h2 | h2
  · omega
  · rw [h.2 _ (by omega), decide_eq_true_eq] at h2
    omega
theorem ClC.up {c : Nat} {C : List Bool} (h : ClC c C) (hc : c < 12) : ClC (c + 1) (C.set c true) := by
  refine ⟨by rw [List.length_set]; exact h.1, fun i hi => ?_⟩
  rw [getD_setB (by rw [h.1]; exact hc), h.2 i hi]
  by_cases e : i = c
  · rw [if_pos e, decide_eq_true (by omega)]
  · rw [if_neg e]
    exact decide_eq_decide.2 ⟨fun h => by omega, fun h => by omega⟩
theorem opn_eq {t : Speriod_Table} {c : Nat} (h : ClC c t.f_Closed) (i : Int) : opn t i = decide (0 ≤ i ∧ i < 12 ∧ (c : Int) ≤ i) := by
  unfold opn
  by_cases h1 : i ≥ 0
  · by_cases h2 : i < 12
    · rw [h.2 _ (by omega), decide_eq_true h1, decide_eq_true h2, Bool.true_and, Bool.true_and, ← decide_not]
      exact decide_eq_decide.2 ⟨fun h => by omega, fun h => by omega⟩
    · rw [decide_eq_false h2, Bool.false_and, Bool.and_false, decide_eq_false (by omega)]
  · rw [decide_eq_false h1, Bool.false_and, decide_eq_false (by omega)]
/-- The trial of a book of middle sizes. -/
theorem trial_ok {k : Nat} (hk : 1002 < k) {s : Nat} (hs : s ≤ 4) {b : Sledger_Book} (h : TInv s b) (hB : BInv b) {p : Int} (hp : 0 ≤ p ∧ p < 12) :
    ∃ M z, trial_Of.f k b p = some (M, 0, b) ∧ entZ p b.f_t b.f_l [] = some z ∧ MZ s M (someZ z) ∧ Ris z ∧ (someZ z).length ≤ 1000 ∧ BZ 320 (someZ z) := by
  obtain ⟨M, e, h1, h2⟩ := Trial_eq hk hs h p
  have hl := h.len
  obtain ⟨z, h3, h4⟩ := entZ_ok (p := p) (t := b.f_t) (es := b.f_l) (n := 0) (z := []) (fun x hx => ⟨(h.ls x hx).1, hB x hx⟩) (by omega) ⟨fun q hq => (List.not_mem_nil hq).elim⟩
  obtain ⟨g1, g2, g3⟩ := entZ_len h.ls List.Pairwise.nil (fun p hp => (List.not_mem_nil hp).elim) h3
  have hso : (someZ z).length ≤ z.length := List.length_filter_le _ _
  rw [if_neg (by omega), h3] at h2
  obtain ⟨rfl, h6⟩ := h2
  exact ⟨M, z, h1, h3, h6, g1, by simp at g3; omega, h4.some.up (by omega)⟩
/-- The sum of an account, of middle sizes. -/
theorem sum_ok {k : Nat} (hk : 1002 < k) {s : Nat} (hs : s ≤ 4) {M : List (KZ × Sapi_Dec)} {z : List (KZ × Int)} (h : MZ s M (someZ z)) (hl : (someZ z).length ≤ 1000) (hz : BZ 320 (someZ z)) (acct : Int) {c : Nat} (hc : c ≤ 9) :
    trial_Sum.f k M acct (c : Int) = some (if hasA acct (someZ z) then DV (sumP (fun k => k.1 == acct) z * 10 ^ (max c s - s)) (max c s) else DV 0 c, 0, M) := by
  have h1 := Sum_eq hk hs h hl acct (c : Int)
  rw [cl_of hc, sumZ_from (by omega) hc (n := 320) (by decide) hz (by omega), sumP_some] at h1
  rw [h1]
  cases hasA acct (someZ z) <;> rfl
end Go.Proofs.YtbchcjlllddlpaaGreat.Pure
/- TrialAdds: what is booked in one entry or in two makes the same trial. No conditions but size. -/
namespace Go.Proofs.YtbchcjlllddlpaaGreat.Pure
set_option linter.unusedVariables false
set_option linter.unusedSimpArgs false
open Go Go.Ev Go.Lm Go.Pu Go.Dg
theorem known15 : pyxlaw15_known.f 2000 = some true := by decide +kernel
theorem LnOk.rl {s : Nat} (hs : s ≤ 9) {e : Int} (he : e ≤ 8) {x : Sapi_Line} (h : LnOk s e x) : rlB s x = true ∧ LB x := by
  obtain ⟨v, h1, h2, h3, h4, h5, h6⟩ := h
  have hS : Sm v := by unfold Sm; omega
  refine ⟨?_, by unfold LB; rw [h1, val_DV]; exact h2⟩
  unfold rlB
  rw [h1, val_DV, dOk_of_DV hS hs, decide_eq_true h4.1, decide_eq_true h4.2, decide_eq_false h3, show ((DV v s).f_Scale == (s : Int)) = true from beq_self_eq_true _]
  cases hw : isW x.f_Acct with
  | true =>
    have := h5 hw
    rw [if_pos rfl, decide_eq_true this.1, decide_eq_true (by omega)]
    rfl
  | false =>
    rw [if_neg Bool.false_ne_true, h6 hw]
    rfl
theorem runS_amt : ∀ {l : List Sapi_Line} {a : Int} {n : Nat}, (∀ x ∈ l, LB x) → n + l.length ≤ 100000 → a.natAbs ≤ n * 100000000 → runS a l = some (a + amtS l)
  | [], a, n, _, _, _ => by
    unfold runS amtS
    rw [Int.add_zero]
  | x :: r, a, n, hl, hn, ha => by
    rw [List.length_cons] at hn
    have hx := hl x List.mem_cons_self
    unfold LB at hx
    have hS : (a + val x.f_Amount).natAbs ≤ (n + 1) * 100000000 := by omega
    unfold runS
    rw [if_pos (show (a + val x.f_Amount).natAbs < 1000000000000000000000000000000 from Sm_of (by omega) hS), runS_amt (n := n + 1) (fun y hy => hl y (List.mem_cons_of_mem _ hy)) (by omega) hS, Int.add_assoc]
    rfl
theorem right_of {s : Nat} (hs : s ≤ 9) {e : Int} (he : e ≤ 8) {l : List Sapi_Line} (h0 : 0 < l.length) (h8 : l.length ≤ 8) (hl : ∀ x ∈ l, LnOk s e x) (hz : amtS l = 0) : rightE s l = 0 := by
  unfold rightE
  rw [if_neg (by omega), if_pos (List.all_eq_true.2 fun x hx => ((hl x hx).rl hs he).1), runS_amt (n := 0) (fun x hx => ((hl x hx).rl hs he).2) (by omega) (by decide), hz]
  rfl
theorem totL_app (P : KZ → Bool) (o : Bool) : ∀ a b : List Sapi_Line, totL P o (a ++ b) = totL P o a + totL P o b
  | [], b => (Int.zero_add _).symm
  | x :: r, b => by
    show _ + totL P o (r ++ b) = _ + totL P o r + totL P o b
    rw [totL_app P o r b, Int.add_assoc]
theorem totL_bd {P : KZ → Bool} {o : Bool} : ∀ {l : List Sapi_Line} {n : Nat}, (∀ x ∈ l, LB x) → l.length ≤ n → (totL P o l).natAbs ≤ n * 100000000
  | [], n, _, _ => Nat.zero_le _
  | x :: r, n, hl, hn => by
    rw [List.length_cons] at hn
    obtain ⟨m, rfl⟩ : ∃ m, n = m + 1 := ⟨n - 1, by omega⟩
    have hx := hl x List.mem_cons_self
    unfold LB at hx
    have ih := totL_bd (P := P) (o := o) (l := r) (n := m) (fun y hy => hl y (List.mem_cons_of_mem _ hy)) (by omega)
    rw [Nat.add_mul, Nat.one_mul]
    unfold totL
    split
    · exact Nat.le_trans (Int.natAbs_add_le _ _) (Nat.le_trans (Nat.add_le_add hx ih) (Nat.le_of_eq (Nat.add_comm _ _)))
    · rw [Int.zero_add]
      exact Nat.le_trans ih (Nat.le_add_right _ _)
/-- An account's sum over lines. -/
theorem acct_sum {k : Nat} (hk : 1002 < k) {ls : List Sapi_Line} (hl : ls.length ≤ 1000) (hw : ∀ x ∈ ls, LnOk 2 4 x) (p acct sc : Int) (x y : List Sapi_Line) (bl : List Sapi_Entry) {t : Speriod_Table} (ht : T12 t) (M : List (KZ × Sapi_Dec)) :
    iter (pyxlaw15_TrialAdds.l22.once k) k (p, x, y, acct, ls, (ls.length : Int), 0, sc, bl, t, M, (DV 0 2).f_Neg, (DV 0 2).f_C.1, (DV 0 2).f_C.2, (DV 0 2).f_Scale) = some (p, x, y, acct, sc, bl, t, M, (DV (totL (fun q => q.1 == acct) true ls) 2).f_Neg, (DV (totL (fun q => q.1 == acct) true ls) 2).f_C.1, (DV (totL (fun q => q.1 == acct) true ls) 2).f_C.2, (DV (totL (fun q => q.1 == acct) true ls) 2).f_Scale) := by
  have e1 := pk ht
  have it := iter_seq (once := pyxlaw15_TrialAdds.l22.once k) (fun i => (p, x, y, acct, ls, (ls.length : Int), (i : Int), sc, bl, t, M, (DV (totL (fun q => q.1 == acct) true (ls.take i)) 2).f_Neg, (DV (totL (fun q => q.1 == acct) true (ls.take i)) 2).f_C.1, (DV (totL (fun q => q.1 == acct) true (ls.take i)) 2).f_C.2, (DV (totL (fun q => q.1 == acct) true (ls.take i)) 2).f_Scale)) ls.length (fun i hi => by
      have hx := hw _ (getD_memL Sapi_Line.zero hi)
      have hwr := wrapi (show -9223372036854775808 ≤ (i : Int) + 1 ∧ (i : Int) + 1 < 9223372036854775808 by omega)
      have htk : totL (fun q => q.1 == acct) true (ls.take (i + 1)) = totL (fun q => q.1 == acct) true (ls.take i) + totL (fun q => q.1 == acct) true [ls.getD i Sapi_Line.zero] := by
        rw [← totL_app, List.take_add_one, List.getElem?_eq_getElem hi, List.getD_eq_getElem?_getD, List.getElem?_eq_getElem hi]
        rfl
      have hS : Sm (totL (fun q => q.1 == acct) true (ls.take i)) := Sm_of (n := 1000) (by decide) (totL_bd (fun z hz => ((hw z (List.mem_of_mem_take hz)).rl (by decide) (by decide)).2) (by rw [List.length_take]; omega))
      have hS2 : Sm (totL (fun q => q.1 == acct) true (ls.take (i + 1))) := Sm_of (n := 1000) (by decide) (totL_bd (fun z hz => ((hw z (List.mem_of_mem_take hz)).rl (by decide) (by decide)).2) (by rw [List.length_take]; omega))
      unfold pyxlaw15_TrialAdds.l22.once
      dsimp only
      simp only [e1]
      rw [ct (show (i : Int) < (ls.length : Int) by omega), inb_t (by omega) (by omega), cond_true, Int.toNat_natCast]
      rw [htk] at hS2 ⊢
      generalize ls.getD i Sapi_Line.zero = z at hx hS2 ⊢
      have hk1 : (kzL true z).1 = z.f_Acct := by
        unfold kzL
        rw [if_neg (fun h => by cases h.2)]
      have hone : totL (fun q => q.1 == acct) true [z] = if z.f_Acct = acct then val z.f_Amount else 0 := by
        show (if ((kzL true z).1 == acct) = true then val z.f_Amount else 0) + 0 = _
        rw [hk1, Int.add_zero]
        by_cases e : z.f_Acct = acct
        · rw [if_pos e, if_pos (by simpa using e)]
        · rw [if_neg e, if_neg (by simpa using e)]
      rw [hone] at hS2 ⊢
      by_cases e : z.f_Acct = acct
      · obtain ⟨v, v1, v2, _⟩ := hx
        rw [show (z.f_Acct == acct) = true by simpa using e, cond_true, hwr]
        rw [if_pos e, v1, val_DV] at hS2 ⊢
        have ha : dec_Add.f k (⟨(DV (totL (fun q => q.1 == acct) true (ls.take i)) 2).f_Neg, ((DV (totL (fun q => q.1 == acct) true (ls.take i)) 2).f_C.1, (DV (totL (fun q => q.1 == acct) true (ls.take i)) 2).f_C.2), (DV (totL (fun q => q.1 == acct) true (ls.take i)) 2).f_Scale⟩ : Sapi_Dec) (⟨(DV v 2).f_Neg, ((DV v 2).f_C.1, (DV v 2).f_C.2), (DV v 2).f_Scale⟩ : Sapi_Dec) = some (mkD (totL (fun q => q.1 == acct) true (ls.take i) + v) 2) := Add_same (k := k) (by omega) hS (by unfold Sm; omega) (by decide)
        refine bof ha ?_
        have hm : mkD (totL (fun q => q.1 == acct) true (ls.take i) + v) 2 = (DV (totL (fun q => q.1 == acct) true (ls.take i) + v) 2, 0) := if_pos hS2
        rw [hm]
        rfl
      · rw [show (z.f_Acct == acct) = false by simpa using e, cond_false, hwr, if_neg e, Int.add_zero]
        rfl) (p, x, y, acct, sc, bl, t, M, (DV (totL (fun q => q.1 == acct) true ls) 2).f_Neg, (DV (totL (fun q => q.1 == acct) true ls) 2).f_C.1, (DV (totL (fun q => q.1 == acct) true ls) 2).f_C.2, (DV (totL (fun q => q.1 == acct) true ls) 2).f_Scale) (by
      unfold pyxlaw15_TrialAdds.l22.once
      dsimp only
      rw [cf (by omega), e1, List.take_length]) k 0 (Nat.zero_le _) (by omega)
  exact it
/-- All accounts' sums. -/
theorem acct_all {k : Nat} (hk : 1002 < k) {x y : List Sapi_Line} (hx : x.length ≤ 8) (hy : y.length ≤ 8) (wx : ∀ z ∈ x, LnOk 2 4 z) (wy : ∀ z ∈ y, LnOk 2 4 z) (p sc : Int) (bl : List Sapi_Entry) {t : Speriod_Table} (ht : T12 t) {M : List (KZ × Sapi_Dec)} {z : List (KZ × Int)}
    (hM : MZ 2 M (someZ z)) (hl : (someZ z).length ≤ 1000) (hz : BZ 320 (someZ z)) (hs : ∀ acct : Int, sumP (fun q => q.1 == acct) z = totL (fun q => q.1 == acct) true (x ++ y)) :
    iter (pyxlaw15_TrialAdds.l18.once k) k (p, x, y, 0, sc, bl, t, M) = some (.inl (p, sc, bl, t)) := by
  have e1 := pk ht
  refine iter_seq (once := pyxlaw15_TrialAdds.l18.once k) (fun i => (p, x, y, (i : Int), sc, bl, t, M)) 16 (fun i hi => ?_) (.inl (p, sc, bl, t)) ?_ k 0 (Nat.zero_le _) (by omega)
  · have hwr := wrapi (show -9223372036854775808 ≤ (i : Int) + 1 ∧ (i : Int) + 1 < 9223372036854775808 by omega)
    have s1 := sum_ok hk (show 2 ≤ 4 by decide) hM hl hz (i : Int) (c := 2) (by decide)
    have val2 : (if hasA (i : Int) (someZ z) = true then DV (sumP (fun q => q.1 == (i : Int)) z * 10 ^ (max 2 2 - 2)) (max 2 2) else DV 0 2) = DV (totL (fun q => q.1 == (i : Int)) true (x ++ y)) 2 := by
      rw [← hs, Nat.max_self, Nat.sub_self, Int.pow_zero, Int.mul_one]
      cases hh : hasA (i : Int) (someZ z) with
      | true => rfl
      | false =>
        have := hasA_no hh
        rw [sumP_some] at this
        rw [this]
        rfl
    rw [val2] at s1
    have ac := acct_sum hk (ls := x ++ y) (by rw [List.length_append]; omega) (fun z hz => by
      rcases List.mem_append.1 hz with h | h
      · exact wx z h
      · exact wy z h) p (i : Int) sc x y bl ht M
    unfold pyxlaw15_TrialAdds.l18.once
    dsimp only
    simp only [e1]
    rw [ct (show (i : Int) < 16 by omega)]
    refine bof (v := DV 0 2) rfl ?_
    rw [List.nil_append, okLen_t (by simp; omega), okLen_t (by omega), cond_true, cond_true]
    refine bof ac ?_
    dsimp only
    simp only [e1]
    refine bof s1 ?_
    dsimp only
    refine bof (v := (p, x, y, (i : Int), false, sc, bl, t, M)) ?_ ?_
    · rw [show ((0 : Int) != 0) = false from rfl, cond_false, beq_self_eq_true, beq_self_eq_true, beq_self_eq_true, beq_self_eq_true]
      rfl
    · dsimp only
      rw [cond_false, hwr, e1]
      rfl
  · unfold pyxlaw15_TrialAdds.l18.once
    dsimp only
    rw [cf (by omega), e1]
/-- A book of two entries. -/
theorem two_in {k : Nat} (hk : 1002 < k) {p : Int} (hp : 0 ≤ p ∧ p < 4) {x y : List Sapi_Line} (hx : 0 < x.length ∧ x.length ≤ 8 ∧ amtS x = 0 ∧ ∀ z ∈ x, LnOk 2 4 z) (hy : 0 < y.length ∧ y.length ≤ 8 ∧ amtS y = 0 ∧ ∀ z ∈ y, LnOk 2 4 z) :
    ∃ n m, ledger_Book_Post.f k (b0 2) p x = some (n, 0, ⟨2, [⟨p, x, -1⟩], (b0 2).f_t⟩) ∧ ledger_Book_Post.f k ⟨2, [⟨p, x, -1⟩], (b0 2).f_t⟩ p y = some (m, 0, ⟨2, [⟨p, x, -1⟩, ⟨p, y, -1⟩], (b0 2).f_t⟩) ∧ TInv 2 ⟨2, [⟨p, x, -1⟩, ⟨p, y, -1⟩], (b0 2).f_t⟩ ∧ BInv ⟨2, [⟨p, x, -1⟩, ⟨p, y, -1⟩], (b0 2).f_t⟩ := by
  have hC : ClC 0 (b0 2).f_t.f_Closed := ⟨rfl, by
    show ∀ i : Nat, i < 12 → [false, false, false, false, false, false, false, false, false, false, false, false].getD i false = decide (i < 0)
    decide⟩
  have ho : opn (b0 2).f_t p = true := by
    rw [opn_eq hC]
    exact decide_eq_true (by omega)
  have rx := right_of (s := 2) (by decide) (e := 4) (by decide) hx.1 hx.2.1 hx.2.2.2 hx.2.2.1
  have ry := right_of (s := 2) (by decide) (e := 4) (by decide) hy.1 hy.2.1 hy.2.2.2 hy.2.2.1
  have p1 : postR 2 (b0 2) p x = (0, 0, ⟨2, [⟨p, x, -1⟩], (b0 2).f_t⟩) := by
    unfold postR addR
    rw [if_pos rx, if_pos ho, if_neg (by simp [b0])]
    rfl
  have p2 : postR 2 ⟨2, [⟨p, x, -1⟩], (b0 2).f_t⟩ p y = (1, 0, ⟨2, [⟨p, x, -1⟩, ⟨p, y, -1⟩], (b0 2).f_t⟩) := by
    unfold postR addR
    rw [if_pos ry, if_pos ho, if_neg (by simp)]
    rfl
  have i0 := b0_inv 2
  have i1 := i0.post p (l := x) (fun z hz => (hx.2.2.2 z hz).w2)
  rw [p1] at i1
  have i2 := i1.post p (l := y) (fun z hz => (hy.2.2.2 z hz).w2)
  dsimp only at i2
  rw [p2] at i2
  have q1 := Bpost_eq (k := k) (by omega) i0.T i0.len (show 2 ≤ 9 by decide) i0.sc p (l := x) (by have := hx.2.1; omega) (fun z hz => (hx.2.2.2 z hz).w2)
  have q2 := Bpost_eq (k := k) (by omega) i1.T i1.len (show 2 ≤ 9 by decide) i1.sc p (l := y) (by have := hy.2.1; omega) (fun z hz => (hy.2.2.2 z hz).w2)
  rw [p1] at q1
  dsimp only at q2
  rw [p2] at q2
  refine ⟨_, _, q1, q2, i2, fun z hz => ?_⟩
  rcases List.mem_cons.1 hz with rfl | hz
  · exact fun w hw => ((hx.2.2.2 w hw).rl (by decide) (by decide)).2
  · rw [List.mem_singleton.1 hz]
    exact fun w hw => ((hy.2.2.2 w hw).rl (by decide) (by decide)).2
theorem TrialAdds (l0 : List Int) (w0 : (l0.length ≤ 9223372036854775807 ∧ l0.length * 8 ≤ 140737488351232 ∧ ∀ z ∈ l0, (Lit.int .i64 z).wf = true)) (l1 : List Int) (w1 : (l1.length ≤ 9223372036854775807 ∧ l1.length * 8 ≤ 140737488351232 ∧ ∀ z ∈ l1, (Lit.int .i64 z).wf = true)) (a2 : Int) (w2 : (Lit.int .i64 a2).wf = true) :
    ∃ k, pyxlaw15_TrialAdds.f k l0 l1 a2 = some true := by
  refine ⟨2000, ?_⟩
  have hk : 1002 < 2000 := by decide
  have bp := pick_bd a2 (m := 4) (by decide)
  unfold pyxlaw15_TrialAdds.f
  refine bof (Pick_eq 2000 a2 (by decide) (by decide)) ?_
  generalize pick a2 4 = p at bp ⊢
  obtain ⟨x, x1, x2, x3, x4⟩ := HLines_ok2 (k := 2000) (by decide) l0 w0.1 (s := 2) (by decide) (b := 0) (by decide) (e := 4) (by decide)
  obtain ⟨y, y1, y2, y3, y4⟩ := HLines_ok2 (k := 2000) (by decide) l1 w1.1 (s := 2) (by decide) (b := 0) (by decide) (e := 4) (by decide)
  have hx := x4 rfl
  have hy := y4 rfl
  have hx' : 0 < x.length ∧ x.length ≤ 8 ∧ amtS x = 0 ∧ ∀ z ∈ x, LnOk 2 4 z := ⟨hx.2.1, hx.2.2.1, hx.1, hx.2.2.2⟩
  have hy' : 0 < y.length ∧ y.length ≤ 8 ∧ amtS y = 0 ∧ ∀ z ∈ y, LnOk 2 4 z := ⟨hy.2.1, hy.2.2.1, hy.1, hy.2.2.2⟩
  have hN : ledger_New.f 2000 2 = some (b0 2) := by
    unfold ledger_New.f
    rfl
  refine bof x1 (bof y1 (bof hN (bof hN ?_)))
  have e1 := pk (b0_inv 2).T
  simp only [e1]
  refine bof (v := (p, x, y, false, (b0 2).f_scale, (b0 2).f_l, (b0 2).f_t, (b0 2).f_scale, (b0 2).f_l, (b0 2).f_t)) (bof known15 rfl) ?_
  dsimp only
  simp only [e1]
  rw [cond_false]
  obtain ⟨n1, m1, a1, a2, a3, a4⟩ := two_in hk bp hx' hy'
  obtain ⟨n2, m2, c1, c2, c3, c4⟩ := two_in hk bp hy' hx'
  have a1' : ledger_Book_Post.f 2000 (⟨(b0 2).f_scale, (b0 2).f_l, (b0 2).f_t⟩ : Sledger_Book) p x = _ := a1
  have c1' : ledger_Book_Post.f 2000 (⟨(b0 2).f_scale, (b0 2).f_l, (b0 2).f_t⟩ : Sledger_Book) p y = _ := c1
  refine bof a1' ?_
  dsimp only
  simp only [e1]
  refine bof a2 (bof c1' ?_)
  dsimp only
  simp only [e1]
  refine bof c2 ?_
  dsimp only
  simp only [e1]
  obtain ⟨S, zs, s1, s2, s3, s4, s5, s6⟩ := trial_ok hk (show 2 ≤ 4 by decide) a3 a4 (p := p) (by omega)
  obtain ⟨T, zt, t1, t2, t3, t4, t5, t6⟩ := trial_ok hk (show 2 ≤ 4 by decide) c3 c4 (p := p) (by omega)
  obtain ⟨U, zu, u1, u2, u3, u4, u5, u6⟩ := trial_ok hk (show 2 ≤ 4 by decide) a3 a4 (p := p + 3) (by omega)
  rw [wrapi (show -9223372036854775808 ≤ p + 3 ∧ p + 3 < 9223372036854775808 by omega)]
  refine bof s1 (bof t1 ?_)
  dsimp only
  simp only [e1]
  refine bof u1 ?_
  dsimp only
  simp only [e1]
  have hC : ClC 0 (b0 2).f_t.f_Closed := ⟨rfl, by
    show ∀ i : Nat, i < 12 → [false, false, false, false, false, false, false, false, false, false, false, false].getD i false = decide (i < 0)
    decide⟩
  have ho : opn (b0 2).f_t p = true := by
    rw [opn_eq hC]
    exact decide_eq_true (by omega)
  have tot2 : ∀ (P : KZ → Bool) (q : Int) (a b : List Sapi_Line), p ≤ q → totE P q (b0 2).f_t [⟨p, a, -1⟩, ⟨p, b, -1⟩] = totL P true a + totL P true b := fun P q a b hq => by
    unfold totE totE totE
    dsimp only
    rw [ho, if_neg (by omega), if_neg (by omega), Int.add_zero]
  have v1 : ∀ P : KZ → Bool, sumP P zs = totL P true x + totL P true y := fun P => by
    rw [entZ_sumP (P := P) s2, ← tot2 P p x y (by omega)]
    exact Int.zero_add _
  have v2 : ∀ P : KZ → Bool, sumP P zt = totL P true x + totL P true y := fun P => by
    rw [entZ_sumP (P := P) t2, Int.add_comm (totL P true x), ← tot2 P p y x (by omega)]
    exact Int.zero_add _
  have v3 : ∀ P : KZ → Bool, sumP P zu = totL P true x + totL P true y := fun P => by
    rw [entZ_sumP (P := P) u2, ← tot2 P (p + 3) x y (by omega)]
    exact Int.zero_add _
  have q1 : someZ zs = someZ zt := some_ext s4 t4 fun k => by rw [v1, v2]
  have q2 : someZ zs = someZ zu := some_ext s4 u4 fun k => by rw [v1, v3]
  have m1 := mapEq_of (q1 ▸ s3) t3
  have m2 := mapEq_of (q2 ▸ s3) u3
  refine bof (v := (p, x, y, false, 2, [⟨p, x, -1⟩, ⟨p, y, -1⟩], (b0 2).f_t, S)) ?_ ?_
  · rw [show ((0 : Int) != 0) = false from rfl, cond_false, cond_false, cond_false, m1, m2]
    rfl
  dsimp only
  simp only [e1]
  rw [cond_false]
  refine bof (acct_all hk hx'.2.1 hy'.2.1 hx'.2.2.2 hy'.2.2.2 p 2 [⟨p, x, -1⟩, ⟨p, y, -1⟩] (b0_inv 2).T s3 s5 s6 fun acct => by rw [v1, totL_app]) ?_
  dsimp only
  simp only [e1]
  rw [wrapi (show -9223372036854775808 ≤ p - 1 ∧ p - 1 < 9223372036854775808 by omega)]
  obtain ⟨R, zr, r1, r2, r3, r4, r5, r6⟩ := trial_ok hk (show 2 ≤ 4 by decide) a3 a4 (p := if p - 1 > 0 then p - 1 else 0) (by split <;> omega)
  refine bof r1 ?_
  dsimp only
  rw [show ((0 : Int) == 0) = true from rfl, cond_true]
  by_cases h0 : p = 0
  · rw [show (p == 0) = true by simpa using h0, cond_true]
  · rw [show (p == 0) = false by simpa using h0, cond_false]
    have he : zr = [] := by
      dsimp only at r2
      unfold entZ at r2
      rw [if_pos (by dsimp only; split <;> omega)] at r2
      unfold entZ at r2
      rw [if_pos (by dsimp only; split <;> omega)] at r2
      cases r2
      rfl
    rw [r3.len, he]
    rfl
end Go.Proofs.YtbchcjlllddlpaaGreat.Pure
