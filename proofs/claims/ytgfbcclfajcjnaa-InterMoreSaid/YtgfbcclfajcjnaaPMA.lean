/- Plain laws: Pu, Lm, Dl, Dm, Dt, Dg, Ra, Rb, Dc, Rd, Re, Vl, Iv, It, Iu, Ix, PureInterMore. No conditions but size. -/
import Derived.Test.YtgfbcclfajcjnaaEvLaw
import Derived.Laws.BitsLemmas
import Derived.ChangeShapes
import Derived.Test.YtgfbcclfajcjnaaFs
namespace Go.Pu
set_option linter.unusedVariables false
set_option linter.unusedSimpArgs false
open Go Go.Ev
theorem iter_step {X Y : Type} {once : X → Option (X ⊕ Y)} {n : Nat} {x x' : X} (h : once x = some (.inl x')) : iter once (n + 1) x = iter once n x' := by
  simp only [iter, h, Option.bind_some]
theorem iter_stop {X Y : Type} {once : X → Option (X ⊕ Y)} {n : Nat} {x : X} {y : Y} (h : once x = some (.inr y)) : iter once (n + 1) x = some y := by
  simp only [iter, h, Option.bind_some]
theorem iter_rule {X Y : Type} {once : X → Option (X ⊕ Y)} (Inv : X → Prop) (m : X → Nat) (Q : Y → Prop)
    (h : ∀ x, Inv x → (∃ x', once x = some (.inl x') ∧ Inv x' ∧ m x' < m x) ∨ ∃ y, once x = some (.inr y) ∧ Q y) :
    ∀ (n : Nat) (x : X), Inv x → m x < n → ∃ y, iter once n x = some y ∧ Q y := by
  intro n
  induction n with
  | zero => intro x _ h; omega
  | succ n ih =>
    intro x hx hm
    rcases h x hx with ⟨x', h1, h2, h3⟩ | ⟨y, h1, h2⟩
    · rw [iter_step h1]
      exact ih x' h2 (by omega)
    · exact ⟨y, iter_stop h1, h2⟩
theorem iter_seq {X Y : Type} {once : X → Option (X ⊕ Y)} (s : Nat → X) (N : Nat) (h : ∀ i, i < N → once (s i) = some (.inl (s (i + 1)))) (y : Y) (hy : once (s N) = some (.inr y)) :
    ∀ n i, i ≤ N → N - i < n → iter once n (s i) = some y := by
  intro n
  induction n with
  | zero => intro i _ h; omega
  | succ n ih =>
    intro i hi hn
    by_cases e : i = N
    · subst e; exact iter_stop hy
    · rw [iter_step (h i (by omega))]
      exact ih (i + 1) (by omega) (by omega)
theorem ct {α : Type} {p : Prop} [Decidable p] (h : p) {a b : α} : cond (decide p) a b = a := by rw [decide_eq_true h]; rfl
theorem cf {α : Type} {p : Prop} [Decidable p] (h : ¬ p) {a b : α} : cond (decide p) a b = b := by rw [decide_eq_false h]; rfl
theorem inb_t {i : Int} {n : Nat} (h : 0 ≤ i) (h' : i < n) : inb i n = true := by unfold inb; simp [h, h']
theorem blt_t {i n : Nat} (h : i < n) : Nat.blt i n = true := Nat.ble_eq_true_of_le h
theorem wrapi {n : Int} (h : -9223372036854775808 ≤ n ∧ n < 9223372036854775808) : IntKind.wrap .i64 n = n := by rw [IntKind.wrap_i64]; omega
theorem wrapu {n : Int} (h : 0 ≤ n ∧ n < 18446744073709551616) : IntKind.wrap .u64 n = n := by
  have : IntKind.wrap .u64 n = n % 18446744073709551616 := by simp [IntKind.wrap, IntKind.bits, IntKind.signed]
  rw [this]; omega
theorem wrap64 (n : Int) : IntKind.u64.wrap n = n % 18446744073709551616 := by simp [IntKind.wrap, IntKind.bits, IntKind.signed]
theorem wrap32 (n : Int) : IntKind.u32.wrap n = n % 4294967296 := by simp [IntKind.wrap, IntKind.bits, IntKind.signed]
theorem and64 {a b : Nat} (ha : a < 18446744073709551616) (hb : b < 18446744073709551616) : bits .and .u64 a b = ((a &&& b : Nat) : Int) :=
  (bits_nat .u64 64 (by decide) (fun n h0 h1 => by rw [wrap64]; omega) a b ha hb).1
theorem or64 {a b : Nat} (ha : a < 18446744073709551616) (hb : b < 18446744073709551616) : bits .or .u64 a b = ((a ||| b : Nat) : Int) :=
  (bits_nat .u64 64 (by decide) (fun n h0 h1 => by rw [wrap64]; omega) a b ha hb).2
def pick (n m : Int) : Int := if Int.tmod n m < 0 then Int.tmod n m + m else Int.tmod n m
theorem pick_bd (n : Int) {m : Int} (h : 0 < m) : 0 ≤ pick n m ∧ pick n m < m := by
  unfold pick
  have h1 : -m < Int.tmod n m := Int.lt_tmod_of_pos n h
  have h2 := Int.tmod_lt_of_pos n h
  split <;> omega
end Go.Pu
namespace Go.Lm
open Go Go.Pu
theorem ofInt64 {a : Nat} (h : a < 18446744073709551616) : (BitVec.ofInt 64 (a : Int)).toNat = a := by
  rw [BitVec.ofInt_natCast, BitVec.toNat_ofNat]
  exact Nat.mod_eq_of_lt h
theorem not64 {a : Nat} (ha : a < 18446744073709551616) : bits .xor .u64 18446744073709551615 a = ((18446744073709551615 - a : Nat) : Int) := by
  have h : (BitVec.ofInt 64 18446744073709551615 ^^^ BitVec.ofInt 64 (a : Int)).toNat = 18446744073709551615 - a := by
    have e : BitVec.ofInt 64 18446744073709551615 = BitVec.allOnes 64 := by decide
    rw [e, BitVec.allOnes_xor, BitVec.toNat_not, ofInt64 ha]
  show IntKind.u64.wrap ((BitVec.ofInt 64 18446744073709551615 ^^^ BitVec.ofInt 64 (a : Int)).toNat : Int) = _
  rw [h, wrap64]
  omega
theorem andNot64 {a b : Nat} (ha : a < 18446744073709551616) (hb : b < 18446744073709551616) : bits .andNot .u64 a b = ((a &&& (18446744073709551615 - b) : Nat) : Int) := by
  have h : (BitVec.ofInt 64 (a : Int) &&& ~~~ BitVec.ofInt 64 (b : Int)).toNat = a &&& (18446744073709551615 - b) := by
    rw [BitVec.toNat_and, BitVec.toNat_not, ofInt64 ha, ofInt64 hb]
  have hl : a &&& (18446744073709551615 - b) < 18446744073709551616 := Nat.lt_of_le_of_lt Nat.and_le_left ha
  show IntKind.u64.wrap ((BitVec.ofInt 64 (a : Int) &&& ~~~ BitVec.ofInt 64 (b : Int)).toNat : Int) = _
  rw [h, wrap64]
  omega
theorem top_bit {n : Nat} (h : n < 18446744073709551616) : n / 2 ^ 63 = 0 ∨ n / 2 ^ 63 = 1 := by omega
theorem fdiv63 (n : Nat) : Int.fdiv (n : Int) (2 ^ 63) = ((n / 2 ^ 63 : Nat) : Int) := by
  rw [show ((2 : Int) ^ 63) = ((2 ^ 63 : Nat) : Int) by decide, Int.fdiv_eq_ediv_of_nonneg _ (Int.natCast_nonneg _)]
  exact (Int.natCast_ediv _ _).symm
theorem carry {a b c : Int} (ha : 0 ≤ a ∧ a < 18446744073709551616) (hb : 0 ≤ b ∧ b < 18446744073709551616) (hc : 0 ≤ c ∧ c ≤ 1) :
    Int.fdiv (bits .or .u64 (bits .and .u64 a b) (bits .andNot .u64 (bits .or .u64 a b) ((a + b + c) % 18446744073709551616))) (2 ^ 63) = (a + b + c) / 18446744073709551616 := by
  obtain ⟨x, rfl⟩ := Int.eq_ofNat_of_zero_le ha.1
  obtain ⟨y, rfl⟩ := Int.eq_ofNat_of_zero_le hb.1
  obtain ⟨z, rfl⟩ := Int.eq_ofNat_of_zero_le hc.1
  have hx : x < 18446744073709551616 := by omega
  have hy : y < 18446744073709551616 := by omega
  obtain ⟨s, hs⟩ : ∃ s : Nat, ((x : Int) + y + z) % 18446744073709551616 = (s : Int) := Int.eq_ofNat_of_zero_le (by omega)
  have hsl : s < 18446744073709551616 := by omega
  rw [hs, and64 hx hy, or64 hx hy]
  have ho : x ||| y < 18446744073709551616 := Nat.or_lt_two_pow (n := 64) hx hy
  have hn : x &&& y < 18446744073709551616 := Nat.lt_of_le_of_lt Nat.and_le_left hx
  rw [andNot64 ho hsl]
  rw [or64 hn (Nat.lt_of_le_of_lt Nat.and_le_left ho), fdiv63, Nat.or_div_two_pow, Nat.and_div_two_pow, Nat.and_div_two_pow, Nat.or_div_two_pow]
  rw [show (18446744073709551615 - s) / 2 ^ 63 = 1 - s / 2 ^ 63 by omega]
  have h1 := top_bit hx
  have h2 := top_bit hy
  have h3 := top_bit hsl
  rcases h1 with h1 | h1 <;> rcases h2 with h2 | h2 <;> rcases h3 with h3 | h3 <;> rw [h1, h2, h3] <;> simp <;> omega
theorem borrow {a b c : Int} (ha : 0 ≤ a ∧ a < 18446744073709551616) (hb : 0 ≤ b ∧ b < 18446744073709551616) (hc : 0 ≤ c ∧ c ≤ 1) :
    Int.fdiv (bits .or .u64 (bits .and .u64 (bits .xor .u64 18446744073709551615 a) b) (bits .and .u64 (bits .or .u64 (bits .xor .u64 18446744073709551615 a) b) ((a - b - c) % 18446744073709551616))) (2 ^ 63) = -((a - b - c) / 18446744073709551616) := by
  obtain ⟨x, rfl⟩ := Int.eq_ofNat_of_zero_le ha.1
  obtain ⟨y, rfl⟩ := Int.eq_ofNat_of_zero_le hb.1
  obtain ⟨z, rfl⟩ := Int.eq_ofNat_of_zero_le hc.1
  have hx : x < 18446744073709551616 := by omega
  have hy : y < 18446744073709551616 := by omega
  obtain ⟨s, hs⟩ : ∃ s : Nat, ((x : Int) - y - z) % 18446744073709551616 = (s : Int) := Int.eq_ofNat_of_zero_le (by omega)
  have hsl : s < 18446744073709551616 := by omega
  have hx' : 18446744073709551615 - x < 18446744073709551616 := by omega
  rw [hs, not64 hx, and64 hx' hy, or64 hx' hy]
  have ho : (18446744073709551615 - x) ||| y < 18446744073709551616 := Nat.or_lt_two_pow (n := 64) hx' hy
  have hn : (18446744073709551615 - x) &&& y < 18446744073709551616 := Nat.lt_of_le_of_lt Nat.and_le_left hx'
  rw [and64 ho hsl]
  rw [or64 hn (Nat.lt_of_le_of_lt Nat.and_le_left ho), fdiv63, Nat.or_div_two_pow, Nat.and_div_two_pow, Nat.and_div_two_pow, Nat.or_div_two_pow]
  rw [show (18446744073709551615 - x) / 2 ^ 63 = 1 - x / 2 ^ 63 by omega]
  have h1 := top_bit hx
  have h2 := top_bit hy
  have h3 := top_bit hsl
  rcases h1 with h1 | h1 <;> rcases h2 with h2 | h2 <;> rcases h3 with h3 | h3 <;> rw [h1, h2, h3] <;> simp <;> omega
end Go.Lm
namespace Go.Proofs.Ytgfbcclfajcjnaa.Pure
open Go Go.Ev Go.Lm Go.Pu
def Wd (n : Int) : Prop := 0 ≤ n ∧ n < 18446744073709551616
def W2 (x : Int × Int) : Prop := Wd x.1 ∧ Wd x.2
def N2 (x : Int × Int) : Int := x.1 + 18446744073709551616 * x.2
theorem N2_inj {x y : Int × Int} (hx : W2 x) (hy : W2 y) (h : N2 x = N2 y) : x = y := by
  obtain ⟨⟨a, b⟩, c, d⟩ := hx
  obtain ⟨⟨e, f⟩, g, i⟩ := hy
  unfold N2 at h
  exact Prod.ext (by omega) (by omega)
theorem N2_bd {x : Int × Int} (hx : W2 x) : 0 ≤ N2 x ∧ N2 x < 340282366920938463463374607431768211456 := by
  obtain ⟨⟨a, b⟩, c, d⟩ := hx
  unfold N2
  omega
theorem plus_eq (k : Nat) {a b c : Int} (ha : Wd a) (hb : Wd b) (hc : 0 ≤ c ∧ c ≤ 1) : limb_plus.f k a b c = some ((a + b + c) % 18446744073709551616, (a + b + c) / 18446744073709551616) := by
  unfold limb_plus.f
  have : IntKind.wrap .u64 (IntKind.wrap .u64 (a + b) + c) = (a + b + c) % 18446744073709551616 := by rw [wrap64, wrap64]; omega
  rw [this, carry ha hb hc]
theorem less_eq (k : Nat) {a b c : Int} (ha : Wd a) (hb : Wd b) (hc : 0 ≤ c ∧ c ≤ 1) : limb_less.f k a b c = some ((a - b - c) % 18446744073709551616, -((a - b - c) / 18446744073709551616)) := by
  unfold limb_less.f
  have : IntKind.wrap .u64 (IntKind.wrap .u64 (a - b) - c) = (a - b - c) % 18446744073709551616 := by rw [wrap64, wrap64]; omega
  rw [this, borrow ha hb hc]
theorem Add_eq (k : Nat) {x y : Int × Int} (hx : W2 x) (hy : W2 y) : ∃ z b, limb_Add.f k x y = some (z, b) ∧ W2 z ∧
    (b = true → N2 z = N2 x + N2 y) ∧ (b = false → z = (0, 0)) ∧ (b = true ↔ N2 x + N2 y < 340282366920938463463374607431768211456) := by
  unfold limb_Add.f
  obtain ⟨hx1, hx2⟩ := hx
  obtain ⟨hy1, hy2⟩ := hy
  rw [plus_eq k hx1 hy1 (by omega), Option.bind_some, plus_eq k hx2 hy2 (by obtain ⟨_, _⟩ := hx1; obtain ⟨_, _⟩ := hy1; constructor <;> omega), Option.bind_some]
  obtain ⟨a, b⟩ := x
  obtain ⟨c, d⟩ := y
  obtain ⟨h1, h2⟩ := hx1
  obtain ⟨h3, h4⟩ := hy1
  obtain ⟨h5, h6⟩ := hx2
  obtain ⟨h7, h8⟩ := hy2
  dsimp only at *
  by_cases h : (b + d + (a + c + 0) / 18446744073709551616) / 18446744073709551616 > 0
  · refine ⟨(0, 0), false, (by rw [decide_eq_true h]; rfl), ⟨⟨by decide, by decide⟩, by decide, by decide⟩, fun h => (by cases h), fun _ => rfl, ?_⟩
    unfold N2
    dsimp only
    constructor
    · intro h; cases h
    · intro h'; omega
  · refine ⟨((a + c + 0) % 18446744073709551616, (b + d + (a + c + 0) / 18446744073709551616) % 18446744073709551616), true, (by rw [decide_eq_false h]; rfl), ⟨⟨(by dsimp only; omega), (by dsimp only; omega)⟩, (by dsimp only; omega), (by dsimp only; omega)⟩, fun _ => ?_, fun h => (by cases h), ?_⟩
    · unfold N2
      dsimp only
      omega
    · unfold N2
      dsimp only
      constructor
      · intro _; omega
      · intro _; rfl
theorem Sub_eq (k : Nat) {x y : Int × Int} (hx : W2 x) (hy : W2 y) : ∃ z b, limb_Sub.f k x y = some (z, b) ∧ W2 z ∧
    (b = true → N2 z = N2 x - N2 y) ∧ (b = false → z = (0, 0)) ∧ (b = true ↔ N2 y ≤ N2 x) := by
  unfold limb_Sub.f
  obtain ⟨hx1, hx2⟩ := hx
  obtain ⟨hy1, hy2⟩ := hy
  rw [less_eq k hx1 hy1 (by omega), Option.bind_some, less_eq k hx2 hy2 (by obtain ⟨_, _⟩ := hx1; obtain ⟨_, _⟩ := hy1; constructor <;> omega), Option.bind_some]
  obtain ⟨a, b⟩ := x
  obtain ⟨c, d⟩ := y
  obtain ⟨h1, h2⟩ := hx1
  obtain ⟨h3, h4⟩ := hy1
  obtain ⟨h5, h6⟩ := hx2
  obtain ⟨h7, h8⟩ := hy2
  dsimp only at *
  by_cases h : -((b - d - -((a - c - 0) / 18446744073709551616)) / 18446744073709551616) > 0
  · refine ⟨(0, 0), false, (by rw [decide_eq_true h]; rfl), ⟨⟨by decide, by decide⟩, by decide, by decide⟩, fun h => (by cases h), fun _ => rfl, ?_⟩
    unfold N2
    dsimp only
    constructor
    · intro h; cases h
    · intro h'; omega
  · refine ⟨((a - c - 0) % 18446744073709551616, (b - d - -((a - c - 0) / 18446744073709551616)) % 18446744073709551616), true, (by rw [decide_eq_false h]; rfl), ⟨⟨(by dsimp only; omega), (by dsimp only; omega)⟩, (by dsimp only; omega), (by dsimp only; omega)⟩, fun _ => ?_, fun h => (by cases h), ?_⟩
    · unfold N2
      dsimp only
      omega
    · unfold N2
      dsimp only
      constructor
      · intro _; omega
      · intro _; rfl
theorem Cmp_eq (k : Nat) {x y : Int × Int} (hx : W2 x) (hy : W2 y) : limb_Cmp.f (k + 3) x y = some (if N2 x < N2 y then -1 else if N2 x = N2 y then 0 else 1) := by
  obtain ⟨a, b⟩ := x
  obtain ⟨c, d⟩ := y
  obtain ⟨⟨h1, h2⟩, h5, h6⟩ := hx
  obtain ⟨⟨h3, h4⟩, h7, h8⟩ := hy
  dsimp only at *
  have o1 : limb_Cmp.l2.once (k + 3) (1, [a, b], [c, d]) = cond (b != d) (cond (decide (b < d)) (some (.inr (.inr (-1)))) (some (.inr (.inr 1)))) (some (.inl (0, [a, b], [c, d]))) := by kernel_rfl
  have o2 : limb_Cmp.l2.once (k + 3) (0, [a, b], [c, d]) = cond (a != c) (cond (decide (a < c)) (some (.inr (.inr (-1)))) (some (.inr (.inr 1)))) (some (.inl (-1, [a, b], [c, d]))) := by kernel_rfl
  have o3 : limb_Cmp.l2.once (k + 3) (-1, [a, b], [c, d]) = some (.inr (.inl ())) := by kernel_rfl
  unfold limb_Cmp.f N2
  dsimp only
  by_cases e1 : b = d
  · subst e1
    rw [show (b != b) = false by simp, cond_false] at o1
    rw [iter_step o1]
    by_cases e2 : a = c
    · subst e2
      rw [show (a != a) = false by simp, cond_false] at o2
      rw [iter_step o2, iter_stop o3]
      simp
    · rw [show (a != c) = true by simp [e2], cond_true] at o2
      by_cases e3 : a < c
      · rw [decide_eq_true e3, cond_true] at o2
        rw [iter_stop o2, if_pos (by omega)]; rfl
      · rw [decide_eq_false e3, cond_false] at o2
        rw [iter_stop o2, if_neg (by omega), if_neg (by omega)]; rfl
  · rw [show (b != d) = true by simp [e1], cond_true] at o1
    by_cases e3 : b < d
    · rw [decide_eq_true e3, cond_true] at o1
      rw [iter_stop o1, if_pos (by omega)]; rfl
    · rw [decide_eq_false e3, cond_false] at o1
      rw [iter_stop o1, if_neg (by omega), if_neg (by omega)]; rfl
end Go.Proofs.Ytgfbcclfajcjnaa.Pure
namespace Go.Proofs.Ytgfbcclfajcjnaa.Pure
set_option linter.unusedVariables false
set_option linter.unusedSimpArgs false
open Go Go.Ev Go.Lm Go.Pu
def V : List Int → Int
  | [] => 0
  | x :: l => x + 4294967296 * V l
def H32 (n : Int) : Prop := 0 ≤ n ∧ n < 4294967296
theorem V_set : ∀ (l : List Int) (a : Nat) (v : Int), a < l.length → V (l.set a v) = V l + (v - l.getD a 0) * 4294967296 ^ a
  | [], a, v, h => by simp at h
  | x :: l, 0, v, h => by simp [V]; omega
  | x :: l, a + 1, v, h => by
    have := V_set l a v (by simpa using h)
    simp only [List.set_cons_succ, V, this, List.getD_cons_succ, Int.pow_succ]
    rw [Int.mul_add]
    have e : (v - l.getD a 0) * (4294967296 ^ a * 4294967296) = 4294967296 * ((v - l.getD a 0) * 4294967296 ^ a) := by rw [← Int.mul_assoc, Int.mul_comm]
    rw [e]
    omega
theorem getD_set0 {α : Type} (l : List α) (i j : Nat) (v d : α) : (l.set i v).getD j d = if i = j ∧ j < l.length then v else l.getD j d := by
  simp only [List.getD_eq_getElem?_getD, List.getElem?_set]
  by_cases h : i = j
  · subst h
    by_cases h2 : i < l.length
    · simp [h2]
    · simp [h2]
  · simp [h]
theorem mul_bd {a b : Int} (ha : H32 a) (hb : H32 b) : 0 ≤ a * b ∧ a * b ≤ 18446744065119617025 := by
  obtain ⟨h1, h2⟩ := ha
  obtain ⟨h3, h4⟩ := hb
  refine ⟨Int.mul_nonneg h1 h3, ?_⟩
  have : a * b ≤ 4294967295 * 4294967295 := Int.mul_le_mul (by omega) (by omega) h3 (by omega)
  omega
theorem Mul_in_step (k : Nat) {p c y0 y1 y2 y3 : Int} (s0 s1 s2 s3 s4 : Int) (L L' : List Int) {out : List Int} {i j : Nat} (hi : i < 4) (hj : j < 4) (hlen : out.length = 8) (hp : H32 p) (hc : H32 c) (hq : H32 ([y0, y1, y2, y3].getD j 0)) (ho : H32 (out.getD (i + j) 0)) :
    limb_Mul.l8.once k ((i : Int), p, c, s0, s1, s2, s3, s4, y0, y1, y2, y3, (j : Int), L, out, L') =
      some (.inl ((i : Int), p, (p * [y0, y1, y2, y3].getD j 0 + out.getD (i + j) 0 + c) / 4294967296, s0, s1, s2, s3, s4, y0, y1, y2, y3, ((j + 1 : Nat) : Int), L, out.set (i + j) ((p * [y0, y1, y2, y3].getD j 0 + out.getD (i + j) 0 + c) % 4294967296), L')) := by
  unfold limb_Mul.l8.once
  dsimp only
  have hw : IntKind.wrap .i64 ((i : Int) + (j : Int)) = ((i + j : Nat) : Int) := by rw [wrapi (by omega)]; omega
  have hw2 : IntKind.wrap .i64 ((j : Int) + 1) = ((j + 1 : Nat) : Int) := by rw [wrapi (by omega)]; omega
  rw [hw, hw2, ct (by omega), inb_t (by omega) (by omega), inb_t (by omega) (by omega), cond_true, cond_true, Int.toNat_natCast, Int.toNat_natCast, blt_t (by omega), cond_true, cond_true, cond_true]
  have hm := mul_bd hp hq
  generalize [y0, y1, y2, y3].getD j 0 = q at *
  generalize out.getD (i + j) 0 = o at *
  obtain ⟨p1, p2⟩ := hp
  obtain ⟨q1, q2⟩ := hq
  obtain ⟨o1, o2⟩ := ho
  obtain ⟨c1, c2⟩ := hc
  rw [wrapu (show 0 ≤ p ∧ p < 18446744073709551616 by omega), wrapu (show 0 ≤ q ∧ q < 18446744073709551616 by omega)]
  generalize p * q = m at *
  rw [wrapu (show 0 ≤ m ∧ m < 18446744073709551616 by omega), wrapu (show 0 ≤ m + o ∧ m + o < 18446744073709551616 by omega), wrapu (show 0 ≤ m + o + c ∧ m + o + c < 18446744073709551616 by omega), wrap32, wrapu (show 0 ≤ (m + o + c) % 4294967296 ∧ (m + o + c) % 4294967296 < 18446744073709551616 by omega)]
  have : Int.fdiv (m + o + c) (2 ^ 32) = (m + o + c) / 4294967296 := by
    rw [show (2 : Int) ^ 32 = 4294967296 by decide, Int.fdiv_eq_ediv_of_nonneg _ (by decide)]
  rw [this]
theorem Mul_row (k : Nat) {p y0 y1 y2 y3 : Int} (s0 s1 s2 s3 s4 : Int) (L L' : List Int) {i : Nat} (hi : i < 4) (hp : H32 p) (hy : ∀ j, j < 4 → H32 ([y0, y1, y2, y3].getD j 0)) {out0 : List Int} (hl0 : out0.length = 8) (h0 : ∀ t, t < 8 → H32 (out0.getD t 0)) (hz : ∀ t, i + 4 ≤ t → t < 8 → out0.getD t 0 = 0) (hk : 4 < k) :
    ∃ (c : Int) (out : List Int), iter (limb_Mul.l8.once k) k ((i : Int), p, 0, s0, s1, s2, s3, s4, y0, y1, y2, y3, 0, L, out0, L') = some ((i : Int), c, s0, s1, s2, s3, s4, L, out, L') ∧ H32 c ∧ out.length = 8 ∧ (∀ t, t < 8 → H32 (out.getD t 0)) ∧
      (∀ t, i + 4 ≤ t → t < 8 → out.getD t 0 = 0) ∧ V out + c * 4294967296 ^ (i + 4) = V out0 + p * V [y0, y1, y2, y3] * 4294967296 ^ i := by
  obtain ⟨y, h1, h2⟩ := iter_rule (once := limb_Mul.l8.once k) (fun x => ∃ (j : Nat) (c : Int) (out : List Int), x = ((i : Int), p, c, s0, s1, s2, s3, s4, y0, y1, y2, y3, (j : Int), L, out, L') ∧ j ≤ 4 ∧ H32 c ∧ out.length = 8 ∧ (∀ t, t < 8 → H32 (out.getD t 0)) ∧
      (∀ t, i + 4 ≤ t → t < 8 → out.getD t 0 = 0) ∧ V out + c * 4294967296 ^ (i + j) = V out0 + p * V ([y0, y1, y2, y3].take j) * 4294967296 ^ i)
    (fun x => 4 - x.2.2.2.2.2.2.2.2.2.2.2.2.1.toNat) (fun r => ∃ (c : Int) (out : List Int), r = ((i : Int), c, s0, s1, s2, s3, s4, L, out, L') ∧ H32 c ∧ out.length = 8 ∧ (∀ t, t < 8 → H32 (out.getD t 0)) ∧
      (∀ t, i + 4 ≤ t → t < 8 → out.getD t 0 = 0) ∧ V out + c * 4294967296 ^ (i + 4) = V out0 + p * V [y0, y1, y2, y3] * 4294967296 ^ i) (by
    rintro _ ⟨j, c, out, rfl, hj, hc, hlen, hb, hzz, hV⟩
    by_cases hlt : j < 4
    · left
      have hq := hy j hlt
      have ho := hb (i + j) (by omega)
      have hm := mul_bd hp hq
      refine ⟨_, Mul_in_step k s0 s1 s2 s3 s4 L L' hi hlt hlen hp hc hq ho, ⟨j + 1, _, _, rfl, by omega, ?_, by simp [hlen], fun t ht => ?_, fun t ht ht8 => ?_, ?_⟩, by dsimp only; omega⟩
      · obtain ⟨o1, o2⟩ := ho
        obtain ⟨c1, c2⟩ := hc
        exact ⟨by omega, by omega⟩
      · rw [getD_set0]
        split
        · exact ⟨by omega, by omega⟩
        · exact hb t ht
      · rw [getD_set0, if_neg (by omega)]
        exact hzz t ht ht8
      · rw [V_set _ _ _ (by omega)]
        have et : V ([y0, y1, y2, y3].take (j + 1)) = V ([y0, y1, y2, y3].take j) + [y0, y1, y2, y3].getD j 0 * 4294967296 ^ j := by
          have hj' : j = 0 ∨ j = 1 ∨ j = 2 ∨ j = 3 := by omega
          rcases hj' with rfl | rfl | rfl | rfl <;> simp [V] <;> omega
        rw [et]
        generalize [y0, y1, y2, y3].getD j 0 = q at *
        generalize out.getD (i + j) 0 = o at *
        generalize V ([y0, y1, y2, y3].take j) = Y at *
        have hd : (p * q + o + c) / 4294967296 * 4294967296 + (p * q + o + c) % 4294967296 = p * q + o + c := by omega
        generalize (p * q + o + c) / 4294967296 = d at *
        generalize (p * q + o + c) % 4294967296 = r at *
        have e1 : (4294967296 : Int) ^ (i + (j + 1)) = 4294967296 ^ (i + j) * 4294967296 := by rw [← Nat.add_assoc, Int.pow_succ]
        have e2 : (4294967296 : Int) ^ (i + j) = 4294967296 ^ i * 4294967296 ^ j := by rw [Int.pow_add]
        rw [e1]
        generalize hP : (4294967296 : Int) ^ (i + j) = P at *
        generalize (4294967296 : Int) ^ i = A at *
        generalize (4294967296 : Int) ^ j = B at *
        subst e2
        have hr : r = p * q + o + c - d * 4294967296 := by omega
        subst hr
        grind
    · right
      have : j = 4 := by omega
      subst this
      refine ⟨((i : Int), c, s0, s1, s2, s3, s4, L, out, L'), ?_, c, out, rfl, hc, hlen, hb, hzz, hV⟩
      unfold limb_Mul.l8.once
      dsimp only
      rw [cf (by omega)]) k ((i : Int), p, 0, s0, s1, s2, s3, s4, y0, y1, y2, y3, 0, L, out0, L') ⟨0, 0, out0, rfl, by omega, ⟨by decide, by decide⟩, hl0, h0, hz, by simp [V]⟩ (by dsimp only; omega)
  obtain ⟨c, out, rfl, h3⟩ := h2
  exact ⟨c, out, h1, h3⟩
def W4 (x : Int × Int × Int × Int) : Prop := Wd x.1 ∧ Wd x.2.1 ∧ Wd x.2.2.1 ∧ Wd x.2.2.2
def N4 (x : Int × Int × Int × Int) : Int := x.1 + 18446744073709551616 * (x.2.1 + 18446744073709551616 * (x.2.2.1 + 18446744073709551616 * x.2.2.2))
theorem or_shift {a b : Int} (ha : H32 a) (hb : H32 b) : bits .or .u64 a (IntKind.wrap .u64 (b * 2 ^ 32)) = a + 4294967296 * b := by
  obtain ⟨x, rfl⟩ := Int.eq_ofNat_of_zero_le ha.1
  obtain ⟨y, rfl⟩ := Int.eq_ofNat_of_zero_le hb.1
  have hx := ha.2
  have hy := hb.2
  rw [show (2 : Int) ^ 32 = 4294967296 by decide, wrapu (by omega), show ((y : Int) * 4294967296) = ((y * 4294967296 : Nat) : Int) by omega, or64 (by omega) (by omega)]
  have := Nat.two_pow_add_eq_or_of_lt (i := 32) (b := x) (by omega) y
  rw [Nat.or_comm, Nat.mul_comm y, ← this]
  omega
theorem list8 {l : List Int} (h : l.length = 8) : ∃ a b c d e f g i, l = [a, b, c, d, e, f, g, i] := by
  match l, h with
  | [a, b, c, d, e, f, g, i], _ => exact ⟨a, b, c, d, e, f, g, i, rfl⟩
theorem Mul_join (k : Nat) (L : List Int) {o0 o1 o2 o3 o4 o5 o6 o7 : Int} (h : ∀ t, t < 8 → H32 ([o0, o1, o2, o3, o4, o5, o6, o7].getD t 0)) (hk : 4 < k) :
    iter (limb_Mul.l18.once k) k (0, L, [o0, o1, o2, o3, o4, o5, o6, o7], [0, 0, 0, 0]) = some (L, [o0 + 4294967296 * o1, o2 + 4294967296 * o3, o4 + 4294967296 * o5, o6 + 4294967296 * o7]) := by
  obtain ⟨k', rfl⟩ : ∃ q, k = q + 5 := ⟨k - 5, by omega⟩
  have h0 : H32 o0 := h 0 (by decide)
  have h1 : H32 o1 := h 1 (by decide)
  have h2 : H32 o2 := h 2 (by decide)
  have h3 : H32 o3 := h 3 (by decide)
  have h4 : H32 o4 := h 4 (by decide)
  have h5 : H32 o5 := h 5 (by decide)
  have h6 : H32 o6 := h 6 (by decide)
  have h7 : H32 o7 := h 7 (by decide)
  have s0 : limb_Mul.l18.once (k' + 5) (0, L, [o0, o1, o2, o3, o4, o5, o6, o7], [0, 0, 0, 0]) = some (.inl (1, L, [o0, o1, o2, o3, o4, o5, o6, o7], [bits .or .u64 o0 (IntKind.wrap .u64 (o1 * 2 ^ 32)), 0, 0, 0])) := by kernel_rfl
  have s1 : ∀ r0 : Int, limb_Mul.l18.once (k' + 5) (1, L, [o0, o1, o2, o3, o4, o5, o6, o7], [r0, 0, 0, 0]) = some (.inl (2, L, [o0, o1, o2, o3, o4, o5, o6, o7], [r0, bits .or .u64 o2 (IntKind.wrap .u64 (o3 * 2 ^ 32)), 0, 0])) := by intro r0; kernel_rfl
  have s2 : ∀ r0 r1 : Int, limb_Mul.l18.once (k' + 5) (2, L, [o0, o1, o2, o3, o4, o5, o6, o7], [r0, r1, 0, 0]) = some (.inl (3, L, [o0, o1, o2, o3, o4, o5, o6, o7], [r0, r1, bits .or .u64 o4 (IntKind.wrap .u64 (o5 * 2 ^ 32)), 0])) := by intro r0 r1; kernel_rfl
  have s3 : ∀ r0 r1 r2 : Int, limb_Mul.l18.once (k' + 5) (3, L, [o0, o1, o2, o3, o4, o5, o6, o7], [r0, r1, r2, 0]) = some (.inl (4, L, [o0, o1, o2, o3, o4, o5, o6, o7], [r0, r1, r2, bits .or .u64 o6 (IntKind.wrap .u64 (o7 * 2 ^ 32))])) := by intro r0 r1 r2; kernel_rfl
  have s4 : ∀ r0 r1 r2 r3 : Int, limb_Mul.l18.once (k' + 5) (4, L, [o0, o1, o2, o3, o4, o5, o6, o7], [r0, r1, r2, r3]) = some (.inr (L, [r0, r1, r2, r3])) := by intro r0 r1 r2 r3; kernel_rfl
  rw [iter_step s0, or_shift h0 h1, iter_step (s1 _), or_shift h2 h3, iter_step (s2 _ _), or_shift h4 h5, iter_step (s3 _ _ _), or_shift h6 h7, iter_stop (s4 _ _ _ _)]
theorem halves_eq (k : Nat) {x : Int × Int} (h : W2 x) : ∃ p0 p1 p2 p3, limb_halves.f k x = some (p0, p1, p2, p3) ∧ H32 p0 ∧ H32 p1 ∧ H32 p2 ∧ H32 p3 ∧ V [p0, p1, p2, p3] = N2 x := by
  obtain ⟨a, b⟩ := x
  obtain ⟨⟨h1, h2⟩, h3, h4⟩ := h
  dsimp only at h1 h2 h3 h4
  unfold limb_halves.f
  dsimp only
  have f : ∀ {z : Int}, 0 ≤ z → Int.fdiv z (2 ^ 32) = z / 4294967296 := fun hz => by
    rw [show (2 : Int) ^ 32 = 4294967296 by decide, Int.fdiv_eq_ediv_of_nonneg _ (by decide)]
  rw [f h1, f h3, wrap32, wrap32, wrap32, wrap32]
  refine ⟨_, _, _, _, rfl, ⟨by omega, by omega⟩, ⟨by omega, by omega⟩, ⟨by omega, by omega⟩, ⟨by omega, by omega⟩, ?_⟩
  simp only [V, N2]
  omega
theorem Mul_eq {k : Nat} (hk : 8 < k) {x y : Int × Int} (hx : W2 x) (hy : W2 y) : ∃ z, limb_Mul.f k x y = some z ∧ W4 z ∧ N4 z = N2 x * N2 y := by
  unfold limb_Mul.f
  obtain ⟨p0, p1, p2, p3, e1, a0, a1, a2, a3, ev⟩ := halves_eq k hx
  obtain ⟨q0, q1, q2, q3, e2, b0, b1, b2, b3, ew⟩ := halves_eq k hy
  rw [Prod.eta, Prod.eta, e1, Option.bind_some, e2, Option.bind_some]
  have hq : ∀ j, j < 4 → H32 ([q0, q1, q2, q3].getD j 0) := fun j hj => by
    have : j = 0 ∨ j = 1 ∨ j = 2 ∨ j = 3 := by omega
    rcases this with rfl | rfl | rfl | rfl <;> assumption
  have hp : ∀ j, j < 4 → H32 ([p0, p1, p2, p3].getD j 0) := fun j hj => by
    have : j = 0 ∨ j = 1 ∨ j = 2 ∨ j = 3 := by omega
    rcases this with rfl | rfl | rfl | rfl <;> assumption
  obtain ⟨r, h1, h2⟩ := iter_rule (once := limb_Mul.l4.once k) (fun s => ∃ (i : Nat) (out : List Int), s = (p0, p1, p2, p3, (i : Int), [0, 0, 0, 0], out, [q0, q1, q2, q3]) ∧ i ≤ 4 ∧ out.length = 8 ∧ (∀ t, t < 8 → H32 (out.getD t 0)) ∧
      (∀ t, i + 4 ≤ t → t < 8 → out.getD t 0 = 0) ∧ V out = V ([p0, p1, p2, p3].take i) * V [q0, q1, q2, q3])
    (fun s => 4 - s.2.2.2.2.1.toNat) (fun r => ∃ out : List Int, r = ([0, 0, 0, 0], out) ∧ out.length = 8 ∧ (∀ t, t < 8 → H32 (out.getD t 0)) ∧ V out = V [p0, p1, p2, p3] * V [q0, q1, q2, q3]) (by
    rintro _ ⟨i, out, rfl, hi, hlen, hb, hz, hV⟩
    by_cases hlt : i < 4
    · left
      obtain ⟨c, out', g1, hc, g2, g3, g4, g5⟩ := Mul_row k p0 p1 p2 p3 (i : Int) [0, 0, 0, 0] [q0, q1, q2, q3] hlt (hp i hlt) hq hlen hb hz (by omega)
      refine ⟨(p0, p1, p2, p3, ((i + 1 : Nat) : Int), [0, 0, 0, 0], out'.set (i + 4) c, [q0, q1, q2, q3]), ?_, ⟨i + 1, _, rfl, by omega, by simp [g2], fun t ht => ?_, fun t ht ht8 => ?_, ?_⟩, by dsimp only; omega⟩
      · unfold limb_Mul.l4.once
        dsimp only
        rw [ct (by omega), inb_t (by omega) (by omega), cond_true, Int.toNat_natCast]
        have e : ([q0, q1, q2, q3].getD 0 0, [q0, q1, q2, q3].getD 1 0, [q0, q1, q2, q3].getD 2 0, [q0, q1, q2, q3].getD 3 0) = (q0, q1, q2, q3) := rfl
        have g1' : iter (limb_Mul.l8.once k) k ((i : Int), [p0, p1, p2, p3].getD i 0, 0, p0, p1, p2, p3, (i : Int), [q0, q1, q2, q3].getD 0 0, [q0, q1, q2, q3].getD 1 0, [q0, q1, q2, q3].getD 2 0, [q0, q1, q2, q3].getD 3 0, 0, [0, 0, 0, 0], out, [q0, q1, q2, q3]) = _ := g1
        rw [g1', Option.bind_some]
        dsimp only
        have hw : IntKind.wrap .i64 ((i : Int) + 4) = ((i + 4 : Nat) : Int) := by rw [wrapi (by omega)]; omega
        have hw2 : IntKind.wrap .i64 ((i : Int) + 1) = ((i + 1 : Nat) : Int) := by rw [wrapi (by omega)]; omega
        rw [hw, hw2, inb_t (by omega) (by omega), cond_true, Int.toNat_natCast, blt_t (by omega), cond_true]
      · rw [getD_set0]
        split
        · exact hc
        · exact g3 t ht
      · rw [getD_set0, if_neg (by omega)]
        exact g4 t (by omega) ht8
      · rw [V_set _ _ _ (by omega), g4 (i + 4) (by omega) (by omega), Int.sub_zero, g5, hV]
        have et : V ([p0, p1, p2, p3].take (i + 1)) = V ([p0, p1, p2, p3].take i) + [p0, p1, p2, p3].getD i 0 * 4294967296 ^ i := by
          have hj' : i = 0 ∨ i = 1 ∨ i = 2 ∨ i = 3 := by omega
          rcases hj' with rfl | rfl | rfl | rfl <;> simp [V] <;> omega
        rw [et]
        generalize [p0, p1, p2, p3].getD i 0 = p
        generalize V ([p0, p1, p2, p3].take i) = X
        generalize V [q0, q1, q2, q3] = Y
        generalize (4294967296 : Int) ^ i = A
        grind
    · right
      have : i = 4 := by omega
      subst this
      refine ⟨([0, 0, 0, 0], out), ?_, out, rfl, hlen, hb, hV⟩
      unfold limb_Mul.l4.once
      dsimp only
      rw [cf (by omega)]) k (p0, p1, p2, p3, 0, [0, 0, 0, 0], [0, 0, 0, 0, 0, 0, 0, 0], [q0, q1, q2, q3]) ⟨0, _, rfl, by omega, rfl, fun t ht => by
        have : ∀ t : Fin 8, H32 (([0, 0, 0, 0, 0, 0, 0, 0] : List Int).getD t.val 0) := by unfold H32; decide
        exact this ⟨t, ht⟩, fun t _ ht => by
        have : ∀ t : Fin 8, ([0, 0, 0, 0, 0, 0, 0, 0] : List Int).getD t.val 0 = 0 := by decide
        exact this ⟨t, ht⟩, by simp [V]⟩ (by dsimp only; omega)
  obtain ⟨out, rfl, g1, g2, g3⟩ := h2
  have h1' : iter (limb_Mul.l4.once k) k ([p0, p1, p2, p3].getD 0 0, [p0, p1, p2, p3].getD 1 0, [p0, p1, p2, p3].getD 2 0, [p0, p1, p2, p3].getD 3 0, 0, [0, 0, 0, 0], [0, 0, 0, 0, 0, 0, 0, 0], [q0, q1, q2, q3]) = _ := h1
  dsimp only
  rw [h1', Option.bind_some]
  obtain ⟨o0, o1, o2, o3, o4, o5, o6, o7, rfl⟩ := list8 g1
  dsimp only
  rw [Mul_join k _ g2 (by omega), Option.bind_some]
  have w : ∀ {a b : Int}, H32 a → H32 b → Wd (a + 4294967296 * b) := fun ⟨_, _⟩ ⟨_, _⟩ => ⟨by omega, by omega⟩
  refine ⟨_, rfl, ⟨w (g2 0 (by decide)) (g2 1 (by decide)), w (g2 2 (by decide)) (g2 3 (by decide)), w (g2 4 (by decide)) (g2 5 (by decide)), w (g2 6 (by decide)) (g2 7 (by decide))⟩, ?_⟩
  rw [← ev, ← ew, ← g3]
  simp only [V, N4, List.getD_cons_zero, List.getD_cons_succ]
  omega
end Go.Proofs.Ytgfbcclfajcjnaa.Pure
namespace Go.Proofs.Ytgfbcclfajcjnaa.Pure
set_option linter.unusedVariables false
set_option linter.unusedSimpArgs false
open Go Go.Ev Go.Lm Go.Pu
theorem Pick_eq (k : Nat) (n : Int) {m : Int} (h0 : 0 < m) (h1 : m ≤ 4611686018427387904) : pyxhand_Pick.f k n m = some (pick n m) := by
  unfold pyxhand_Pick.f pick
  rw [show (m == 0) = false by simp; omega, cond_false]
  have h2 : -m < Int.tmod n m := Int.lt_tmod_of_pos n h0
  by_cases h : Int.tmod n m < 0
  · rw [ct h, if_pos h, wrapi (by omega)]
  · rw [cf h, if_neg h]
theorem Wd0 : Wd 0 := ⟨by decide, by decide⟩
theorem W2_of {n : Int} (h : Wd n) : W2 (n, 0) := ⟨h, Wd0⟩
theorem W20 : W2 (0, 0) := ⟨Wd0, Wd0⟩
theorem N2_of (n : Int) : N2 (n, 0) = n := by unfold N2; dsimp only; omega
theorem Of_eq (k : Nat) (n : Int) : limb_Of.f k n = some (n, 0) := rfl
theorem N4_bd {x : Int × Int × Int × Int} (h : W4 x) : 0 ≤ N4 x ∧ N4 x < 115792089237316195423570985008687907853269984665640564039457584007913129639936 := by
  obtain ⟨a, b, c, d⟩ := x
  obtain ⟨⟨_, _⟩, ⟨_, _⟩, ⟨_, _⟩, _, _⟩ := h
  unfold N4
  dsimp only at *
  omega
theorem Short_eq (k : Nat) {x : Int × Int × Int × Int} (h : W4 x) : ∃ z b, limb_Short.f k x = some (z, b) ∧ W2 z ∧ (b = true ↔ N4 x < 340282366920938463463374607431768211456) ∧ (b = true → N2 z = N4 x) ∧ (b = false → z = (0, 0)) := by
  obtain ⟨a, b, c, d⟩ := x
  obtain ⟨⟨h1, h2⟩, ⟨h3, h4⟩, ⟨h5, h6⟩, h7, h8⟩ := h
  dsimp only at *
  unfold limb_Short.f N4
  dsimp only
  by_cases hc : c = 0
  · subst hc
    rw [bne_self_eq_false, cond_false, Option.bind_some]
    dsimp only
    by_cases hd : d = 0
    · subst hd
      rw [bne_self_eq_false, cond_false]
      exact ⟨_, _, rfl, ⟨⟨h1, h2⟩, h3, h4⟩, ⟨fun _ => (by omega), fun _ => rfl⟩, fun _ => (by unfold N2; dsimp only; omega), fun h => (by cases h)⟩
    · rw [show (d != 0) = true by simp [hd], cond_true]
      exact ⟨_, _, rfl, W20, ⟨fun h => (by cases h), fun h => (by omega)⟩, fun h => (by cases h), fun _ => rfl⟩
  · rw [show (c != 0) = true by simp [hc], cond_true, Option.bind_some]
    exact ⟨_, _, rfl, W20, ⟨fun h => (by cases h), fun h => (by omega)⟩, fun h => (by cases h), fun _ => rfl⟩
theorem ten_lt {i : Nat} (h : i ≤ 38) : (10 : Int) ^ i < 340282366920938463463374607431768211456 := by
  have : ∀ i : Fin 39, (10 : Int) ^ i.val < 340282366920938463463374607431768211456 := by decide +kernel
  exact this ⟨i, by omega⟩
theorem Ten_eq {k : Nat} (hk : 60 < k) {i : Nat} (hi : i ≤ 38) : ∃ x, limb_Ten.f k (i : Int) = some (x, true) ∧ W2 x ∧ N2 x = 10 ^ i := by
  unfold limb_Ten.f
  rw [cf (by omega), decide_eq_false (by omega), Option.bind_some]
  dsimp only
  rw [cond_false, Of_eq, Option.bind_some]
  obtain ⟨y, h1, h2⟩ := iter_rule (once := limb_Ten.l5.once k) (fun s => ∃ (j : Nat) (x : Int × Int), s = ((i : Int), (j : Int), 0, 0, x.1, x.2) ∧ j ≤ i ∧ W2 x ∧ N2 x = 10 ^ j) (fun s => i - s.2.1.toNat)
    (fun r => ∃ x : Int × Int, r = (0, 0, x.1, x.2) ∧ W2 x ∧ N2 x = 10 ^ i) (by
    rintro _ ⟨j, x, rfl, hj, hx, hN⟩
    unfold limb_Ten.l5.once
    dsimp only
    by_cases hlt : j < i
    · left
      rw [ct (by omega), Of_eq, Option.bind_some]
      obtain ⟨z, g1, g2, g3⟩ := Mul_eq (k := k) (by omega) hx (W2_of (n := 10) ⟨by decide, by decide⟩)
      rw [N2_of, hN] at g3
      have e1 : limb_Mul.f k (x.1, x.2) (10, 0) = some z := g1
      rw [e1, Option.bind_some]
      obtain ⟨u, b, g4, g5, g6, g7, g8⟩ := Short_eq k g2
      have e2 : limb_Short.f k (z.1, z.2.1, z.2.2.1, z.2.2.2) = some (u, b) := g4
      rw [e2, Option.bind_some]
      have hb : b = true := g6.2 (by rw [g3, ← Int.pow_succ]; exact ten_lt (by omega))
      subst hb
      refine ⟨_, rfl, ⟨j + 1, u, ?_, by omega, g5, by rw [g7 rfl, g3, Int.pow_succ]⟩, ?_⟩
      · simp only [wrapi (show -9223372036854775808 ≤ (j : Int) + 1 ∧ (j : Int) + 1 < 9223372036854775808 by omega)]
        rfl
      · simp only [wrapi (show -9223372036854775808 ≤ (j : Int) + 1 ∧ (j : Int) + 1 < 9223372036854775808 by omega)]
        omega
    · right
      rw [cf (by omega)]
      have : j = i := by omega
      subst this
      exact ⟨_, rfl, x, rfl, hx, hN⟩) k ((i : Int), 0, 0, 0, 1, 0) ⟨0, (1, 0), rfl, by omega, W2_of ⟨by decide, by decide⟩, by rw [N2_of]; rfl⟩ (by dsimp only; omega)
  obtain ⟨x, rfl, h3, h4⟩ := h2
  rw [h1, Option.bind_some]
  exact ⟨x, rfl, h3, h4⟩
end Go.Proofs.Ytgfbcclfajcjnaa.Pure
namespace Go.Dg
set_option linter.unusedVariables false
set_option linter.unusedSimpArgs false
open Go Go.Ev Go.Pu
def V10 : List Int → Int
  | [] => 0
  | d :: t => d + 10 * V10 t
def D10 (l : List Int) : Prop := ∀ z ∈ l, 0 ≤ z ∧ z < 10
def dig (n : Nat) : List Int := if h : n = 0 then [] else ((n % 10 : Nat) : Int) :: dig (n / 10)
termination_by n
decreasing_by omega
theorem dig_0 : dig 0 = [] := by rw [dig]; rfl
theorem dig_pos {n : Nat} (h : n ≠ 0) : dig n = ((n % 10 : Nat) : Int) :: dig (n / 10) := by rw [dig, dif_neg h]
theorem D10_nil : D10 [] := fun z h => by cases h
theorem D10_cons {d : Int} {l : List Int} (h0 : 0 ≤ d) (h1 : d < 10) (h : D10 l) : D10 (d :: l) := by
  intro z hz
  rcases List.mem_cons.1 hz with rfl | hz
  · exact ⟨h0, h1⟩
  · exact h z hz
theorem D10_tail {d : Int} {l : List Int} (h : D10 (d :: l)) : D10 l := fun z hz => h z (List.mem_cons_of_mem _ hz)
theorem D10_head {d : Int} {l : List Int} (h : D10 (d :: l)) : 0 ≤ d ∧ d < 10 := h d List.mem_cons_self
theorem D10_append {a b : List Int} (h : D10 a) (h' : D10 b) : D10 (a ++ b) := by
  intro z hz
  rcases List.mem_append.1 hz with hz | hz
  · exact h z hz
  · exact h' z hz
theorem D10_left {a b : List Int} (h : D10 (a ++ b)) : D10 a := fun z hz => h z (List.mem_append_left _ hz)
theorem D10_getD {l : List Int} (h : D10 l) (i : Nat) : 0 ≤ l.getD i 0 ∧ l.getD i 0 < 10 := by
  rw [List.getD_eq_getElem?_getD]
  by_cases hi : i < l.length
  · rw [List.getElem?_eq_getElem hi, Option.getD_some]; exact h _ (List.getElem_mem hi)
  · rw [List.getElem?_eq_none (by omega)]; exact ⟨by decide, by decide⟩
theorem D10_set {l : List Int} (h : D10 l) (i : Nat) {d : Int} (h0 : 0 ≤ d) (h1 : d < 10) : D10 (l.set i d) := by
  intro z hz
  rcases List.mem_or_eq_of_mem_set hz with hz | rfl
  · exact h z hz
  · exact ⟨h0, h1⟩
theorem D10_replicate (n : Nat) : D10 (List.replicate n 0) := by
  intro z hz
  rw [(List.mem_replicate.1 hz).2]; exact ⟨by decide, by decide⟩
theorem D10_dig (n : Nat) : D10 (dig n) := by
  induction n using Nat.strongRecOn with
  | ind n ih =>
    by_cases h : n = 0
    · subst h; rw [dig_0]; exact D10_nil
    · rw [dig_pos h]; exact D10_cons (by omega) (by omega) (ih _ (by omega))
theorem V10_dig (n : Nat) : V10 (dig n) = n := by
  induction n using Nat.strongRecOn with
  | ind n ih =>
    by_cases h : n = 0
    · subst h; rw [dig_0]; rfl
    · rw [dig_pos h, V10, ih _ (by omega)]; omega
theorem V10_nonneg {l : List Int} (h : D10 l) : 0 ≤ V10 l := by
  induction l with
  | nil => exact Int.le_refl _
  | cons d t ih =>
    have := ih (D10_tail h)
    have := D10_head h
    rw [V10]; omega
theorem V10_append (a b : List Int) : V10 (a ++ b) = V10 a + 10 ^ a.length * V10 b := by
  induction a with
  | nil => simp [V10]
  | cons d t ih => rw [List.cons_append, V10, ih, V10, List.length_cons]; grind
theorem V10_lt {l : List Int} (h : D10 l) : V10 l < 10 ^ l.length := by
  induction l with
  | nil => simp [V10]
  | cons d t ih =>
    have h1 := ih (D10_tail h)
    have h2 := D10_head h
    rw [V10, List.length_cons, Int.pow_succ]; omega
theorem V10_replicate (n : Nat) : V10 (List.replicate n 0) = 0 := by
  induction n with
  | zero => rfl
  | succ n ih => rw [List.replicate_succ, V10, ih]; rfl
theorem V10_set {l : List Int} {i : Nat} (h : i < l.length) (v : Int) : V10 (l.set i v) = V10 l + (v - l.getD i 0) * 10 ^ i := by
  induction l generalizing i with
  | nil => simp at h
  | cons d t ih =>
    cases i with
    | zero => rw [List.set_cons_zero, V10, V10, List.getD_cons_zero]; simp; omega
    | succ i =>
      rw [List.set_cons_succ, V10, V10, ih (by simp at h; omega), List.getD_cons_succ]; grind
theorem V10_drop (l : List Int) (i : Nat) : V10 (l.drop i) = l.getD i 0 + 10 * V10 (l.drop (i + 1)) := by
  by_cases h : i < l.length
  · rw [List.drop_eq_getElem_cons h, V10, List.getD_eq_getElem?_getD, List.getElem?_eq_getElem h]; rfl
  · rw [List.drop_eq_nil_of_le (by omega), List.drop_eq_nil_of_le (by omega), List.getD_eq_getElem?_getD, List.getElem?_eq_none (by omega)]; rfl
theorem V10_drop_all {l : List Int} {i : Nat} (h : l.length ≤ i) : V10 (l.drop i) = 0 := by rw [List.drop_eq_nil_of_le h]; rfl
theorem D10_drop {l : List Int} (h : D10 l) (i : Nat) : D10 (l.drop i) := fun z hz => h z (List.mem_of_mem_drop hz)
theorem D10_take {l : List Int} (h : D10 l) (i : Nat) : D10 (l.take i) := fun z hz => h z (List.mem_of_mem_take hz)
theorem V10_split (l : List Int) {i : Nat} (h : i ≤ l.length) : V10 l = V10 (l.take i) + 10 ^ i * V10 (l.drop i) := by
  have := V10_append (l.take i) (l.drop i)
  rw [List.take_append_drop, List.length_take, Nat.min_eq_left h] at this
  exact this
theorem V10_take_lt {l : List Int} (h : D10 l) {i : Nat} (hi : i ≤ l.length) : V10 (l.take i) < 10 ^ i := by
  have := V10_lt (D10_take h i)
  rw [List.length_take, Nat.min_eq_left hi] at this
  exact this
theorem dig_len {n m : Nat} (h : n < 10 ^ m) : (dig n).length ≤ m := by
  induction m generalizing n with
  | zero => rw [show n = 0 by simp at h; exact h, dig_0]; exact Nat.le_refl _
  | succ m ih =>
    by_cases h0 : n = 0
    · rw [h0, dig_0]; exact Nat.zero_le _
    · rw [dig_pos h0, List.length_cons]
      have := ih (n := n / 10) (by rw [Nat.pow_succ] at h; omega)
      omega
theorem dig_lt (n : Nat) : n < 10 ^ (dig n).length := by
  have h := V10_lt (D10_dig n)
  rw [V10_dig, show (10 : Int) ^ (dig n).length = ((10 ^ (dig n).length : Nat) : Int) by simp] at h
  omega
theorem dig_ge {n : Nat} (h : n ≠ 0) : 10 ^ ((dig n).length - 1) ≤ n := by
  induction n using Nat.strongRecOn with
  | ind n ih =>
    rw [dig_pos h, List.length_cons, Nat.add_sub_cancel]
    by_cases h1 : n / 10 = 0
    · rw [h1, dig_0]; simp; omega
    · have h2 := ih (n / 10) (by omega) h1
      have h3 : (dig (n / 10)).length = (dig (n / 10)).length - 1 + 1 := by rw [dig_pos h1, List.length_cons]; omega
      rw [h3, Nat.pow_succ]; omega
theorem dig_of {l : List Int} (h : D10 l) (hl : l.getLast? ≠ some 0) : l = dig (V10 l).toNat := by
  induction l with
  | nil => rw [V10]; exact dig_0.symm
  | cons d t ih =>
    have h0 := D10_head h
    have h1 := V10_nonneg (D10_tail h)
    have ht : t = dig (V10 t).toNat := by
      refine ih (D10_tail h) ?_
      intro hc
      cases t with
      | nil => cases hc
      | cons e u => exact hl (by rw [List.getLast?_cons_cons]; exact hc)
    have hne : (V10 (d :: t)).toNat ≠ 0 := by
      intro hz
      rw [V10] at hz
      have h2 : V10 t = 0 := by omega
      have h3 : d = 0 := by omega
      rw [h2] at ht
      rw [ht, h3] at hl
      exact hl (by rw [show (0 : Int).toNat = 0 from rfl, dig_0]; rfl)
    rw [dig_pos hne, V10]
    have e1 : (((d + 10 * V10 t).toNat % 10 : Nat) : Int) = d := by omega
    have e2 : (d + 10 * V10 t).toNat / 10 = (V10 t).toNat := by omega
    rw [e1, e2, ← ht]
theorem dig_len_lt {a b : Nat} (h : (dig a).length < (dig b).length) : a < b := by
  have hb : b ≠ 0 := by rintro rfl; rw [dig_0] at h; simp at h
  have h1 := dig_lt a
  have h2 := dig_ge hb
  have h3 := Nat.pow_le_pow_right (show 0 < 10 by decide) (show (dig a).length ≤ (dig b).length - 1 by omega)
  omega
theorem inS_t {a b : Int} {n : Nat} (h0 : 0 ≤ a) (h1 : a ≤ b) (h2 : b ≤ n) : inS a b n = true := by unfold inS; simp [h0, h1, h2]
theorem okLen_t {n b : Nat} (h : n * b ≤ 140737488355328) : okLen n b = true := by unfold okLen; simp [h]
end Go.Dg
namespace Go.Proofs.Ytgfbcclfajcjnaa.Pure
set_option linter.unusedVariables false
set_option linter.unusedSimpArgs false
open Go Go.Ev Go.Lm Go.Pu Go.Dg
theorem dig_1 : dig 1 = [1] := by rw [dig_pos (by decide), show 1 / 10 = 0 by decide, dig_0]; rfl
theorem Word_iter (k : Nat) : ∀ (m f n : Nat) (acc : List Int), m < f → n < 10 ^ m → n < 18446744073709551616 → acc.length + m ≤ 1000 → iter (pyxref1_Word.l2.once k) f ((n : Int), acc) = some (acc ++ dig n) := by
  have stop : ∀ (f : Nat) (acc : List Int), 0 < f → iter (pyxref1_Word.l2.once k) f (((0 : Nat) : Int), acc) = some (acc ++ dig 0) := by
    intro f acc hf
    obtain ⟨f, rfl⟩ : ∃ g, f = g + 1 := ⟨f - 1, by omega⟩
    rw [dig_0, List.append_nil]
    refine iter_stop ?_
    unfold pyxref1_Word.l2.once
    rfl
  intro m
  induction m with
  | zero =>
    intro f n acc hf hn _ _
    obtain rfl : n = 0 := by simp at hn; exact hn
    exact stop f acc (by omega)
  | succ m ih =>
    intro f n acc hf hn hn' hl
    by_cases h0 : n = 0
    · subst h0; exact stop f acc (by omega)
    · obtain ⟨f, rfl⟩ : ∃ g, f = g + 1 := ⟨f - 1, by omega⟩
      have once : pyxref1_Word.l2.once k ((n : Int), acc) = some (.inl (((n / 10 : Nat) : Int), acc ++ [((n % 10 : Nat) : Int)])) := by
        unfold pyxref1_Word.l2.once
        dsimp only
        rw [ct (by omega), okLen_t (by simp only [List.length_cons, List.length_nil]; omega), cond_true, show Int.tdiv (n : Int) 10 = ((n / 10 : Nat) : Int) from rfl, show Int.tmod (n : Int) 10 = ((n % 10 : Nat) : Int) from rfl, wrapu (by omega), wrapi (by omega)]
      rw [iter_step once, ih f (n / 10) _ (by omega) (by rw [Nat.pow_succ] at hn; omega) (by omega) (by simp only [List.length_append, List.length_cons, List.length_nil]; omega), dig_pos h0, List.append_assoc]
      rfl
theorem Word_eq {k : Nat} (hk : 30 < k) {n : Nat} (h : n < 18446744073709551616) : pyxref1_Word.f k (n : Int) = some (dig n) := by
  unfold pyxref1_Word.f
  rw [Word_iter k 20 k n [] (by omega) (by omega) h (by simp), Option.bind_some, List.nil_append]
theorem digit_eq (k : Nat) (l : List Int) (i : Nat) : pyxref1_digit.f k l (i : Int) = some (l.getD i 0) := by
  unfold pyxref1_digit.f
  by_cases h : i < l.length
  · rw [ct (by omega), inb_t (by omega) (by omega), cond_true]; rfl
  · rw [cf (by omega), List.getD_eq_getElem?_getD, List.getElem?_eq_none (by omega)]; rfl
theorem trim_iter (k : Nat) : ∀ (n : Nat) (l : List Int), D10 l → l.length ≤ 1000 → l.length < n → iter (pyxref1_trim.l1.once k) n l = some (dig (V10 l).toNat) := by
  intro n
  induction n with
  | zero => intro l _ _ h; omega
  | succ n ih =>
    intro l hd hl hn
    rcases List.eq_nil_or_concat l with rfl | ⟨a, d, rfl⟩
    · rw [V10, show (0 : Int).toNat = 0 from rfl, dig_0]
      exact iter_stop (by unfold pyxref1_trim.l1.once; rfl)
    · rw [List.concat_eq_append] at *
      have hlen : (a ++ [d]).length = a.length + 1 := by simp
      have hg : (a ++ [d]).getD a.length 0 = d := by simp
      have hw : IntKind.wrap .i64 (((a.length + 1 : Nat) : Int) - 1) = (a.length : Int) := by rw [wrapi (by omega)]; omega
      have once : pyxref1_trim.l1.once k (a ++ [d]) = cond (d == 0) (some (.inl a)) (some (.inr (a ++ [d]))) := by
        unfold pyxref1_trim.l1.once
        dsimp only
        rw [hlen, ct (by omega), hw, inb_t (by omega) (by omega), cond_true, Option.bind_some]
        dsimp only
        rw [hlen, hw, Int.toNat_natCast, hg, inS_t (by omega) (by omega) (by omega), cond_true, List.take_left]
      by_cases h0 : d = 0
      · subst h0
        rw [iter_step once, ih a (D10_left hd) (by omega) (by omega), V10_append]
        simp [V10]
      · rw [show (d == 0) = false by simp [h0], cond_false] at once
        rw [iter_stop once]
        exact congrArg some (dig_of hd (by simp [h0]))
theorem trim_eq {k : Nat} {l : List Int} (hd : D10 l) (hl : l.length ≤ 1000) (hk : l.length < k) : pyxref1_trim.f k l = some (dig (V10 l).toNat) := by
  unfold pyxref1_trim.f
  rw [trim_iter k k l hd hl hk, Option.bind_some]
theorem tdiv10 {s : Int} (h : 0 ≤ s) : Int.tdiv s 10 = s / 10 := Int.tdiv_eq_ediv_of_nonneg h
theorem tmod10 {s : Int} (h : 0 ≤ s) : Int.tmod s 10 = s % 10 := Int.tmod_eq_emod_of_nonneg h
theorem AddNat_raw {k : Nat} (hk : 600 < k) {l1 l2 : List Int} (h1 : D10 l1) (h2 : D10 l2) (hl1 : l1.length ≤ 400) (hl2 : l2.length ≤ 400) : pyxref1_AddNat.f k l1 l2 = some (dig (V10 l1 + V10 l2).toNat) := by
  unfold pyxref1_AddNat.f
  obtain ⟨M, hM1, hM2, hM3, hM4⟩ : ∃ M : Nat, l1.length ≤ M ∧ l2.length ≤ M ∧ M ≤ 400 ∧ (M = l1.length ∨ M = l2.length) := ⟨max l1.length l2.length, by omega, by omega, by omega, by omega⟩
  obtain ⟨y, e1, e2, e3, e4⟩ := iter_rule (once := pyxref1_AddNat.l4.once k) (fun x => ∃ (i : Nat) (c : Int) (out : List Int), x = (l1, l2, out, c, (i : Int)) ∧ out.length = i ∧ D10 out ∧ (c = 0 ∨ c = 1) ∧ (i ≤ M ∨ (i = M + 1 ∧ c = 0)) ∧ V10 out + 10 ^ i * (c + V10 (l1.drop i) + V10 (l2.drop i)) = V10 l1 + V10 l2)
    (fun x => M + 1 - x.2.2.2.2.toNat) (fun y => D10 y ∧ y.length ≤ 401 ∧ V10 y = V10 l1 + V10 l2) (by
    rintro x ⟨i, c, out, rfl, ho, hd, hc, hi, hv⟩
    have b1 := D10_getD h1 i
    have b2 := D10_getD h2 i
    by_cases run : i < l1.length ∨ i < l2.length ∨ c > 0
    · left
      have once : pyxref1_AddNat.l4.once k (l1, l2, out, c, (i : Int)) = some (.inl (l1, l2, out ++ [(l1.getD i 0 + l2.getD i 0 + c) % 10], (l1.getD i 0 + l2.getD i 0 + c) / 10, ((i + 1 : Nat) : Int))) := by
        unfold pyxref1_AddNat.l4.once
        dsimp only
        have tail : ∀ (o : Option (List Int × List Int × List Int × Int × Int × Bool)), o = some (l1, l2, out, c, (i : Int), true) → (o.bind fun y12 => (cond (y12.2.2.2.2.2) ((pyxref1_digit.f k y12.1 y12.2.2.2.2.1).bind fun t13 => ((pyxref1_digit.f k y12.2.1 y12.2.2.2.2.1).bind fun t14 => (cond (okLen (List.length y12.2.2.1 + List.length [Int.tmod (IntKind.wrap .i64 ((IntKind.wrap .i64 (t13 + t14)) + y12.2.2.2.1)) 10]) 8) (some (.inl (y12.1, y12.2.1, y12.2.2.1 ++ [Int.tmod (IntKind.wrap .i64 ((IntKind.wrap .i64 (t13 + t14)) + y12.2.2.2.1)) 10], IntKind.wrap .i64 (Int.tdiv (IntKind.wrap .i64 ((IntKind.wrap .i64 (t13 + t14)) + y12.2.2.2.1)) 10), IntKind.wrap .i64 (y12.2.2.2.2.1 + 1)))) none))) (some (.inr y12.2.2.1)))) = some ((.inl (l1, l2, out ++ [(l1.getD i 0 + l2.getD i 0 + c) % 10], (l1.getD i 0 + l2.getD i 0 + c) / 10, ((i + 1 : Nat) : Int))) : (List Int × List Int × List Int × Int × Int) ⊕ (List Int)) := by
          rintro o rfl
          rw [Option.bind_some]
          dsimp only
          rw [cond_true, digit_eq, Option.bind_some, digit_eq, Option.bind_some]
          generalize l1.getD i 0 = p at *
          generalize l2.getD i 0 = q at *
          rw [okLen_t (by simp only [List.length_cons, List.length_nil]; omega), cond_true, wrapi (n := p + q) (by omega), wrapi (n := p + q + c) (by omega), tdiv10 (by omega), tmod10 (by omega), wrapi (n := (p + q + c) / 10) (by omega), wrapi (n := (i : Int) + 1) (by omega)]
          rfl
        refine tail _ ?_
        by_cases r1 : i < l1.length
        · rw [ct (by omega)]
        · rw [cf (by omega)]
          by_cases r2 : i < l2.length
          · rw [ct (by omega)]
          · rw [cf (by omega), decide_eq_true (by omega)]
      refine ⟨_, once, ⟨i + 1, _, _, rfl, by simp [ho], D10_append hd (D10_cons (by omega) (by omega) D10_nil), by omega, ?_, ?_⟩, ?_⟩
      · by_cases hlt : i < M
        · left; omega
        · right
          have g1 : l1.getD i 0 = 0 := by rw [List.getD_eq_getElem?_getD, List.getElem?_eq_none (by omega)]; rfl
          have g2 : l2.getD i 0 = 0 := by rw [List.getD_eq_getElem?_getD, List.getElem?_eq_none (by omega)]; rfl
          rw [g1, g2]; omega
      · rw [V10_append, ho, ← hv, V10_drop l1 i, V10_drop l2 i]
        generalize l1.getD i 0 = p at *
        generalize l2.getD i 0 = q at *
        have := Int.mul_ediv_add_emod (p + q + c) 10
        simp only [V10]
        grind
      · dsimp only; omega
    · right
      refine ⟨out, ?_, hd, by omega, ?_⟩
      · unfold pyxref1_AddNat.l4.once
        dsimp only
        rw [cf (by omega), cf (by omega), decide_eq_false (by omega)]
        rfl
      · rw [V10_drop_all (by omega), V10_drop_all (by omega)] at hv
        rw [← hv, show c = 0 by omega]; simp) k (l1, l2, [], 0, ((0 : Nat) : Int)) ⟨0, 0, [], rfl, rfl, D10_nil, .inl rfl, .inl (by omega), by simp [V10]⟩ (by dsimp only; omega)
  have e1' : iter (pyxref1_AddNat.l4.once k) k (l1, l2, [], 0, 0) = some y := e1
  rw [e1', Option.bind_some, trim_eq e2 (by omega) (by omega), e4, Option.bind_some]
theorem AddNat_eq {k : Nat} (hk : 600 < k) {a b : Nat} (ha : a < 10 ^ 200) (hb : b < 10 ^ 200) : pyxref1_AddNat.f k (dig a) (dig b) = some (dig (a + b)) := by
  have l1 := dig_len ha
  have l2 := dig_len hb
  rw [AddNat_raw hk (D10_dig a) (D10_dig b) (by omega) (by omega), V10_dig, V10_dig]
  exact congrArg (fun z => some (dig z)) (by omega)
theorem SubNat_eq {k : Nat} (hk : 600 < k) {a b : Nat} (ha : a < 10 ^ 200) (hb : b ≤ a) : pyxref1_SubNat.f k (dig a) (dig b) = some (dig (a - b)) := by
  have hl1 := dig_len ha
  have hl2 := dig_len (Nat.lt_of_le_of_lt hb ha)
  have h1 := D10_dig a
  have h2 := D10_dig b
  have v1 := V10_dig a
  have v2 := V10_dig b
  generalize dig a = l1 at *
  generalize dig b = l2 at *
  unfold pyxref1_SubNat.f
  obtain ⟨y, e1, e2, e3, e4⟩ := iter_rule (once := pyxref1_SubNat.l4.once k) (fun x => ∃ (i : Nat) (c : Int) (out : List Int), x = (l1, l2, out, c, (i : Int)) ∧ out.length = i ∧ D10 out ∧ (c = 0 ∨ c = 1) ∧ i ≤ l1.length ∧ V10 out + 10 ^ i * (V10 (l1.drop i) - V10 (l2.drop i) - c) = V10 l1 - V10 l2)
    (fun x => l1.length - x.2.2.2.2.toNat) (fun y => D10 y ∧ y.length ≤ 200 ∧ V10 y = V10 l1 - V10 l2) (by
    rintro x ⟨i, c, out, rfl, ho, hd, hc, hi, hv⟩
    have b1 := D10_getD h1 i
    have b2 := D10_getD h2 i
    by_cases run : i < l1.length
    · left
      have once : pyxref1_SubNat.l4.once k (l1, l2, out, c, (i : Int)) = some (.inl (l1, l2, out ++ [(l1.getD i 0 - l2.getD i 0 - c) % 10], if l1.getD i 0 - l2.getD i 0 - c < 0 then 1 else 0, ((i + 1 : Nat) : Int))) := by
        unfold pyxref1_SubNat.l4.once
        dsimp only
        rw [ct (by omega), inb_t (by omega) (by omega), cond_true, digit_eq, Option.bind_some, Int.toNat_natCast]
        generalize l1.getD i 0 = p at *
        generalize l2.getD i 0 = q at *
        rw [wrapi (n := p - q) (by omega), wrapi (n := p - q - c) (by omega)]
        by_cases hn : p - q - c < 0
        · rw [ct hn, Option.bind_some]
          dsimp only
          rw [wrapi (n := p - q - c + 10) (by omega), okLen_t (by simp only [List.length_cons, List.length_nil]; omega), cond_true, Option.bind_some]
          dsimp only
          rw [wrapi (n := (i : Int) + 1) (by omega), if_pos hn, show (p - q - c) % 10 = p - q - c + 10 by omega]
          rfl
        · rw [cf hn, Option.bind_some]
          dsimp only
          rw [okLen_t (by simp only [List.length_cons, List.length_nil]; omega), cond_true, Option.bind_some]
          dsimp only
          rw [wrapi (n := (i : Int) + 1) (by omega), if_neg hn, show (p - q - c) % 10 = p - q - c by omega]
          rfl
      refine ⟨_, once, ⟨i + 1, _, _, rfl, by simp [ho], D10_append hd (D10_cons (by omega) (by omega) D10_nil), by split <;> omega, by omega, ?_⟩, ?_⟩
      · rw [V10_append, ho, ← hv, V10_drop l1 i, V10_drop l2 i]
        generalize l1.getD i 0 = p at *
        generalize l2.getD i 0 = q at *
        have hs : (p - q - c) % 10 = p - q - c + 10 * (if p - q - c < 0 then 1 else 0) := by split <;> omega
        simp only [V10]
        generalize (if p - q - c < 0 then (1 : Int) else 0) = c' at *
        rw [hs]
        grind
      · dsimp only; omega
    · right
      refine ⟨out, ?_, hd, by omega, ?_⟩
      · unfold pyxref1_SubNat.l4.once
        dsimp only
        rw [cf (by omega)]
      · rw [V10_drop_all (l := l1) (by omega)] at hv
        have p1 := V10_lt hd
        rw [ho] at p1
        have p2 := V10_nonneg (D10_drop h2 i)
        have p3 : 0 < (10 : Int) ^ i := Int.pow_pos (by decide)
        by_cases hz : V10 (l2.drop i) + c = 0
        · rw [← hv, show 0 - V10 (l2.drop i) - c = 0 by omega]; simp
        · exfalso
          have : (10 : Int) ^ i * 1 ≤ 10 ^ i * (V10 (l2.drop i) + c) := Int.mul_le_mul_of_nonneg_left (by omega) (Int.le_of_lt p3)
          have e : (10 : Int) ^ i * (0 - V10 (l2.drop i) - c) = - (10 ^ i * (V10 (l2.drop i) + c)) := by grind
          rw [e] at hv
          omega) k (l1, l2, [], 0, ((0 : Nat) : Int)) ⟨0, 0, [], rfl, rfl, D10_nil, .inl rfl, by omega, by simp [V10]⟩ (by dsimp only; omega)
  have e1' : iter (pyxref1_SubNat.l4.once k) k (l1, l2, [], 0, 0) = some y := e1
  rw [e1', Option.bind_some, trim_eq e2 (by omega) (by omega), e4, Option.bind_some, v1, v2]
  exact congrArg (fun z => some (dig z)) (by omega)
theorem drop_lt {l1 l2 : List Int} (h1 : D10 l1) (h2 : D10 l2) {t : Nat} (t1 : t ≤ l1.length) (t2 : t ≤ l2.length) (h : V10 (l1.drop t) < V10 (l2.drop t)) : V10 l1 < V10 l2 := by
  rw [V10_split l1 t1, V10_split l2 t2]
  have p1 := V10_take_lt h1 t1
  have p2 := V10_nonneg (D10_take h2 t)
  have p3 : 0 < (10 : Int) ^ t := Int.pow_pos (by decide)
  have : (10 : Int) ^ t * (V10 (l1.drop t) + 1) ≤ 10 ^ t * V10 (l2.drop t) := Int.mul_le_mul_of_nonneg_left (by omega) (Int.le_of_lt p3)
  rw [Int.mul_add] at this
  omega
theorem Cmp_iter (k : Nat) {l1 l2 : List Int} (h1 : D10 l1) (h2 : D10 l2) (hl : l1.length = l2.length) (hL : l1.length ≤ 1000) : ∀ (t m : Nat), t ≤ l1.length → t < m → V10 (l1.drop t) = V10 (l2.drop t) →
    (V10 l1 = V10 l2 ∧ iter (pyxref1_CmpNat.l6.once k) m (l1, l2, (t : Int) - 1) = some (.inl ())) ∨ (V10 l1 < V10 l2 ∧ iter (pyxref1_CmpNat.l6.once k) m (l1, l2, (t : Int) - 1) = some (.inr (-1))) ∨ (V10 l2 < V10 l1 ∧ iter (pyxref1_CmpNat.l6.once k) m (l1, l2, (t : Int) - 1) = some (.inr 1)) := by
  intro t
  induction t with
  | zero =>
    intro m _ hm hv
    obtain ⟨m, rfl⟩ : ∃ n, m = n + 1 := ⟨m - 1, by omega⟩
    left
    exact ⟨hv, iter_stop (by unfold pyxref1_CmpNat.l6.once; rfl)⟩
  | succ t ih =>
    intro m ht hm hv
    obtain ⟨m, rfl⟩ : ∃ n, m = n + 1 := ⟨m - 1, by omega⟩
    have once : pyxref1_CmpNat.l6.once k (l1, l2, ((t + 1 : Nat) : Int) - 1) = cond (decide (l1.getD t 0 < l2.getD t 0)) (some (.inr (.inr (-1)))) (cond (decide (l1.getD t 0 > l2.getD t 0)) (some (.inr (.inr 1))) (some (.inl (l1, l2, (t : Int) - 1)))) := by
      unfold pyxref1_CmpNat.l6.once
      dsimp only
      rw [show ((t + 1 : Nat) : Int) - 1 = (t : Int) by omega, ct (by omega), inb_t (by omega) (by omega), cond_true, inb_t (by omega) (by omega), cond_true, Int.toNat_natCast, wrapi (show -9223372036854775808 ≤ (t : Int) - 1 ∧ (t : Int) - 1 < 9223372036854775808 by omega)]
      rfl
    have d1 := V10_drop l1 t
    have d2 := V10_drop l2 t
    by_cases hlt : l1.getD t 0 < l2.getD t 0
    · rw [ct hlt] at once
      right; left
      exact ⟨drop_lt h1 h2 (t := t) (by omega) (by omega) (by omega), iter_stop once⟩
    · rw [cf hlt] at once
      by_cases hgt : l1.getD t 0 > l2.getD t 0
      · rw [ct hgt] at once
        right; right
        exact ⟨drop_lt h2 h1 (t := t) (by omega) (by omega) (by omega), iter_stop once⟩
      · rw [cf hgt] at once
        rw [iter_step once]
        exact ih m (by omega) (by omega) (by omega)
theorem CmpNat_eq {k : Nat} (hk : 600 < k) {a b : Nat} (ha : a < 10 ^ 200) (hb : b < 10 ^ 200) : pyxref1_CmpNat.f k (dig a) (dig b) = some (if a < b then -1 else if a = b then 0 else 1) := by
  have hl1 := dig_len ha
  have hl2 := dig_len hb
  unfold pyxref1_CmpNat.f
  by_cases hl : (dig a).length = (dig b).length
  · rw [show (((dig a).length : Int) != ((dig b).length : Int)) = false by rw [hl]; simp, cond_false, wrapi (by omega)]
    rcases Cmp_iter k (D10_dig a) (D10_dig b) hl (by omega) (dig a).length k (Nat.le_refl _) (by omega) (by rw [V10_drop_all (Nat.le_refl _), V10_drop_all (by omega)]) with ⟨h, e⟩ | ⟨h, e⟩ | ⟨h, e⟩
    all_goals rw [V10_dig, V10_dig] at h; rw [e, Option.bind_some]; dsimp only
    · rw [if_neg (by omega), if_pos (by omega)]
    · rw [if_pos (by omega)]
    · rw [if_neg (by omega), if_neg (by omega)]
  · rw [show (((dig a).length : Int) != ((dig b).length : Int)) = true by simp only [bne_iff_ne, ne_eq]; omega, cond_true]
    by_cases hlt : (dig a).length < (dig b).length
    · rw [ct (by omega), if_pos (dig_len_lt hlt)]
    · have := dig_len_lt (show (dig b).length < (dig a).length by omega)
      rw [cf (by omega), if_neg (by omega), if_neg (by omega)]
theorem radix_eq {k : Nat} (hk : 600 < k) : pyxref1_radix.f k = some (dig 18446744073709551616) := by
  unfold pyxref1_radix.f
  have h : pyxref1_Word.f k 18446744073709551615 = some (dig 18446744073709551615) := Word_eq (by omega) (n := 18446744073709551615) (by decide)
  rw [h, Option.bind_some, ← dig_1, AddNat_eq hk (by omega) (by omega), Option.bind_some]
end Go.Proofs.Ytgfbcclfajcjnaa.Pure
namespace Go.Proofs.Ytgfbcclfajcjnaa.Pure
set_option linter.unusedVariables false
set_option linter.unusedSimpArgs false
open Go Go.Ev Go.Lm Go.Pu Go.Dg
theorem take_succ10 (l : List Int) {i : Nat} (h : i < l.length) : V10 (l.take (i + 1)) = V10 (l.take i) + 10 ^ i * l.getD i 0 := by
  have e : l.take (i + 1) = l.take i ++ [l.getD i 0] := by rw [List.take_succ_eq_append_getElem h, List.getD_eq_getElem?_getD, List.getElem?_eq_getElem h]; rfl
  rw [e, V10_append, List.length_take, Nat.min_eq_left (by omega)]; simp [V10]
theorem Mul_row10 {k : Nat} (hk : 602 < k) {l1 l2 out0 : List Int} {i : Nat} (h1 : D10 l1) (h2 : D10 l2) (hi : i < l1.length) (h0 : D10 out0) (hL : out0.length = l1.length + l2.length + 1) (hLb : out0.length ≤ 600) (hT : V10 out0 + 10 ^ i * (l1.getD i 0 * V10 l2) < 10 ^ out0.length) :
    ∃ out, iter (pyxref1_MulNat.l7.once k) k (l1, l2, (i : Int), 0, 0, out0) = some (l1, l2, (i : Int), out) ∧ D10 out ∧ out.length = out0.length ∧ V10 out = V10 out0 + 10 ^ i * (l1.getD i 0 * V10 l2) := by
  have hd := D10_getD h1 i
  generalize hdd : l1.getD i 0 = d at *
  generalize hTT : V10 out0 + 10 ^ i * (d * V10 l2) = T at *
  obtain ⟨y, e1, out, rfl, e2, e3, e4⟩ := iter_rule (once := pyxref1_MulNat.l7.once k) (fun x => ∃ (j : Nat) (c : Int) (out : List Int), x = (l1, l2, (i : Int), c, (j : Int), out) ∧ D10 out ∧ out.length = out0.length ∧ 0 ≤ c ∧ c ≤ 9 ∧ i + j ≤ out0.length ∧ V10 out + 10 ^ (i + j) * (c + d * V10 (l2.drop j)) = T)
    (fun x => out0.length - x.2.2.2.2.1.toNat) (fun y => ∃ out, y = (l1, l2, (i : Int), out) ∧ D10 out ∧ out.length = out0.length ∧ V10 out = T) (by
    rintro x ⟨j, c, out, rfl, ho, hlen, hc0, hc9, hij, hv⟩
    have b2 := D10_getD h2 j
    have p1 := V10_nonneg ho
    have p2 := V10_nonneg (D10_drop h2 j)
    have p3 : 0 ≤ d * V10 (l2.drop j) := Int.mul_nonneg hd.1 p2
    by_cases run : j < l2.length ∨ c > 0
    · left
      have hb : i + j < out0.length := by
        rcases run with h | h
        · omega
        · refine Nat.lt_of_not_le fun hle => ?_
          have : i + j = out0.length := by omega
          rw [this] at hv
          have p4 : 0 < (10 : Int) ^ out0.length := Int.pow_pos (by decide)
          have : (10 : Int) ^ out0.length * 1 ≤ 10 ^ out0.length * (c + d * V10 (l2.drop j)) := Int.mul_le_mul_of_nonneg_left (by omega) (Int.le_of_lt p4)
          omega
      have b3 := D10_getD ho (i + j)
      have hdq : 0 ≤ d * l2.getD j 0 ∧ d * l2.getD j 0 ≤ 81 := by
        refine ⟨Int.mul_nonneg hd.1 b2.1, ?_⟩
        have g1 : d * l2.getD j 0 ≤ 9 * l2.getD j 0 := Int.mul_le_mul_of_nonneg_right (by omega) b2.1
        omega
      have once : pyxref1_MulNat.l7.once k (l1, l2, (i : Int), c, (j : Int), out) = some (.inl (l1, l2, (i : Int), (out.getD (i + j) 0 + d * l2.getD j 0 + c) / 10, ((j + 1 : Nat) : Int), out.set (i + j) ((out.getD (i + j) 0 + d * l2.getD j 0 + c) % 10))) := by
        unfold pyxref1_MulNat.l7.once
        dsimp only
        have first : (cond (decide ((j : Int) < (l2.length : Int))) (some (l1, l2, (i : Int), c, (j : Int), true, out)) (some (l1, l2, (i : Int), c, (j : Int), decide (c > 0), out)) : Option (List Int × List Int × Int × Int × Int × Bool × List Int)) = some (l1, l2, (i : Int), c, (j : Int), true, out) := by
          by_cases h : j < l2.length
          · rw [ct (by omega)]
          · rw [cf (by omega), decide_eq_true (by omega)]
        refine (congrArg (Option.bind · _) first).trans ?_
        rw [Option.bind_some]
        dsimp only
        have hw : IntKind.wrap .i64 ((i : Int) + (j : Int)) = ((i + j : Nat) : Int) := by rw [wrapi (by omega)]; omega
        rw [cond_true, hw, inb_t (by omega) (by omega), cond_true, Int.toNat_natCast, blt_t (by omega), cond_true, inb_t (by omega) (by omega), cond_true, digit_eq, Option.bind_some, cond_true, cond_true, Int.toNat_natCast, hdd, wrapi (n := d * l2.getD j 0) (by omega)]
        generalize d * l2.getD j 0 = q at *
        generalize out.getD (i + j) 0 = p at *
        rw [wrapi (n := p + q) (by omega), wrapi (n := p + q + c) (by omega), tdiv10 (by omega), tmod10 (by omega), wrapi (n := (p + q + c) / 10) (by omega), wrapi (n := (j : Int) + 1) (by omega)]
        rfl
      refine ⟨_, once, ⟨j + 1, _, _, rfl, D10_set ho _ (by omega) (by omega), by rw [List.length_set, hlen], by omega, by omega, by omega, ?_⟩, ?_⟩
      · rw [V10_set (by omega), ← hv, V10_drop l2 j]
        generalize l2.getD j 0 = q at *
        generalize out.getD (i + j) 0 = p at *
        have := Int.mul_ediv_add_emod (p + d * q + c) 10
        generalize (p + d * q + c) / 10 = u at *
        generalize (p + d * q + c) % 10 = w at *
        rw [show i + (j + 1) = i + j + 1 by omega, Int.pow_succ]
        generalize (10 : Int) ^ (i + j) = P at *
        grind
      · dsimp only; omega
    · right
      refine ⟨(l1, l2, (i : Int), out), ?_, out, rfl, ho, hlen, ?_⟩
      · unfold pyxref1_MulNat.l7.once
        dsimp only
        rw [cf (by omega), decide_eq_false (by omega)]
        rfl
      · rw [V10_drop_all (by omega)] at hv
        rw [← hv, show c = 0 by omega]; simp) k (l1, l2, (i : Int), 0, ((0 : Nat) : Int), out0) ⟨0, 0, out0, rfl, h0, rfl, by decide, by decide, by omega, by rw [← hTT]; simp⟩ (by dsimp only; omega)
  exact ⟨out, e1, e2, e3, e4⟩
theorem MulNat_eq {k : Nat} (hk : 602 < k) {a b : Nat} (ha : a < 10 ^ 200) (hb : b < 10 ^ 200) : pyxref1_MulNat.f k (dig a) (dig b) = some (dig (a * b)) := by
  have hl1 := dig_len ha
  have hl2 := dig_len hb
  have h1 := D10_dig a
  have h2 := D10_dig b
  have v1 := V10_dig a
  have v2 := V10_dig b
  generalize dig a = l1 at *
  generalize dig b = l2 at *
  unfold pyxref1_MulNat.f
  have hw : IntKind.wrap .i64 (IntKind.wrap .i64 ((l1.length : Int) + (l2.length : Int)) + 1) = ((l1.length + l2.length + 1 : Nat) : Int) := by rw [wrapi (n := (l1.length : Int) + (l2.length : Int)) (by omega), wrapi (by omega)]; omega
  rw [hw, decide_eq_true (show (0 : Int) ≤ ((l1.length + l2.length + 1 : Nat) : Int) by omega), decide_eq_true (show ((l1.length + l2.length + 1 : Nat) : Int) = ((l1.length + l2.length + 1 : Nat) : Int) from rfl), decide_eq_true (show ((l1.length + l2.length + 1 : Nat) : Int) * 8 ≤ 140737488355328 by omega), Bool.and_true, Bool.and_true, cond_true, Int.toNat_natCast]
  generalize hn : l1.length + l2.length + 1 = n at *
  obtain ⟨y, e1, e2, e3, e4⟩ := iter_rule (once := pyxref1_MulNat.l3.once k) (fun x => ∃ (i : Nat) (out : List Int), x = (l1, l2, (i : Int), out) ∧ i ≤ l1.length ∧ D10 out ∧ out.length = n ∧ V10 out = V10 (l1.take i) * V10 l2)
    (fun x => l1.length - x.2.2.1.toNat) (fun y => D10 y ∧ y.length = n ∧ V10 y = V10 l1 * V10 l2) (by
    rintro x ⟨i, out, rfl, hi, ho, hlen, hv⟩
    by_cases run : i < l1.length
    · left
      have htk := take_succ10 l1 run
      have hT : V10 out + 10 ^ i * (l1.getD i 0 * V10 l2) = V10 (l1.take (i + 1)) * V10 l2 := by rw [hv, htk]; grind
      have q1 := V10_nonneg (D10_take h1 (i + 1))
      have q2 := V10_take_lt h1 (i := i + 1) (by omega)
      have q3 := V10_nonneg h2
      have q4 := V10_lt h2
      have q5 : 0 < (10 : Int) ^ l2.length := Int.pow_pos (by decide)
      have q6 : V10 (l1.take (i + 1)) * V10 l2 ≤ V10 (l1.take (i + 1)) * 10 ^ l2.length := Int.mul_le_mul_of_nonneg_left (by omega) q1
      have q7 : V10 (l1.take (i + 1)) * 10 ^ l2.length < 10 ^ (i + 1) * 10 ^ l2.length := Int.mul_lt_mul_of_pos_right q2 q5
      have q8 : (10 : Int) ^ (i + 1) * 10 ^ l2.length ≤ 10 ^ n := by
        rw [← Int.pow_add, show (10 : Int) ^ (i + 1 + l2.length) = ((10 ^ (i + 1 + l2.length) : Nat) : Int) by simp, show (10 : Int) ^ n = ((10 ^ n : Nat) : Int) by simp]
        have := Nat.pow_le_pow_right (show 0 < 10 by decide) (show i + 1 + l2.length ≤ n by omega)
        omega
      obtain ⟨out', r1, r2, r3, r4⟩ := Mul_row10 (k := k) (i := i) hk h1 h2 run ho (by omega) (by omega) (by rw [hT, hlen]; omega)
      refine ⟨(l1, l2, ((i + 1 : Nat) : Int), out'), ?_, ⟨i + 1, out', rfl, by omega, r2, by omega, by rw [r4, hT]⟩, by dsimp only; omega⟩
      unfold pyxref1_MulNat.l3.once
      dsimp only
      rw [ct (by omega), r1, Option.bind_some]
      dsimp only
      rw [wrapi (by omega)]
      rfl
    · right
      refine ⟨out, ?_, ho, hlen, ?_⟩
      · unfold pyxref1_MulNat.l3.once
        dsimp only
        rw [cf (by omega)]
      · rw [hv, List.take_of_length_le (by omega)]) k (l1, l2, ((0 : Nat) : Int), List.replicate n 0) ⟨0, _, rfl, by omega, D10_replicate n, by simp, by rw [V10_replicate]; simp [V10]⟩ (by dsimp only; omega)
  have e1' : iter (pyxref1_MulNat.l3.once k) k (l1, l2, 0, List.replicate n 0) = some y := e1
  rw [e1', Option.bind_some, trim_eq e2 (by omega) (by omega), e4, Option.bind_some, v1, v2, ← Int.natCast_mul, Int.toNat_natCast]
theorem Div_sub {k : Nat} (hk : 602 < k) (l1 : List Int) {a b : Nat} (hb : 0 < b) (hb' : b < 10 ^ 100) (ha : a < 10 * b) {i : Nat} {q : List Int} (hi : i < q.length) (hq : q.getD i 0 = 0) (hqb : q.length ≤ 600) :
    iter (pyxref1_DivNat.l7.once k) k (l1, dig b, dig a, (i : Int), q) = some (l1, dig b, dig (a % b), (i : Int), q.set i ((a / b : Nat) : Int)) := by
  have hq0 : q.set i 0 = q := by
    have : q[i] = 0 := by rw [List.getD_eq_getElem?_getD, List.getElem?_eq_getElem hi] at hq; exact hq
    rw [← this, List.set_getElem_self]
  obtain ⟨y, e1, e2⟩ := iter_rule (once := pyxref1_DivNat.l7.once k) (fun x => ∃ c : Nat, x = (l1, dig b, dig (a - b * c), (i : Int), q.set i (c : Int)) ∧ b * c ≤ a ∧ c ≤ 9)
    (fun x => 10 - (x.2.2.2.2.getD i 0).toNat) (fun y => y = (l1, dig b, dig (a % b), (i : Int), q.set i ((a / b : Nat) : Int))) (by
    rintro x ⟨c, rfl, hc, hc9⟩
    have hlen : (q.set i (c : Int)).length = q.length := List.length_set
    have hg : (q.set i (c : Int)).getD i 0 = (c : Int) := by rw [List.getD_eq_getElem?_getD, List.getElem?_set_self hi, Option.getD_some]
    have hcmp := CmpNat_eq (k := k) (a := a - b * c) (b := b) (by omega) (by omega) (by omega)
    by_cases run : b ≤ a - b * c
    · left
      have hc' : b * (c + 1) ≤ a := by rw [Nat.mul_add]; omega
      have hc9' : c + 1 ≤ 9 := by
        refine Nat.le_of_not_lt fun h => ?_
        have := Nat.mul_le_mul_left b (show 10 ≤ c + 1 by omega)
        omega
      refine ⟨(l1, dig b, dig (a - b * (c + 1)), (i : Int), q.set i ((c + 1 : Nat) : Int)), ?_, ⟨c + 1, rfl, hc', hc9'⟩, ?_⟩
      · unfold pyxref1_DivNat.l7.once
        dsimp only
        rw [hcmp, Option.bind_some, if_neg (by omega)]
        rw [show decide ((if a - b * c = b then (0 : Int) else 1) ≥ 0) = true by split <;> rfl, cond_true, SubNat_eq (by omega) (by omega) run, Option.bind_some, hlen, inb_t (by omega) (by omega), cond_true, Int.toNat_natCast, blt_t hi, cond_true, cond_true, cond_true, hg, List.set_set, wrapi (by omega), Nat.mul_add, Nat.mul_one, Nat.sub_sub]
        rfl
      · dsimp only
        rw [hg, show (q.set i ((c + 1 : Nat) : Int)).getD i 0 = ((c + 1 : Nat) : Int) by rw [List.getD_eq_getElem?_getD, List.getElem?_set_self hi, Option.getD_some]]
        omega
    · right
      have hdiv : a / b = c := Nat.div_eq_of_lt_le (by rw [Nat.mul_comm]; exact hc) (by rw [Nat.succ_mul, Nat.mul_comm]; omega)
      have hmod : a % b = a - b * c := by have := Nat.div_add_mod a b; rw [hdiv] at this; omega
      refine ⟨_, ?_, rfl⟩
      rw [hdiv, hmod]
      unfold pyxref1_DivNat.l7.once
      dsimp only
      rw [hcmp, Option.bind_some, if_pos (by omega)]
      rfl) k (l1, dig b, dig a, (i : Int), q) ⟨0, by rw [Nat.mul_zero, Nat.sub_zero, show ((0 : Nat) : Int) = 0 from rfl, hq0], by omega, by omega⟩ (by dsimp only; omega)
  rw [e1, e2]
theorem DivNat_eq {k : Nat} (hk : 602 < k) {a b : Nat} (ha : a < 10 ^ 200) (hb : 0 < b) (hb' : b < 10 ^ 100) : pyxref1_DivNat.f k (dig a) (dig b) = some (dig (a / b), dig (a % b)) := by
  have hl1 := dig_len ha
  have h1 := D10_dig a
  have v1 := V10_dig a
  generalize dig a = l1 at *
  have hlb := dig_len hb'
  unfold pyxref1_DivNat.f
  rw [decide_eq_true (show (0 : Int) ≤ (l1.length : Int) by omega), decide_eq_true (show (l1.length : Int) = (l1.length : Int) from rfl), decide_eq_true (show (l1.length : Int) * 8 ≤ 140737488355328 by omega), Bool.and_true, Bool.and_true, cond_true, Int.toNat_natCast, wrapi (by omega)]
  obtain ⟨y, e1, r, q, rfl, e2, e3, e4, e5⟩ := iter_rule (once := pyxref1_DivNat.l4.once k) (fun x => ∃ (t r : Nat) (q : List Int), x = (l1, dig b, dig r, (t : Int) - 1, q) ∧ t ≤ l1.length ∧ q.length = l1.length ∧ D10 q ∧ r < b ∧ (∀ j, j < t → q.getD j 0 = 0) ∧ V10 (l1.drop t) = (b : Int) * V10 (q.drop t) + r)
    (fun x => (x.2.2.2.1 + 1).toNat) (fun y => ∃ (r : Nat) (q : List Int), y = (dig r, q) ∧ D10 q ∧ q.length = l1.length ∧ r < b ∧ V10 l1 = (b : Int) * V10 q + r) (by
    rintro x ⟨t, r, q, rfl, ht, hql, hq, hr, hz, hv⟩
    cases t with
    | zero =>
      right
      refine ⟨(dig r, q), ?_, r, q, rfl, hq, hql, hr, hv⟩
      unfold pyxref1_DivNat.l4.once
      rfl
    | succ t =>
      left
      have bd := D10_getD h1 t
      obtain ⟨d, hd⟩ : ∃ d : Nat, l1.getD t 0 = (d : Int) := ⟨(l1.getD t 0).toNat, by omega⟩
      rw [hd] at bd
      have hlr : (dig r).length ≤ 100 := dig_len (by omega)
      have htr : pyxref1_trim.f k ([(d : Int)] ++ dig r) = some (dig (d + 10 * r)) := by
        rw [trim_eq (D10_append (D10_cons bd.1 bd.2 D10_nil) (D10_dig r)) (by simp; omega) (by simp; omega), List.singleton_append, V10, V10_dig]
        exact congrArg (fun z => some (dig z)) (by omega)
      have hsub := Div_sub (k := k) hk l1 hb hb' (a := d + 10 * r) (by omega) (i := t) (q := q) (by omega) (hz t (by omega)) (by omega)
      have hmod := Nat.mod_lt (d + 10 * r) hb
      have hdlt : (d + 10 * r) / b < 10 := by rw [Nat.div_lt_iff_lt_mul hb]; omega
      refine ⟨(l1, dig b, dig ((d + 10 * r) % b), (t : Int) - 1, q.set t (((d + 10 * r) / b : Nat) : Int)), ?_, ⟨t, _, _, rfl, by omega, by rw [List.length_set, hql], D10_set hq _ (Int.natCast_nonneg _) (Int.ofNat_lt.2 hdlt), hmod, ?_, ?_⟩, by dsimp only; omega⟩
      · unfold pyxref1_DivNat.l4.once
        dsimp only
        rw [show ((t + 1 : Nat) : Int) - 1 = (t : Int) by omega, ct (by omega), inb_t (by omega) (by omega), cond_true, Int.toNat_natCast, hd, okLen_t (by simp only [List.length_cons, List.length_nil]; omega), cond_true, htr, Option.bind_some, hsub, Option.bind_some]
        dsimp only
        rw [wrapi (show -9223372036854775808 ≤ (t : Int) - 1 ∧ (t : Int) - 1 < 9223372036854775808 by omega)]
      · intro j hj
        rw [List.getD_eq_getElem?_getD, List.getElem?_set_ne (by omega), ← List.getD_eq_getElem?_getD]
        exact hz j (by omega)
      · have hdr : (q.set t (((d + 10 * r) / b : Nat) : Int)).getD t 0 = (((d + 10 * r) / b : Nat) : Int) := by rw [List.getD_eq_getElem?_getD, List.getElem?_set_self (by omega), Option.getD_some]
        rw [V10_drop l1 t, V10_drop (q.set t _) t, hdr, hd, hv, List.drop_set_of_lt (by omega)]
        have := Nat.div_add_mod (d + 10 * r) b
        generalize (d + 10 * r) / b = u at *
        generalize (d + 10 * r) % b = w at *
        have h2 : (b : Int) * (u : Int) + (w : Int) = (d : Int) + 10 * (r : Int) := by rw [← Int.natCast_mul]; omega
        grind) k (l1, dig b, dig 0, (l1.length : Int) - 1, List.replicate l1.length 0) ⟨l1.length, 0, _, rfl, Nat.le_refl _, by simp, D10_replicate _, hb, fun j hj => by rw [List.getD_eq_getElem?_getD, List.getElem?_replicate, if_pos hj]; rfl, by rw [V10_drop_all (Nat.le_refl _), V10_drop_all (by simp)]; simp⟩ (by dsimp only; omega)
  rw [dig_0] at e1
  have p := V10_nonneg e2
  rw [e1, Option.bind_some, trim_eq e2 (by omega) (by omega), Option.bind_some]
  obtain ⟨n, hn⟩ : ∃ n : Nat, V10 q = (n : Int) := ⟨(V10 q).toNat, by omega⟩
  rw [hn] at e5 ⊢
  rw [v1] at e5
  have e6 : a = b * n + r := by rw [← Int.natCast_mul] at e5; omega
  have h3 : a / b = n := by rw [e6, Nat.mul_add_div hb, Nat.div_eq_of_lt e4, Nat.add_zero]
  have h4 : a % b = r := by rw [e6, Nat.mul_add_mod, Nat.mod_eq_of_lt e4]
  rw [h3, h4, Int.toNat_natCast]
theorem drop_le {l : List Int} (h : D10 l) {t : Nat} (ht : t ≤ l.length) : V10 (l.drop t) ≤ V10 l := by
  rw [V10_split l ht]
  have p1 := V10_nonneg (D10_take h t)
  have p2 := V10_nonneg (D10_drop h t)
  have p3 : 0 < (10 : Int) ^ t := Int.pow_pos (by decide)
  have : 1 * V10 (l.drop t) ≤ 10 ^ t * V10 (l.drop t) := Int.mul_le_mul_of_nonneg_right (by omega) p2
  omega
theorem short_eq {k : Nat} (hk : 602 < k) {n : Nat} (hn : n < 18446744073709551616) : pyxref1_short.f k (dig n) = some (n : Int) := by
  have hl := dig_len (n := n) (m := 20) (by omega)
  have h := D10_dig n
  have v := V10_dig n
  generalize dig n = l at *
  unfold pyxref1_short.f
  rw [wrapi (by omega)]
  obtain ⟨y, e1, e2⟩ := iter_rule (once := pyxref1_short.l3.once k) (fun x => ∃ t : Nat, x = (l, V10 (l.drop t), (t : Int) - 1) ∧ t ≤ l.length) (fun x => (x.2.2 + 1).toNat) (fun y => y = V10 l) (by
    rintro x ⟨t, rfl, ht⟩
    cases t with
    | zero =>
      right
      exact ⟨V10 l, by unfold pyxref1_short.l3.once; rfl, rfl⟩
    | succ t =>
      left
      have p1 := drop_le h ht
      have p2 := drop_le h (t := t) (by omega)
      have p3 := V10_nonneg (D10_drop h (t + 1))
      have p4 := V10_nonneg (D10_drop h t)
      have p5 := D10_getD h t
      have p6 := V10_drop l t
      refine ⟨(l, V10 (l.drop t), (t : Int) - 1), ?_, ⟨t, rfl, by omega⟩, by dsimp only; omega⟩
      unfold pyxref1_short.l3.once
      dsimp only
      rw [show ((t + 1 : Nat) : Int) - 1 = (t : Int) by omega, ct (by omega), inb_t (by omega) (by omega), cond_true, Int.toNat_natCast, wrapu (n := 10 * V10 (l.drop (t + 1))) (by omega), wrapu (n := l.getD t 0) (by omega), wrapu (by omega), wrapi (by omega), p6, Int.add_comm]) k (l, 0, (l.length : Int) - 1) ⟨l.length, by rw [V10_drop_all (Nat.le_refl _)], Nat.le_refl _⟩ (by dsimp only; omega)
  rw [e1, Option.bind_some, e2, v]
theorem Nat2_eq {k : Nat} (hk : 602 < k) {x : Int × Int} (hx : W2 x) {n : Nat} (hn : N2 x = (n : Int)) : pyxref1_Nat2.f k x = some (dig n) := by
  obtain ⟨a, b⟩ := x
  obtain ⟨⟨h1, h2⟩, h3, h4⟩ := hx
  unfold N2 at hn
  dsimp only at *
  obtain ⟨a, rfl⟩ := Int.eq_ofNat_of_zero_le h1
  obtain ⟨b, rfl⟩ := Int.eq_ofNat_of_zero_le h3
  unfold pyxref1_Nat2.f
  dsimp only
  rw [Word_eq (by omega) (by omega), Option.bind_some, radix_eq (by omega), Option.bind_some, MulNat_eq hk (by omega) (by omega), Option.bind_some, Word_eq (by omega) (by omega), Option.bind_some, AddNat_eq (by omega) (by omega) (by omega), Option.bind_some]
  exact congrArg (fun z => some (dig z)) (by omega)
end Go.Proofs.Ytgfbcclfajcjnaa.Pure
namespace Go.Proofs.Ytgfbcclfajcjnaa.Pure
set_option linter.unusedVariables false
set_option linter.unusedSimpArgs false
open Go Go.Ev Go.Lm Go.Pu
def w2 (n : Nat) : Int × Int := (((n % 18446744073709551616 : Nat) : Int), ((n / 18446744073709551616 : Nat) : Int))
theorem W2_w2 {n : Nat} (h : n < 340282366920938463463374607431768211456) : W2 (w2 n) := by
  unfold w2 W2 Wd
  dsimp only
  omega
theorem N2_w2 (n : Nat) : N2 (w2 n) = (n : Int) := by
  unfold w2 N2
  dsimp only
  omega
theorem w2_of {x : Int × Int} (h : W2 x) {n : Nat} (hn : N2 x = (n : Int)) : x = w2 n := by
  have hb := N2_bd h
  exact N2_inj h (W2_w2 (by omega)) (by rw [hn, N2_w2])
def DV (i : Int) (s : Nat) : Sapi_Dec := ⟨decide (i < 0), w2 i.natAbs, (s : Int)⟩
def Sm (i : Int) : Prop := i.natAbs < 1000000000000000000000000000000
def nil0 : Sapi_Dec := ⟨false, (0, 0), 0⟩
def mkD (v : Int) (m : Nat) : Sapi_Dec × Int := if v.natAbs < 1000000000000000000000000000000 then (DV v m, 0) else (nil0, 3)
theorem small_all {k : Nat} (hk : 60 < k) {x : Int × Int} (hx : W2 x) : dec_small.f k x = some (decide (N2 x < 1000000000000000000000000000000)) := by
  unfold dec_small.f dec_ten.f
  obtain ⟨t, t1, t2, t3⟩ := Ten_eq (k := k) hk (i := 30) (by decide)
  have t1' : limb_Ten.f k 30 = some (t, true) := t1
  rw [t1', Option.bind_some, Option.bind_some]
  obtain ⟨j, rfl⟩ : ∃ j, k = j + 3 := ⟨k - 3, by omega⟩
  have e : limb_Cmp.f (j + 3) (x.1, x.2) (t.1, t.2) = _ := Cmp_eq j hx t2
  rw [e, Option.bind_some, t3, show (10 : Int) ^ 30 = 1000000000000000000000000000000 by decide]
  refine congrArg some ?_
  by_cases h : N2 x < 1000000000000000000000000000000
  · rw [if_pos h, decide_eq_true h]; rfl
  · rw [if_neg h, decide_eq_false h]; split <;> rfl
theorem nought_eq (k : Nat) {x : Int × Int} (hx : W2 x) : dec_nought.f k x = some (decide (N2 x = 0)) := by
  unfold dec_nought.f
  obtain ⟨a, b⟩ := x
  obtain ⟨⟨h1, h2⟩, h3, h4⟩ := hx
  dsimp only at *
  refine congrArg some ?_
  unfold N2
  dsimp only
  by_cases ha : a = 0
  · subst ha
    by_cases hb : b = 0
    · subst hb; rfl
    · rw [show ((b == 0) : Bool) = false by simp [hb], Bool.and_false, decide_eq_false (by omega)]
  · rw [show ((a == 0) : Bool) = false by simp [ha], Bool.false_and, decide_eq_false (by omega)]
theorem Sm_w2 {i : Int} (h : Sm i) : W2 (w2 i.natAbs) := W2_w2 (by unfold Sm at h; omega)
theorem Right_DV {k : Nat} (hk : 60 < k) {i : Int} {s : Nat} (hi : Sm i) (hs : s ≤ 9) : dec_Right.f k (DV i s) = some true := by
  unfold dec_Right.f DV
  dsimp only
  have e1 : dec_small.f k ((w2 i.natAbs).1, (w2 i.natAbs).2) = some (decide (N2 (w2 i.natAbs) < 1000000000000000000000000000000)) := small_all hk (Sm_w2 hi)
  have e2 : dec_nought.f k ((w2 i.natAbs).1, (w2 i.natAbs).2) = some (decide (N2 (w2 i.natAbs) = 0)) := nought_eq k (Sm_w2 hi)
  unfold Sm at hi
  rw [e1, Option.bind_some, e2, N2_w2, ct (by omega), ct (by omega), ct (by omega)]
  by_cases h : i < 0
  · rw [ct h, Option.bind_some, decide_eq_false (by omega)]; rfl
  · rw [cf h]
theorem Sign_DV {k : Nat} (hk : 60 < k) {i : Int} {s : Nat} (hi : Sm i) (hs : s ≤ 9) : dec_Sign.f k (DV i s) = some (if i = 0 then 0 else if i < 0 then -1 else 1) := by
  unfold dec_Sign.f
  have h : dec_Right.f k ⟨(DV i s).f_Neg, ((DV i s).f_C.1, (DV i s).f_C.2), (DV i s).f_Scale⟩ = some true := Right_DV hk hi hs
  have e2 : dec_nought.f k ((DV i s).f_C.1, (DV i s).f_C.2) = some (decide (N2 (w2 i.natAbs) = 0)) := nought_eq k (Sm_w2 hi)
  rw [h, Option.bind_some, Bool.not_true, cond_false, e2, Option.bind_some, Option.bind_some, N2_w2]
  dsimp only
  unfold DV
  dsimp only
  by_cases h0 : i = 0
  · rw [ct (by omega), if_pos h0]
  · rw [cf (by omega), if_neg h0]
    by_cases h1 : i < 0
    · rw [ct h1, if_pos h1]
    · rw [cf h1, if_neg h1]
theorem made_eq {k : Nat} (hk : 60 < k) (neg : Bool) {x : Int × Int × Int × Int} (hx : W4 x) (s : Nat) : dec_made.f k neg x (s : Int) = some (mkD (if neg then -(N4 x) else N4 x) s) := by
  unfold dec_made.f mkD
  obtain ⟨z, b, z1, z2, z3, z4, z5⟩ := Short_eq k hx
  have z1' : limb_Short.f k (x.1, x.2.1, x.2.2.1, x.2.2.2) = some (z, b) := z1
  have hb := N4_bd hx
  rw [z1', Option.bind_some]
  have e1 : dec_small.f k (z.1, z.2) = some (decide (N2 z < 1000000000000000000000000000000)) := small_all hk z2
  have e2 : dec_nought.f k (z.1, z.2) = some (decide (N2 z = 0)) := nought_eq k z2
  have hna : (if neg = true then -(N4 x) else N4 x).natAbs = (N4 x).natAbs := by split <;> omega
  rw [hna]
  cases b
  · have : ¬ N4 x < 340282366920938463463374607431768211456 := fun h => by have := z3.2 h; cases this
    rw [Bool.not_false, cond_true, Option.bind_some, if_neg (by omega)]
    rfl
  · have hN := z4 rfl
    rw [Bool.not_true, cond_false, e1, Option.bind_some, Option.bind_some, e2, hN]
    dsimp only
    by_cases h : N4 x < 1000000000000000000000000000000
    · rw [decide_eq_true h, Bool.not_true, cond_false, if_pos (by omega)]
      have hz : z = w2 (N4 x).natAbs := w2_of z2 (by omega)
      unfold DV
      rw [hna, ← hz]
      cases neg
      · rw [cond_false]
        refine congrArg some ?_
        rw [decide_eq_false]
        simp only [Bool.false_eq_true, if_false]
        omega
      · rw [cond_true, Option.bind_some]
        refine congrArg some ?_
        have : (!decide (N4 x = 0)) = decide ((if true = true then -(N4 x) else N4 x) < 0) := by
          rw [if_pos rfl]
          by_cases h0 : N4 x = 0
          · rw [decide_eq_true h0, decide_eq_false (by omega)]; rfl
          · rw [decide_eq_false h0, decide_eq_true (by omega)]; rfl
        rw [this]
    · rw [decide_eq_false h, Bool.not_false, cond_true, if_neg (by omega)]
      rfl
theorem wide_eq {k : Nat} (hk : 60 < k) (n : Bool) {c : Int × Int} (hc : W2 c) {s t : Nat} (hst : s ≤ t) (ht : t ≤ s + 38) (h9 : t ≤ 100) : ∃ z, dec_wide.f k ⟨n, c, (s : Int)⟩ (t : Int) = some z ∧ W4 z ∧ N4 z = N2 c * 10 ^ (t - s) := by
  unfold dec_wide.f dec_ten.f
  dsimp only
  obtain ⟨u, u1, u2, u3⟩ := Ten_eq hk (i := t - s) (by omega)
  rw [wrapi (by omega), show (t : Int) - (s : Int) = ((t - s : Nat) : Int) by omega, u1, Option.bind_some, Option.bind_some]
  obtain ⟨z, z1, z2, z3⟩ := Mul_eq (k := k) (by omega) hc u2
  have z1' : limb_Mul.f k (c.1, c.2) (u.1, u.2) = some z := z1
  dsimp only
  rw [z1', Option.bind_some]
  exact ⟨z, rfl, z2, by rw [z3, u3]⟩
theorem not2 {x : Int × Int} (hx : W2 x) : W2 (bits .xor .u64 18446744073709551615 x.1, bits .xor .u64 18446744073709551615 x.2) ∧ N2 (bits .xor .u64 18446744073709551615 x.1, bits .xor .u64 18446744073709551615 x.2) = 340282366920938463463374607431768211455 - N2 x := by
  obtain ⟨a, b⟩ := x
  obtain ⟨⟨h1, h2⟩, h3, h4⟩ := hx
  dsimp only at *
  obtain ⟨a', rfl⟩ := Int.eq_ofNat_of_zero_le h1
  obtain ⟨b', rfl⟩ := Int.eq_ofNat_of_zero_le h3
  rw [not64 (by omega), not64 (by omega)]
  unfold W2 Wd N2
  dsimp only
  omega
def lo (x : Int × Int × Int × Int) : Int × Int := (x.1, x.2.1)
def hi (x : Int × Int × Int × Int) : Int × Int := (x.2.2.1, x.2.2.2)
theorem N4_halves (x : Int × Int × Int × Int) : N4 x = N2 (lo x) + 340282366920938463463374607431768211456 * N2 (hi x) := by
  unfold N4 N2 lo hi
  dsimp only
  omega
theorem W2_lo {x : Int × Int × Int × Int} (h : W4 x) : W2 (lo x) := ⟨h.1, h.2.1⟩
theorem W2_hi {x : Int × Int × Int × Int} (h : W4 x) : W2 (hi x) := ⟨h.2.2.1, h.2.2.2⟩
theorem W2_one : W2 (1, 0) := W2_of ⟨by decide, by decide⟩
theorem plus4 (k : Nat) {x y : Int × Int × Int × Int} (hx : W4 x) (hy : W4 y) (bx : N4 x < 28948022309329048855892746252171976963317496166410141009864396001978282409984) (by_ : N4 y < 28948022309329048855892746252171976963317496166410141009864396001978282409984) :
    ∃ z, dec_plus.f k x y = some z ∧ W4 z ∧ N4 z = N4 x + N4 y := by
  have h1 := N4_halves x
  have h2 := N4_halves y
  have l1 := N2_bd (W2_lo hx)
  have l2 := N2_bd (W2_lo hy)
  have m1 := N2_bd (W2_hi hx)
  have m2 := N2_bd (W2_hi hy)
  unfold dec_plus.f dec_halves.f
  rw [Option.bind_some, Option.bind_some]
  dsimp only
  obtain ⟨a, b, a1, a2, a3, a4, a5⟩ := Add_eq k (W2_hi hx) (W2_hi hy)
  obtain rfl : b = true := a5.2 (by omega)
  have a1' : limb_Add.f k (x.2.2.1, x.2.2.2) (y.2.2.1, y.2.2.2) = some (a, true) := a1
  have a3 := a3 rfl
  obtain ⟨c, e, c1, c2, c3, c4, c5⟩ := Add_eq k (W2_lo hx) (W2_lo hy)
  have c1' : limb_Add.f k (x.1, x.2.1) (y.1, y.2.1) = some (c, e) := c1
  rw [a1', Option.bind_some, c1', Option.bind_some]
  cases e
  · have hov : ¬ N2 (lo x) + N2 (lo y) < 340282366920938463463374607431768211456 := fun h => by have := c5.2 h; cases this
    rw [Bool.not_false, cond_true]
    obtain ⟨n1, n2⟩ := not2 (W2_lo hx)
    obtain ⟨d, f, d1, d2, d3, d4, d5⟩ := Sub_eq k (W2_lo hy) n1
    obtain rfl : f = true := d5.2 (by omega)
    have d1' : limb_Sub.f k (y.1, y.2.1) (bits .xor .u64 18446744073709551615 x.1, bits .xor .u64 18446744073709551615 x.2.1) = some (d, true) := d1
    have d3 := d3 rfl
    rw [d1', Option.bind_some, Of_eq, Option.bind_some]
    obtain ⟨g, f, g1, g2, g3, g4, g5⟩ := Sub_eq k d2 W2_one
    have hone : N2 (1, 0) = 1 := N2_of 1
    obtain rfl : f = true := g5.2 (by omega)
    have g1' : limb_Sub.f k (d.1, d.2) (1, 0) = some (g, true) := g1
    have g3 := g3 rfl
    dsimp only
    rw [g1', Option.bind_some, Option.bind_some]
    obtain ⟨u, f, u1, u2, u3, u4, u5⟩ := Add_eq k a2 W2_one
    obtain rfl : f = true := u5.2 (by omega)
    have u1' : limb_Add.f k (a.1, a.2) (1, 0) = some (u, true) := u1
    have u3 := u3 rfl
    rw [u1', Option.bind_some, Option.bind_some]
    refine ⟨_, rfl, ⟨g2.1, g2.2, u2.1, u2.2⟩, ?_⟩
    rw [N4_halves]
    show N2 g + 340282366920938463463374607431768211456 * N2 u = _
    omega
  · rw [Bool.not_true, cond_false, Option.bind_some]
    have c3 := c3 rfl
    refine ⟨_, rfl, ⟨c2.1, c2.2, a2.1, a2.2⟩, ?_⟩
    rw [N4_halves]
    show N2 c + 340282366920938463463374607431768211456 * N2 a = _
    omega
theorem less4 (k : Nat) {x y : Int × Int × Int × Int} (hx : W4 x) (hy : W4 y) (h : N4 y ≤ N4 x) :
    ∃ z, dec_less.f k x y = some z ∧ W4 z ∧ N4 z = N4 x - N4 y := by
  have h1 := N4_halves x
  have h2 := N4_halves y
  have l1 := N2_bd (W2_lo hx)
  have l2 := N2_bd (W2_lo hy)
  have m1 := N2_bd (W2_hi hx)
  have m2 := N2_bd (W2_hi hy)
  unfold dec_less.f dec_halves.f
  rw [Option.bind_some, Option.bind_some]
  dsimp only
  obtain ⟨a, b, a1, a2, a3, a4, a5⟩ := Sub_eq k (W2_hi hx) (W2_hi hy)
  obtain rfl : b = true := a5.2 (by omega)
  have a1' : limb_Sub.f k (x.2.2.1, x.2.2.2) (y.2.2.1, y.2.2.2) = some (a, true) := a1
  have a3 := a3 rfl
  obtain ⟨c, e, c1, c2, c3, c4, c5⟩ := Sub_eq k (W2_lo hx) (W2_lo hy)
  have c1' : limb_Sub.f k (x.1, x.2.1) (y.1, y.2.1) = some (c, e) := c1
  rw [a1', Option.bind_some, c1', Option.bind_some]
  cases e
  · have hov : ¬ N2 (lo y) ≤ N2 (lo x) := fun h => by have := c5.2 h; cases this
    rw [Bool.not_false, cond_true]
    obtain ⟨d, f, d1, d2, d3, d4, d5⟩ := Sub_eq k (W2_lo hy) (W2_lo hx)
    obtain rfl : f = true := d5.2 (by omega)
    have d1' : limb_Sub.f k (y.1, y.2.1) (x.1, x.2.1) = some (d, true) := d1
    have d3 := d3 rfl
    rw [d1', Option.bind_some, Of_eq, Option.bind_some]
    obtain ⟨g, f, g1, g2, g3, g4, g5⟩ := Sub_eq k d2 W2_one
    have hone : N2 (1, 0) = 1 := N2_of 1
    obtain rfl : f = true := g5.2 (by omega)
    have g1' : limb_Sub.f k (d.1, d.2) (1, 0) = some (g, true) := g1
    have g3 := g3 rfl
    dsimp only
    rw [g1', Option.bind_some, Option.bind_some]
    obtain ⟨u, f, u1, u2, u3, u4, u5⟩ := Sub_eq k a2 W2_one
    obtain rfl : f = true := u5.2 (by omega)
    have u1' : limb_Sub.f k (a.1, a.2) (1, 0) = some (u, true) := u1
    have u3 := u3 rfl
    rw [u1', Option.bind_some, Option.bind_some]
    obtain ⟨n1, n2⟩ := not2 g2
    refine ⟨_, rfl, ⟨n1.1, n1.2, u2.1, u2.2⟩, ?_⟩
    rw [N4_halves]
    show N2 (bits .xor .u64 18446744073709551615 g.1, bits .xor .u64 18446744073709551615 g.2) + 340282366920938463463374607431768211456 * N2 u = _
    omega
  · rw [Bool.not_true, cond_false, Option.bind_some]
    have c3 := c3 rfl
    refine ⟨_, rfl, ⟨c2.1, c2.2, a2.1, a2.2⟩, ?_⟩
    rw [N4_halves]
    show N2 c + 340282366920938463463374607431768211456 * N2 a = _
    omega
theorem cmp_step (k : Nat) {a0 a1 a2 a3 b0 b1 b2 b3 : Int} {i : Nat} (hi : i < 4) : dec_cmp.l2.once k ((i : Int), [a0, a1, a2, a3], [b0, b1, b2, b3]) = cond ([a0, a1, a2, a3].getD i 0 != [b0, b1, b2, b3].getD i 0) (cond (decide ([a0, a1, a2, a3].getD i 0 < [b0, b1, b2, b3].getD i 0)) (some (.inr (.inr (-1)))) (some (.inr (.inr 1)))) (some (.inl ((i : Int) - 1, [a0, a1, a2, a3], [b0, b1, b2, b3]))) := by
  unfold dec_cmp.l2.once
  dsimp only
  rw [ct (by omega), inb_t (by omega) (by omega), cond_true, Int.toNat_natCast, blt_t hi, cond_true, cond_true, cond_true, cond_true, cond_true, cond_true, cond_true, wrapi (by omega)]
theorem cmp4 {k : Nat} (hk : 5 < k) {x y : Int × Int × Int × Int} (hx : W4 x) (hy : W4 y) : dec_cmp.f k x y = some (if N4 x < N4 y then -1 else if N4 x = N4 y then 0 else 1) := by
  obtain ⟨j, rfl⟩ : ∃ j, k = j + 5 := ⟨k - 5, by omega⟩
  obtain ⟨a0, a1, a2, a3⟩ := x
  obtain ⟨b0, b1, b2, b3⟩ := y
  obtain ⟨⟨_, _⟩, ⟨_, _⟩, ⟨_, _⟩, _, _⟩ := hx
  obtain ⟨⟨_, _⟩, ⟨_, _⟩, ⟨_, _⟩, _, _⟩ := hy
  unfold dec_cmp.f N4
  dsimp only at *
  have s3 : dec_cmp.l2.once (j + 5) (3, [a0, a1, a2, a3], [b0, b1, b2, b3]) = cond (a3 != b3) (cond (decide (a3 < b3)) (some (.inr (.inr (-1)))) (some (.inr (.inr 1)))) (some (.inl (((3 : Nat) : Int) - 1, [a0, a1, a2, a3], [b0, b1, b2, b3]))) := cmp_step (j + 5) (i := 3) (by decide)
  have s2 : dec_cmp.l2.once (j + 5) (((3 : Nat) : Int) - 1, [a0, a1, a2, a3], [b0, b1, b2, b3]) = cond (a2 != b2) (cond (decide (a2 < b2)) (some (.inr (.inr (-1)))) (some (.inr (.inr 1)))) (some (.inl (((2 : Nat) : Int) - 1, [a0, a1, a2, a3], [b0, b1, b2, b3]))) := cmp_step (j + 5) (i := 2) (by decide)
  have s1 : dec_cmp.l2.once (j + 5) (((2 : Nat) : Int) - 1, [a0, a1, a2, a3], [b0, b1, b2, b3]) = cond (a1 != b1) (cond (decide (a1 < b1)) (some (.inr (.inr (-1)))) (some (.inr (.inr 1)))) (some (.inl (((1 : Nat) : Int) - 1, [a0, a1, a2, a3], [b0, b1, b2, b3]))) := cmp_step (j + 5) (i := 1) (by decide)
  have s0 : dec_cmp.l2.once (j + 5) (((1 : Nat) : Int) - 1, [a0, a1, a2, a3], [b0, b1, b2, b3]) = cond (a0 != b0) (cond (decide (a0 < b0)) (some (.inr (.inr (-1)))) (some (.inr (.inr 1)))) (some (.inl (((0 : Nat) : Int) - 1, [a0, a1, a2, a3], [b0, b1, b2, b3]))) := cmp_step (j + 5) (i := 0) (by decide)
  have s : dec_cmp.l2.once (j + 5) (((0 : Nat) : Int) - 1, [a0, a1, a2, a3], [b0, b1, b2, b3]) = some (.inr (.inl ())) := by unfold dec_cmp.l2.once; rfl
  have way : ∀ {a b : Int} {n : Nat} {u v : (Int × List Int × List Int)}, dec_cmp.l2.once (j + 5) u = cond (a != b) (cond (decide (a < b)) (some (.inr (.inr (-1)))) (some (.inr (.inr 1)))) (some (.inl v)) → iter (dec_cmp.l2.once (j + 5)) (n + 1) u = if a < b then some (.inr (-1)) else if a = b then iter (dec_cmp.l2.once (j + 5)) n v else some (.inr 1) := by
    intro a b n u v h
    by_cases he : a = b
    · subst he
      rw [bne_self_eq_false, cond_false] at h
      rw [iter_step h, if_neg (by omega), if_pos rfl]
    · rw [show (a != b) = true by simp [he], cond_true] at h
      by_cases hlt : a < b
      · rw [ct hlt] at h
        rw [iter_stop h, if_pos hlt]
      · rw [cf hlt] at h
        rw [iter_stop h, if_neg hlt, if_neg he]
  rw [way (n := j + 4) s3, way (n := j + 3) s2, way (n := j + 2) s1, way (n := j + 1) s0, iter_stop s]
  by_cases g3 : a3 < b3
  · rw [if_pos g3, if_pos (by omega)]; rfl
  rw [if_neg g3]
  by_cases e3 : a3 = b3
  · rw [if_pos e3]
    by_cases g2 : a2 < b2
    · rw [if_pos g2, if_pos (by omega)]; rfl
    rw [if_neg g2]
    by_cases e2 : a2 = b2
    · rw [if_pos e2]
      by_cases g1 : a1 < b1
      · rw [if_pos g1, if_pos (by omega)]; rfl
      rw [if_neg g1]
      by_cases e1 : a1 = b1
      · rw [if_pos e1]
        by_cases g0 : a0 < b0
        · rw [if_pos g0, if_pos (by omega)]; rfl
        rw [if_neg g0]
        by_cases e0 : a0 = b0
        · rw [if_pos e0, if_neg (by omega), if_pos (by omega)]; rfl
        · rw [if_neg e0, if_neg (by omega), if_neg (by omega)]; rfl
      · rw [if_neg e1, if_neg (by omega), if_neg (by omega)]; rfl
    · rw [if_neg e2, if_neg (by omega), if_neg (by omega)]; rfl
  · rw [if_neg e3, if_neg (by omega), if_neg (by omega)]; rfl
theorem ten9 {a : Nat} (h : a ≤ 9) : (10 : Nat) ^ a ≤ 1000000000 := Nat.le_trans (Nat.pow_le_pow_right (by decide) h) (by decide)
theorem mx (s t : Nat) : (if (t : Int) > (s : Int) then (t : Int) else (s : Int)) = ((max s t : Nat) : Int) := by split <;> omega
theorem Add_DV {k : Nat} (hk : 60 < k) {i j : Int} {s t : Nat} (hi : Sm i) (hj : Sm j) (hs : s ≤ 9) (ht : t ≤ 9) : dec_Add.f k (DV i s) (DV j t) = some (mkD (i * 10 ^ (max s t - s) + j * 10 ^ (max s t - t)) (max s t)) := by
  have r1 : dec_Right.f k ⟨decide (i < 0), ((w2 i.natAbs).1, (w2 i.natAbs).2), (s : Int)⟩ = some true := Right_DV hk hi hs
  have r2 : dec_Right.f k ⟨decide (j < 0), ((w2 j.natAbs).1, (w2 j.natAbs).2), (t : Int)⟩ = some true := Right_DV hk hj ht
  obtain ⟨x, x1, x2, x3⟩ := wide_eq hk (decide (i < 0)) (Sm_w2 hi) (s := s) (t := max s t) (by omega) (by omega) (by omega)
  obtain ⟨y, y1, y2, y3⟩ := wide_eq hk (decide (j < 0)) (Sm_w2 hj) (s := t) (t := max s t) (by omega) (by omega) (by omega)
  have x1' : dec_wide.f k ⟨decide (i < 0), ((w2 i.natAbs).1, (w2 i.natAbs).2), (s : Int)⟩ ((max s t : Nat) : Int) = some x := x1
  have y1' : dec_wide.f k ⟨decide (j < 0), ((w2 j.natAbs).1, (w2 j.natAbs).2), (t : Int)⟩ ((max s t : Nat) : Int) = some y := y1
  rw [N2_w2] at x3 y3
  have p1 := ten9 (show max s t - s ≤ 9 by omega)
  have p2 := ten9 (show max s t - t ≤ 9 by omega)
  have q1 : (i.natAbs * 10 ^ (max s t - s) : Nat) ≤ 1000000000000000000000000000000 * 1000000000 := Nat.mul_le_mul (by unfold Sm at hi; omega) p1
  have q2 : (j.natAbs * 10 ^ (max s t - t) : Nat) ≤ 1000000000000000000000000000000 * 1000000000 := Nat.mul_le_mul (by unfold Sm at hj; omega) p2
  have cx : N4 x = ((i.natAbs * 10 ^ (max s t - s) : Nat) : Int) := by rw [x3, Int.natCast_mul, Int.natCast_pow]; rfl
  have cy : N4 y = ((j.natAbs * 10 ^ (max s t - t) : Nat) : Int) := by rw [y3, Int.natCast_mul, Int.natCast_pow]; rfl
  have vx : i * 10 ^ (max s t - s) = if i < 0 then -(N4 x) else N4 x := by
    rw [x3]
    by_cases h : i < 0
    · rw [if_pos h, show ((i.natAbs : Nat) : Int) = -i by omega, Int.neg_mul, Int.neg_neg]
    · rw [if_neg h, show ((i.natAbs : Nat) : Int) = i by omega]
  have vy : j * 10 ^ (max s t - t) = if j < 0 then -(N4 y) else N4 y := by
    rw [y3]
    by_cases h : j < 0
    · rw [if_pos h, show ((j.natAbs : Nat) : Int) = -j by omega, Int.neg_mul, Int.neg_neg]
    · rw [if_neg h, show ((j.natAbs : Nat) : Int) = j by omega]
  rw [vx, vy]
  generalize i.natAbs * 10 ^ (max s t - s) = M at *
  generalize j.natAbs * 10 ^ (max s t - t) = N at *
  clear vx vy x3 y3 p1 p2
  unfold dec_Add.f DV
  dsimp only
  rw [r1, Option.bind_some, Bool.not_true, cond_false, r2, Option.bind_some, Bool.not_true, Option.bind_some]
  dsimp only
  rw [cond_false, mx, x1', Option.bind_some, y1', Option.bind_some]
  by_cases hi0 : i < 0
  · rw [if_pos hi0, decide_eq_true hi0]
    by_cases hj0 : j < 0
    · rw [if_pos hj0, decide_eq_true hj0, show ((true == true) : Bool) = true from rfl, cond_true]
      obtain ⟨z, z1, z2, z3⟩ := plus4 k x2 y2 (by omega) (by omega)
      have z1' : dec_plus.f k (x.1, x.2.1, x.2.2.1, x.2.2.2) (y.1, y.2.1, y.2.2.1, y.2.2.2) = some z := z1
      have m : dec_made.f k true (z.1, z.2.1, z.2.2.1, z.2.2.2) ((max s t : Nat) : Int) = _ := made_eq hk true z2 (max s t)
      rw [z1', Option.bind_some, m, Option.bind_some, if_pos rfl, z3, show -(N4 x) + -(N4 y) = -(N4 x + N4 y) by omega]
    · rw [if_neg hj0, decide_eq_false hj0, show ((true == false) : Bool) = false from rfl, cond_false]
      have c : dec_cmp.f k (x.1, x.2.1, x.2.2.1, x.2.2.2) (y.1, y.2.1, y.2.2.1, y.2.2.2) = _ := cmp4 (k := k) (by omega) x2 y2
      rw [c, Option.bind_some]
      by_cases hlt : N4 x < N4 y
      · rw [if_pos hlt, cf (by omega)]
        obtain ⟨z, z1, z2, z3⟩ := less4 k y2 x2 (by omega)
        have z1' : dec_less.f k (y.1, y.2.1, y.2.2.1, y.2.2.2) (x.1, x.2.1, x.2.2.1, x.2.2.2) = some z := z1
        have m : dec_made.f k false (z.1, z.2.1, z.2.2.1, z.2.2.2) ((max s t : Nat) : Int) = _ := made_eq hk false z2 (max s t)
        rw [z1', Option.bind_some, m, Option.bind_some, if_neg (by decide), z3, show -(N4 x) + N4 y = N4 y - N4 x by omega]
      · rw [if_neg hlt, ct (by split <;> decide)]
        obtain ⟨z, z1, z2, z3⟩ := less4 k x2 y2 (by omega)
        have z1' : dec_less.f k (x.1, x.2.1, x.2.2.1, x.2.2.2) (y.1, y.2.1, y.2.2.1, y.2.2.2) = some z := z1
        have m : dec_made.f k true (z.1, z.2.1, z.2.2.1, z.2.2.2) ((max s t : Nat) : Int) = _ := made_eq hk true z2 (max s t)
        rw [z1', Option.bind_some, m, Option.bind_some, if_pos rfl, z3, show -(N4 x) + N4 y = -(N4 x - N4 y) by omega]
  · rw [if_neg hi0, decide_eq_false hi0]
    by_cases hj0 : j < 0
    · rw [if_pos hj0, decide_eq_true hj0, show ((false == true) : Bool) = false from rfl, cond_false]
      have c : dec_cmp.f k (x.1, x.2.1, x.2.2.1, x.2.2.2) (y.1, y.2.1, y.2.2.1, y.2.2.2) = _ := cmp4 (k := k) (by omega) x2 y2
      rw [c, Option.bind_some]
      by_cases hlt : N4 x < N4 y
      · rw [if_pos hlt, cf (by omega)]
        obtain ⟨z, z1, z2, z3⟩ := less4 k y2 x2 (by omega)
        have z1' : dec_less.f k (y.1, y.2.1, y.2.2.1, y.2.2.2) (x.1, x.2.1, x.2.2.1, x.2.2.2) = some z := z1
        have m : dec_made.f k true (z.1, z.2.1, z.2.2.1, z.2.2.2) ((max s t : Nat) : Int) = _ := made_eq hk true z2 (max s t)
        rw [z1', Option.bind_some, m, Option.bind_some, if_pos rfl, z3, show N4 x + -(N4 y) = -(N4 y - N4 x) by omega]
      · rw [if_neg hlt, ct (by split <;> decide)]
        obtain ⟨z, z1, z2, z3⟩ := less4 k x2 y2 (by omega)
        have z1' : dec_less.f k (x.1, x.2.1, x.2.2.1, x.2.2.2) (y.1, y.2.1, y.2.2.1, y.2.2.2) = some z := z1
        have m : dec_made.f k false (z.1, z.2.1, z.2.2.1, z.2.2.2) ((max s t : Nat) : Int) = _ := made_eq hk false z2 (max s t)
        rw [z1', Option.bind_some, m, Option.bind_some, if_neg (by decide), z3, show N4 x + -(N4 y) = N4 x - N4 y by omega]
    · rw [if_neg hj0, decide_eq_false hj0, show ((false == false) : Bool) = true from rfl, cond_true]
      obtain ⟨z, z1, z2, z3⟩ := plus4 k x2 y2 (by omega) (by omega)
      have z1' : dec_plus.f k (x.1, x.2.1, x.2.2.1, x.2.2.2) (y.1, y.2.1, y.2.2.1, y.2.2.2) = some z := z1
      have m : dec_made.f k false (z.1, z.2.1, z.2.2.1, z.2.2.2) ((max s t : Nat) : Int) = _ := made_eq hk false z2 (max s t)
      rw [z1', Option.bind_some, m, Option.bind_some, if_neg (by decide), z3]
end Go.Proofs.Ytgfbcclfajcjnaa.Pure
namespace Go.Proofs.Ytgfbcclfajcjnaa.Pure
set_option linter.unusedVariables false
set_option linter.unusedSimpArgs false
open Go Go.Ev Go.Lm Go.Pu Go.Dg
theorem Words2_eq {k : Nat} (hk : 602 < k) {n : Nat} (hn : n < 10 ^ 200) : ∃ z b, pyxref1_Words2.f k (dig n) = some (z, b) ∧ W2 z ∧ (b = true ↔ n < 340282366920938463463374607431768211456) ∧ (b = true → N2 z = (n : Int)) ∧ (b = false → z = (0, 0)) := by
  unfold pyxref1_Words2.f
  rw [radix_eq (by omega), Option.bind_some, DivNat_eq hk hn (by omega) (by omega), Option.bind_some, Option.bind_some]
  dsimp only
  rw [CmpNat_eq (by omega) (by omega) (by omega), Option.bind_some]
  by_cases h : n / 18446744073709551616 < 18446744073709551616
  · rw [if_pos h, show decide ((-1 : Int) ≥ 0) = false from rfl, cond_false, short_eq hk (by omega), Option.bind_some, short_eq hk h, Option.bind_some]
    refine ⟨_, _, rfl, ⟨⟨by dsimp only; omega, by dsimp only; omega⟩, by dsimp only; omega, by dsimp only; omega⟩, ⟨(fun _ => by omega), fun _ => rfl⟩, fun _ => ?_, (fun h => by cases h)⟩
    unfold N2
    dsimp only
    omega
  · rw [if_neg h]
    rw [show decide ((if n / 18446744073709551616 = 18446744073709551616 then (0 : Int) else 1) ≥ 0) = true by split <;> rfl, cond_true]
    exact ⟨_, _, rfl, W20, ⟨(fun h => by cases h), (fun h' => by omega)⟩, (fun h => by cases h), fun _ => rfl⟩
theorem len30 (n : Nat) : (dig n).length ≤ 30 ↔ n < 1000000000000000000000000000000 := by
  constructor
  · intro h
    have h1 := dig_lt n
    have h2 : (10 : Nat) ^ (dig n).length ≤ 10 ^ 30 := Nat.pow_le_pow_right (by decide) h
    have h3 : (10 : Nat) ^ 30 = 1000000000000000000000000000000 := by decide
    omega
  · intro h
    exact dig_len (m := 30) (by rw [show (10 : Nat) ^ 30 = 1000000000000000000000000000000 by decide]; omega)
theorem len0 (n : Nat) : (dig n).length = 0 ↔ n = 0 := by
  constructor
  · intro h
    by_cases h0 : n = 0
    · exact h0
    · rw [dig_pos h0] at h; cases h
  · rintro rfl; rw [dig_0]; rfl
theorem RRight_eq {k : Nat} (hk : 602 < k) {d : Sapi_Dec} (hw : W2 d.f_C) : pyxref1_RightDec.f k d = dec_Right.f k d := by
  unfold pyxref1_RightDec.f dec_Right.f
  have hb := N2_bd hw
  have hn : N2 d.f_C = ((N2 d.f_C).toNat : Int) := by omega
  have e1 : dec_small.f k (d.f_C.1, d.f_C.2) = some (decide (N2 d.f_C < 1000000000000000000000000000000)) := small_all (by omega) hw
  have e2 : dec_nought.f k (d.f_C.1, d.f_C.2) = some (decide (N2 d.f_C = 0)) := nought_eq k hw
  have e3 : pyxref1_Nat2.f k (d.f_C.1, d.f_C.2) = some (dig (N2 d.f_C).toNat) := Nat2_eq hk hw hn
  have l1 := len30 (N2 d.f_C).toNat
  have l2 := len0 (N2 d.f_C).toNat
  rw [e1, e2, e3, Option.bind_some, Option.bind_some, Option.bind_some]
  have c1 : decide (((dig (N2 d.f_C).toNat).length : Int) ≤ 30) = decide (N2 d.f_C < 1000000000000000000000000000000) := by
    rw [decide_eq_decide]; omega
  have c2 : (((dig (N2 d.f_C).toNat).length : Int) == 0) = decide (N2 d.f_C = 0) := by
    rw [Bool.eq_iff_iff, beq_iff_eq, decide_eq_true_iff]; omega
  rw [c1, c2]
theorem Make_eq {k : Nat} (hk : 602 < k) (neg : Bool) {n : Nat} (hn : n < 10 ^ 200) {s : Nat} (hs : s ≤ 9) : pyxref1_Make.f k neg (dig n) (s : Int) = some (mkD (if neg then -(n : Int) else n) s) := by
  unfold pyxref1_Make.f mkD
  have l1 := len30 n
  have l2 := len0 n
  have hna : (if neg = true then -(n : Int) else n).natAbs = n := by split <;> omega
  rw [hna]
  by_cases h : n < 1000000000000000000000000000000
  · rw [cf (by omega), cf (by omega), Option.bind_some]
    dsimp only
    rw [cf (by omega), if_pos h]
    obtain ⟨z, b, z1, z2, z3, z4, z5⟩ := Words2_eq hk hn
    rw [z1, Option.bind_some]
    have hz : z = w2 n := w2_of z2 (z4 (z3.2 (by omega)))
    unfold DV
    rw [hna, hz]
    cases neg
    · rw [cond_false]
      refine congrArg some ?_
      rw [if_neg (by decide), decide_eq_false (by omega)]
    · rw [cond_true]
      refine congrArg some ?_
      rw [if_pos rfl]
      have : decide (((dig n).length : Int) > 0) = decide (-(n : Int) < 0) := by rw [decide_eq_decide]; omega
      rw [this]
  · rw [ct (by omega), Option.bind_some, cond_true, if_neg h]
    rfl
def cl (s : Int) : Nat := (max 0 (min s 9)).toNat
theorem cl_le (s : Int) : cl s ≤ 9 := by unfold cl; omega
theorem ROf_DV {k : Nat} (hk : 602 < k) {n : Int} (h : -9223372036854775808 ≤ n ∧ n < 9223372036854775808) (s : Int) : pyxref1_Of.f k n s = some (DV n (cl s)) := by
  have e : pyxref1_Within.f k s 0 9 = some ((cl s : Nat) : Int) := by
    unfold pyxref1_Within.f cl
    refine congrArg some ?_
    by_cases h9 : s < 9
    · rw [if_pos h9]; split <;> omega
    · rw [if_neg h9, if_pos (by omega)]; omega
  unfold pyxref1_Of.f
  have hw : (n.natAbs : Nat) < 10 ^ 200 := by omega
  have hs : ∀ b : Bool, b = decide (n < 0) → (pyxref1_Word.f k ((n.natAbs : Nat) : Int)).bind (fun t9 => ((pyxref1_Within.f k s 0 9).bind fun t10 => ((pyxref1_Make.f k b t9 t10).bind fun t11 => (some (⟨t11.1.f_Neg, (t11.1.f_C.1, t11.1.f_C.2), t11.1.f_Scale⟩ : Sapi_Dec))))) = some (DV n (cl s)) := by
    rintro _ rfl
    rw [Word_eq (by omega) (by omega), Option.bind_some, e, Option.bind_some, Make_eq hk _ hw (cl_le s), Option.bind_some]
    have : (if decide (n < 0) = true then -((n.natAbs : Nat) : Int) else ((n.natAbs : Nat) : Int)) = n := by
      by_cases hn : n < 0
      · rw [decide_eq_true hn, if_pos rfl]; omega
      · rw [decide_eq_false hn, if_neg (by decide)]; omega
    rw [this]
    unfold mkD
    rw [if_pos (by omega)]
  by_cases hn : n < 0
  · rw [ct hn, Option.bind_some]
    dsimp only
    rw [wrap64, wrap64, show (0 - n % 18446744073709551616) % 18446744073709551616 = ((n.natAbs : Nat) : Int) by omega]
    exact hs _ rfl
  · rw [cf hn, Option.bind_some]
    dsimp only
    rw [wrap64, show n % 18446744073709551616 = ((n.natAbs : Nat) : Int) by omega]
    exact hs _ rfl
end Go.Proofs.Ytgfbcclfajcjnaa.Pure
namespace Go.Proofs.Ytgfbcclfajcjnaa.Pure
set_option linter.unusedVariables false
set_option linter.unusedSimpArgs false
open Go Go.Ev Go.Lm Go.Pu Go.Dg
theorem RNeg_DV {k : Nat} (hk : 602 < k) {i : Int} {s : Nat} (hi : Sm i) (hs : s ≤ 9) : pyxref1_Neg.f k (DV i s) = some (DV (-i) s) := by
  unfold pyxref1_Neg.f
  have h : pyxref1_RightDec.f k ⟨(DV i s).f_Neg, ((DV i s).f_C.1, (DV i s).f_C.2), (DV i s).f_Scale⟩ = some true := (RRight_eq hk (d := DV i s) (Sm_w2 hi)).trans (Right_DV (by omega) hi hs)
  have e2 : (((DV i s).f_C.1 == 0) && ((DV i s).f_C.2 == 0)) = decide (N2 (w2 i.natAbs) = 0) := Option.some.inj (nought_eq k (Sm_w2 hi))
  rw [h, Option.bind_some, Bool.not_true, cond_false, e2, N2_w2]
  unfold DV
  dsimp only
  by_cases h1 : i < 0
  · rw [decide_eq_true h1, Bool.not_true, cond_false, decide_eq_false (show ¬ (-i < 0) by omega), Int.natAbs_neg]
  · rw [decide_eq_false h1, Bool.not_false, cond_true, Int.natAbs_neg]
    by_cases h0 : i = 0
    · subst h0; rfl
    · rw [decide_eq_false (show ¬ ((i.natAbs : Int) = 0) by omega), decide_eq_true (show -i < 0 by omega)]; rfl
end Go.Proofs.Ytgfbcclfajcjnaa.Pure
namespace Go.Proofs.Ytgfbcclfajcjnaa.Pure
set_option linter.unusedVariables false
set_option linter.unusedSimpArgs false
open Go Go.Ev Go.Lm Go.Pu Go.Dg
def val (d : Sapi_Dec) : Int := if d.f_Neg then -(N2 d.f_C) else N2 d.f_C
theorem val_DV (v : Int) (s : Nat) : val (DV v s) = v := by
  unfold val DV
  dsimp only
  rw [N2_w2]
  by_cases h : v < 0
  · rw [decide_eq_true h, if_pos rfl]; omega
  · rw [decide_eq_false h, if_neg (by decide)]; omega
def sgn (v : Int) : Int := if v = 0 then 0 else if v < 0 then -1 else 1
theorem sgn_beq (v : Int) : (sgn v == 0) = decide (v = 0) := by
  unfold sgn
  by_cases h : v = 0
  · rw [if_pos h, decide_eq_true h]; rfl
  · rw [if_neg h, decide_eq_false h]; split <;> rfl
end Go.Proofs.Ytgfbcclfajcjnaa.Pure
namespace Go.Proofs.Ytgfbcclfajcjnaa.Pure
set_option linter.unusedVariables false
set_option linter.unusedSimpArgs false
open Go Go.Ev Go.Lm Go.Pu Go.Dg
noncomputable section
theorem bof {α β : Type} {o : Option α} {v : α} {f : α → Option β} {r : Option β} (h : o = some v) (h' : f v = r) : o.bind f = r := by rw [h]; exact h'
theorem bexv {α β : Type} {X : Option α} {v : α} {G : α → Option β} {P : β → Prop} (h : X = some v) (h' : ∃ r, G v = some r ∧ P r) : ∃ r, X.bind G = some r ∧ P r := by
  rw [h]; exact h'
theorem bex {α β : Type} {X : Option α} {G : α → Option β} {P : β → Prop} (Q : α → Prop) (h : ∃ v, X = some v ∧ Q v) (h' : ∀ v, Q v → ∃ r, G v = some r ∧ P r) : ∃ r, X.bind G = some r ∧ P r := by
  obtain ⟨v, h1, h2⟩ := h
  rw [h1]
  exact h' v h2
theorem dOf_DV (k : Nat) {n : Int} (h : -9223372036854775808 ≤ n ∧ n < 9223372036854775808) (s : Int) : dec_Of.f k n s = some (DV n (cl s)) := by
  have e : (if (if (9 : Int) < s then 9 else s) > 0 then (if (9 : Int) < s then 9 else s) else 0) = ((cl s : Nat) : Int) := by
    unfold cl
    by_cases h9 : (9 : Int) < s
    · rw [if_pos h9, if_pos (by omega)]; omega
    · rw [if_neg h9]; split <;> omega
  have hw : w2 n.natAbs = (((n.natAbs : Nat) : Int), 0) := by
    unfold w2
    rw [Nat.mod_eq_of_lt (by omega), Nat.div_eq_of_lt (by omega)]
    rfl
  unfold dec_Of.f DV
  rw [hw]
  by_cases hn : n < 0
  · rw [ct hn, Option.bind_some]
    dsimp only
    rw [wrap64, wrap64, show (0 - n % 18446744073709551616) % 18446744073709551616 = ((n.natAbs : Nat) : Int) by omega, Of_eq, Option.bind_some, e]
  · rw [cf hn, Option.bind_some]
    dsimp only
    rw [wrap64, show n % 18446744073709551616 = ((n.natAbs : Nat) : Int) by omega, Of_eq, Option.bind_some, e]
abbrev Tr := List ((Int × Int) × Sapi_Dec)
abbrev Ms := List (Int × Tr)
def Wn (d : Sapi_Dec) : Prop := ∃ v : Int, d = DV v 2 ∧ v.natAbs < 1000000000000
def WT (t : Tr) : Prop := ∀ q ∈ t, Wn q.2
def WM (M : Ms) : Prop := ∀ p ∈ M, WT p.2
def amt (t : Tr) (key : Int × Int) : Int := match mget (keq_a2_i64 key) t with
  | some d => val d
  | none => 0
def gT (M : Ms) (i : Int) : Tr := (mget (keq_i64 i) M).getD []
def oA (M : Ms) (i j : Int) : Int := amt (gT M i) (3, j + 1)
def oL (M : Ms) (i j : Int) : Int := amt (gT M j) (6, i + 1)
theorem mget_mem {α β : Type} {eq : α → Bool} : ∀ {l : List (α × β)} {v : β}, mget eq l = some v → ∃ p ∈ l, p.2 = v ∧ eq p.1 = true
  | [], v, h => by cases h
  | p :: r, v, h => by
    unfold mget at h
    cases hb : eq p.1 with
    | true => rw [hb] at h; cases h; exact ⟨p, List.mem_cons_self, rfl, hb⟩
    | false =>
      rw [hb] at h
      obtain ⟨q, h1, h2⟩ := mget_mem (l := r) h
      exact ⟨q, List.mem_cons_of_mem _ h1, h2⟩
theorem WM.at {M : Ms} (h : WM M) (i : Int) : WT (gT M i) := by
  unfold gT
  cases hg : mget (keq_i64 i) M with
  | none => exact fun q hq => by cases hq
  | some t =>
    obtain ⟨p, h1, h2, _⟩ := mget_mem hg
    exact h2 ▸ h p h1
theorem WT.amt {t : Tr} (h : WT t) (key : Int × Int) : (amt t key).natAbs < 1000000000000 ∧ ∀ d, mget (keq_a2_i64 key) t = some d → d = DV (amt t key) 2 := by
  unfold Pure.amt
  cases hg : mget (keq_a2_i64 key) t with
  | none => exact ⟨by decide, fun d hd => by cases hd⟩
  | some d =>
    obtain ⟨p, h1, h2, _⟩ := mget_mem hg
    obtain ⟨v, h3, h4⟩ := h p h1
    rw [h2] at h3
    rw [h3]
    simp only [val_DV]
    exact ⟨h4, fun d hd => by cases hd; rfl⟩
theorem sum_eq (k : Nat) {t : Tr} (h : WT t) {a w : Int} (hw : -4611686018427387904 ≤ w ∧ w < 4611686018427387904) : inter_sum.f k t a w = some (DV (amt t (a, w + 1)) 2) := by
  unfold inter_sum.f
  rw [wrapi (by omega)]
  obtain ⟨h1, h2⟩ := h.amt (a, w + 1)
  rw [Option.bind_some, Option.bind_some]
  cases hg : mget (keq_a2_i64 (a, w + 1)) t with
  | none =>
    have ho : dec_Of.f k 0 2 = some (DV 0 2) := dOf_DV k (n := 0) (by omega) 2
    simp only [Option.isSome_none, Bool.not_false, cond_true, ho, Option.bind_some]
    have : amt t (a, w + 1) = 0 := by unfold Pure.amt; rw [hg]
    rw [this]
  | some d =>
    have := h2 d hg
    simp only [Option.isSome_some, Bool.not_true, cond_false, Option.getD_some]
    rw [this]
def Sml (i : Int) : Prop := -4611686018427387904 ≤ i ∧ i < 4611686018427387904
theorem Owed_eq (k : Nat) {M : Ms} (h : WM M) {i j : Int} (hi : Sml i) (hj : Sml j) : inter_Owed.f k M ⟨i, j⟩ = some (DV (oA M i j) 2, DV (oL M i j) 2) := by
  unfold inter_Owed.f
  rw [Option.bind_some]
  refine bof (sum_eq k (h.at i) (a := 3) hj) ?_
  rw [Option.bind_some]
  exact bof (sum_eq k (h.at j) (a := 6) hi) rfl
theorem oA_lt {M : Ms} (h : WM M) (i j : Int) : (oA M i j).natAbs < 1000000000000 := ((h.at i).amt _).1
theorem oL_lt {M : Ms} (h : WM M) (i j : Int) : (oL M i j).natAbs < 1000000000000 := ((h.at j).amt _).1
theorem Add2 {k : Nat} (hk : 60 < k) {a b : Int} (ha : a.natAbs < 1000000000000) (hb : b.natAbs < 1000000000000) : dec_Add.f k (DV a 2) (DV b 2) = some (DV (a + b) 2, 0) := by
  rw [Add_DV hk (show Sm a by unfold Sm; omega) (show Sm b by unfold Sm; omega) (by decide) (by decide)]
  unfold mkD
  simp only [Nat.max_self, Nat.sub_self, Int.pow_zero, Int.mul_one]
  rw [if_pos (by omega)]
theorem Sgn2 {k : Nat} (hk : 60 < k) {a : Int} (ha : a.natAbs < 10000000000000) : dec_Sign.f k (DV a 2) = some (sgn a) := by
  rw [Sign_DV hk (show Sm a by unfold Sm; omega) (by decide)]
  rfl
theorem sgn_bne (v : Int) : (sgn v != 0) = decide (v ≠ 0) := by
  unfold bne
  rw [sgn_beq]
  simp
def evn (M : Ms) (i j : Int) : Bool := decide (oA M i j + oL M i j = 0)
def som (M : Ms) (i j : Int) : Bool := decide (oA M i j ≠ 0) || decide (oL M i j ≠ 0)
def rowP (so : Int → Int → Bool) (i : Int) (L : List Int) : List Sinter_Pair := (L.filter fun j => decide (i ≠ j) && so i j).map fun j => ⟨i, j⟩
def allP (so : Int → Int → Bool) (L E : List Int) : List Sinter_Pair := L.flatMap fun i => rowP so i E
theorem rowP_snoc (so : Int → Int → Bool) (i j : Int) (L : List Int) : rowP so i (L ++ [j]) = rowP so i L ++ (cond (decide (i ≠ j) && so i j) [⟨i, j⟩] []) := by
  unfold rowP
  rw [List.filter_append, List.map_append]
  congr 1
  cases h : decide (i ≠ j) && so i j with
  | true => rw [List.filter_cons, if_pos h]; rfl
  | false => rw [List.filter_cons, if_neg (by rw [h]; decide)]; rfl
theorem take_getD {α : Type} {l : List α} {i : Nat} (d : α) (h : i < l.length) : l.take (i + 1) = l.take i ++ [l.getD i d] := by
  rw [List.take_add_one, List.getElem?_eq_getElem h, List.getD_eq_getElem?_getD, List.getElem?_eq_getElem h]
  rfl
theorem rowP_len (so : Int → Int → Bool) (i : Int) (L : List Int) : (rowP so i L).length ≤ L.length := by
  unfold rowP
  rw [List.length_map]
  exact List.length_filter_le _ _
def mat (M : Ms) (i j : Int) : Bool := evn M i j && som M i j
theorem okl {n : Nat} (h : n < 1000000) : okLen n 16 = true := by
  unfold okLen
  exact decide_eq_true (by omega)
theorem m7_eq {k : Nat} (hk : 60 < k) {M : Ms} (h : WM M) (out : List Sinter_Pair) (l3 l5 : List Int) (x5 x6 : Int) {i : Int} (hi : Sml i) {E : List Int} (hE : ∀ e ∈ E, Sml e) (hl : out.length + E.length < 1000000) (hlk : E.length < k) :
    iter (inter_pairs_c26.l7.once k) k (M, out, l3, i, l5, x5, x6, E, (E.length : Int), 0) = some (M, out ++ rowP (mat M) i E, l3, l5, x5, x6) := by
  have := iter_seq (once := inter_pairs_c26.l7.once k) (fun t => (M, out ++ rowP (mat M) i (E.take t), l3, i, l5, x5, x6, E, (E.length : Int), (t : Int))) E.length (fun t ht => ?_) (M, out ++ rowP (mat M) i E, l3, l5, x5, x6) ?_ k 0 (Nat.zero_le _) (by omega)
  · have e0 : rowP (mat M) i (List.take 0 E) = [] := by rw [List.take_zero]; rfl
    rw [e0, List.append_nil] at this
    exact this
  · have hto : Sml (E.getD t 0) := by
      rw [List.getD_eq_getElem?_getD, List.getElem?_eq_getElem ht]
      exact hE _ (List.getElem_mem ht)
    have b1 := oA_lt h i (E.getD t 0)
    have b2 := oL_lt h i (E.getD t 0)
    have hlen : (out ++ rowP (mat M) i (E.take t)).length < 1000000 - 1 := by
      rw [List.length_append]
      have := rowP_len (mat M) i (E.take t)
      rw [List.length_take] at this
      omega
    unfold inter_pairs_c26.l7.once
    dsimp only
    rw [ct (by omega), inb_t (by omega) (by omega), cond_true, show (((t : Nat) : Int)).toNat = t from rfl]
    refine bof (Owed_eq k h hi hto) ?_
    refine bof (Add2 hk b1 b2) ?_
    dsimp only
    rw [take_getD 0 ht, rowP_snoc, ← List.append_assoc]
    have s0 := Sgn2 hk (a := oA M i (E.getD t 0) + oL M i (E.getD t 0)) (by omega)
    have s1 := Sgn2 hk (a := oA M i (E.getD t 0)) (by omega)
    have s2 := Sgn2 hk (a := oL M i (E.getD t 0)) (by omega)
    have e1 : mat M i (E.getD t 0) = (decide (oA M i (E.getD t 0) + oL M i (E.getD t 0) = 0) && (decide (oA M i (E.getD t 0) ≠ 0) || decide (oL M i (E.getD t 0) ≠ 0))) := rfl
    rw [e1]
    generalize E.getD t 0 = j at *
    generalize oA M i j = a at *
    generalize oL M i j = b at *
    rw [show ((0 : Int) == 0) = true from rfl, cond_true]
    refine bof (bof s0 rfl) ?_
    dsimp only
    rw [sgn_beq]
    by_cases hij : i = j
    · subst hij
      rw [show (i != i) = false by simp, cond_false, Option.bind_some, show decide (i ≠ i) = false by simp, Bool.false_and]
      dsimp only
      rw [cond_false, cond_false, List.append_nil, wrapi (by omega)]
      rfl
    · rw [show (i != j) = true by simpa using hij, cond_true, show decide (i ≠ j) = true by simpa using hij, Bool.true_and]
      have fin : ∀ b : Bool, (cond b (cond (okLen (List.length (out ++ rowP (mat M) i (E.take t)) + List.length [(⟨i, j⟩ : Sinter_Pair)]) 16) (some (Sum.inl (β := List (Int × List ((Int × Int) × Sapi_Dec)) × List Sinter_Pair × List Int × List Int × Int × Int) (M, (out ++ rowP (mat M) i (E.take t)) ++ [(⟨i, j⟩ : Sinter_Pair)], l3, i, l5, x5, x6, E, (E.length : Int), IntKind.wrap .i64 ((t : Int) + 1)))) none) (some (Sum.inl (M, out ++ rowP (mat M) i (E.take t), l3, i, l5, x5, x6, E, (E.length : Int), IntKind.wrap .i64 ((t : Int) + 1))))) =
          some (.inl (M, (out ++ rowP (mat M) i (E.take t)) ++ cond b [(⟨i, j⟩ : Sinter_Pair)] [], l3, i, l5, x5, x6, E, (E.length : Int), ((t + 1 : Nat) : Int))) := fun b => by
        rw [wrapi (by omega), okl (by simp only [List.length_cons, List.length_nil]; omega)]
        cases b with
        | true => rfl
        | false => rw [cond_false, cond_false, List.append_nil]; rfl
      rw [Option.bind_assoc]
      refine bof s1 ?_
      rw [sgn_bne]
      by_cases ha : a = 0
      · rw [cf (by simpa using ha), Option.bind_assoc]
        refine bof s2 ?_
        rw [Option.bind_assoc, sgn_bne]
        have e2 : inter_Matched_1.f k (decide (a + b = 0)) (decide (b ≠ 0)) = some (decide (a + b = 0) && decide (b ≠ 0)) := by
          unfold inter_Matched_1.f
          cases decide (a + b = 0) <;> rfl
        refine bof e2 ?_
        rw [show decide (a ≠ 0) = false by simpa using ha, Bool.false_or]
        exact fin _
      · rw [ct (by simpa using ha), Option.bind_assoc]
        have e2 : inter_Matched_1.f k (decide (a + b = 0)) true = some (decide (a + b = 0) && true) := by
          unfold inter_Matched_1.f
          cases decide (a + b = 0) <;> rfl
        refine bof e2 ?_
        rw [show decide (a ≠ 0) = true by simpa using ha, Bool.true_or]
        exact fin _
  · unfold inter_pairs_c26.l7.once
    dsimp only
    rw [cf (by omega), List.take_length]
theorem allP_snoc (so : Int → Int → Bool) (L E : List Int) (i : Int) : allP so (L ++ [i]) E = allP so L E ++ rowP so i E := by
  unfold allP
  rw [List.flatMap_append, List.flatMap_cons, List.flatMap_nil, List.append_nil]
theorem allP_len (so : Int → Int → Bool) (L E : List Int) : (allP so L E).length ≤ L.length * E.length := by
  unfold allP
  induction L with
  | nil => simp
  | cons i L ih =>
    rw [List.flatMap_cons, List.length_append, List.length_cons, Nat.succ_mul]
    have := rowP_len so i E
    omega
theorem clip_eq (k : Nat) (l : List Sinter_Pair) : slices_Clip_inter_Pair.f k l = some l := by
  unfold slices_Clip_inter_Pair.f
  have hin : inS 0 (l.length : Int) l.length = true := by
    unfold inS
    simp
  rw [decide_eq_true rfl, hin, Bool.and_self, cond_true, Int.toNat_natCast, List.take_length]
def entsOf (M : Ms) : List Int := srt_i64 (List.map (fun p => p.1) M)
def Ents (M : Ms) : Prop := (∀ e ∈ entsOf M, Sml e) ∧ (entsOf M).length ≤ 100 ∧ M.length ≤ 100
theorem m4_eq {k : Nat} (hk : 200 < k) {M : Ms} (h : WM M) {E : List Int} (hE : ∀ e ∈ E, Sml e) (hl : E.length ≤ 100) :
    iter (inter_pairs_c26.l4.once k) k (M, [], E, E, (E.length : Int), 0) = some (allP (mat M) E E) := by
  have := iter_seq (once := inter_pairs_c26.l4.once k) (fun t => (M, allP (mat M) (E.take t) E, E, E, (E.length : Int), (t : Int))) E.length (fun t ht => ?_) (allP (mat M) E E) ?_ k 0 (Nat.zero_le _) (by omega)
  · exact this
  · have hto : Sml (E.getD t 0) := by
      rw [List.getD_eq_getElem?_getD, List.getElem?_eq_getElem ht]
      exact hE _ (List.getElem_mem ht)
    have hb := allP_len (mat M) (E.take t) E
    have hb2 : (E.take t).length * E.length ≤ 100 * 100 := Nat.mul_le_mul (by rw [List.length_take]; omega) hl
    unfold inter_pairs_c26.l4.once
    dsimp only
    rw [ct (by omega), inb_t (by omega) (by omega), cond_true, show (((t : Nat) : Int)).toNat = t from rfl]
    refine bof (m7_eq (by omega) h _ E E _ _ hto hE (by omega) (by omega)) ?_
    dsimp only
    rw [take_getD 0 ht, allP_snoc, wrapi (by omega)]
    rfl
  · unfold inter_pairs_c26.l4.once
    dsimp only
    rw [cf (by omega), List.take_length]
theorem Matched_eq {k : Nat} (hk : 200 < k) {M : Ms} (h : WM M) (hE : Ents M) : inter_Matched.f k M = some (allP (mat M) (entsOf M) (entsOf M)) := by
  unfold inter_Matched.f inter_pairs_c26.f
  rw [show okLen (List.length (List.map (fun p => p.1) M)) 8 = true by unfold okLen; rw [List.length_map]; exact decide_eq_true (by have := hE.2.2; omega), cond_true]
  refine bof (v := allP (mat M) (entsOf M) (entsOf M)) ?_ rfl
  refine bof (m4_eq hk h hE.1 hE.2.1) ?_
  exact bof (clip_eq k _) rfl
end
end Go.Proofs.Ytgfbcclfajcjnaa.Pure
namespace Go.Proofs.Ytgfbcclfajcjnaa.Pure
set_option linter.unusedVariables false
set_option linter.unusedSimpArgs false
open Go Go.Ev Go.Lm Go.Pu Go.Dg
noncomputable section
abbrev LC := List Spyxref11_Cell
abbrev Om := List (Int × Nat)
def st4 (l : List Int) (who t : Int) (I : Nat → Bool) (om : Om) (ar : List Tr) := (l, who, t, false, false, false, false, false, false, false, false, ([] : LC), ([] : LC), ([] : LC), ([] : LC), ([] : LC), ([] : LC), ([] : LC), ([] : LC), I 0, I 1, I 2, I 3, I 4, I 5, I 6, I 7, ([] : LC), ([] : LC), ([] : LC), ([] : LC), ([] : LC), ([] : LC), ([] : LC), ([] : LC), om, ar)
def y4 (l : List Int) (I : Nat → Bool) (om : Om) (ar : List Tr) := (l, false, false, false, false, false, false, false, false, ([] : LC), ([] : LC), ([] : LC), ([] : LC), ([] : LC), ([] : LC), ([] : LC), ([] : LC), I 0, I 1, I 2, I 3, I 4, I 5, I 6, I 7, ([] : LC), ([] : LC), ([] : LC), ([] : LC), ([] : LC), ([] : LC), ([] : LC), ([] : LC), om, ar)
def st10 (l : List Int) (i : Int) (I : Nat → Bool) (om : Om) (ar : List Tr) := (l, i, false, false, false, false, false, false, false, false, ([] : LC), ([] : LC), ([] : LC), ([] : LC), ([] : LC), ([] : LC), ([] : LC), ([] : LC), I 0, I 1, I 2, I 3, I 4, I 5, I 6, I 7, ([] : LC), ([] : LC), ([] : LC), ([] : LC), ([] : LC), ([] : LC), ([] : LC), ([] : LC), om, ar)
def w10 (l : List Int) (i : Int) (g : Bool) (I : Nat → Bool) (om : Om) (ar : List Tr) := (l, i, g, false, false, false, false, false, false, false, false, ([] : LC), ([] : LC), ([] : LC), ([] : LC), ([] : LC), ([] : LC), ([] : LC), ([] : LC), I 0, I 1, I 2, I 3, I 4, I 5, I 6, I 7, ([] : LC), ([] : LC), ([] : LC), ([] : LC), ([] : LC), ([] : LC), ([] : LC), ([] : LC), om, ar)
def u10 (l : List Int) (i n a b : Int) (I : Nat → Bool) (om : Om) (d : Sapi_Dec) (ar : List Tr) := (l, i, n, a, b, false, false, false, false, false, false, false, false, ([] : LC), ([] : LC), ([] : LC), ([] : LC), ([] : LC), ([] : LC), ([] : LC), ([] : LC), I 0, I 1, I 2, I 3, I 4, I 5, I 6, I 7, ([] : LC), ([] : LC), ([] : LC), ([] : LC), ([] : LC), ([] : LC), ([] : LC), ([] : LC), om, d.f_Neg, d.f_C.1, d.f_C.2, d.f_Scale, ar)
def v10 (l : List Int) (i a : Int) (j : Option Nat) (g : Bool) (I : Nat → Bool) (om : Om) (d : Sapi_Dec) (ar : List Tr) := (l, i, a, j, g, false, false, false, false, false, false, false, false, ([] : LC), ([] : LC), ([] : LC), ([] : LC), ([] : LC), ([] : LC), ([] : LC), ([] : LC), I 0, I 1, I 2, I 3, I 4, I 5, I 6, I 7, ([] : LC), ([] : LC), ([] : LC), ([] : LC), ([] : LC), ([] : LC), ([] : LC), ([] : LC), om, d.f_Neg, d.f_C.1, d.f_C.2, d.f_Scale, ar)
def y10 (I : Nat → Bool) (om : Om) (ar : List Tr) := (false, false, false, false, false, false, false, false, ([] : LC), ([] : LC), ([] : LC), ([] : LC), ([] : LC), ([] : LC), ([] : LC), ([] : LC), I 0, I 1, I 2, I 3, I 4, I 5, I 6, I 7, ([] : LC), ([] : LC), ([] : LC), ([] : LC), ([] : LC), ([] : LC), ([] : LC), ([] : LC), om, ar)
def st25 (t : Int) (I : Nat → Bool) (T : Nat → LC) (om : Om) (ar : List Tr) := (t, false, false, false, false, false, false, false, false, ([] : LC), ([] : LC), ([] : LC), ([] : LC), ([] : LC), ([] : LC), ([] : LC), ([] : LC), I 0, I 1, I 2, I 3, I 4, I 5, I 6, I 7, T 0, T 1, T 2, T 3, T 4, T 5, T 6, T 7, om, ar)
def st28 (t a : Int) (I : Nat → Bool) (T : Nat → LC) (om : Om) (ar : List Tr) := (t, a, false, false, false, false, false, false, false, false, ([] : LC), ([] : LC), ([] : LC), ([] : LC), ([] : LC), ([] : LC), ([] : LC), ([] : LC), I 0, I 1, I 2, I 3, I 4, I 5, I 6, I 7, T 0, T 1, T 2, T 3, T 4, T 5, T 6, T 7, om, ar)
def st31 (t a w : Int) (I : Nat → Bool) (T : Nat → LC) (om : Om) (ar : List Tr) := (t, a, w, false, false, false, false, false, false, false, false, ([] : LC), ([] : LC), ([] : LC), ([] : LC), ([] : LC), ([] : LC), ([] : LC), ([] : LC), I 0, I 1, I 2, I 3, I 4, I 5, I 6, I 7, T 0, T 1, T 2, T 3, T 4, T 5, T 6, T 7, om, ar)
def y25 (I : Nat → Bool) (T : Nat → LC) (om : Om) (ar : List Tr) := (false, false, false, false, false, false, false, false, ([] : LC), ([] : LC), ([] : LC), ([] : LC), ([] : LC), ([] : LC), ([] : LC), ([] : LC), I 0, I 1, I 2, I 3, I 4, I 5, I 6, I 7, T 0, T 1, T 2, T 3, T 4, T 5, T 6, T 7, om, ar)
def bitW (v : Int) (j : Nat) : Bool := Int.tmod (Int.fdiv v (2 ^ j)) 2 == 1
def keysW (v : Int) (t : Nat) : List Int := ((List.range t).filter (bitW v)).map (fun (j : Nat) => (j : Int))
def inW (v : Int) (t : Nat) (j : Nat) : Bool := decide (j < t) && bitW v j
theorem keysW_succ (v : Int) (t : Nat) : keysW v (t + 1) = keysW v t ++ cond (bitW v t) [(t : Int)] [] := by
  unfold keysW
  rw [List.range_succ, List.filter_append, List.map_append]
  congr 1
  cases h : bitW v t with
  | true => rw [List.filter_cons, if_pos h]; rfl
  | false => rw [List.filter_cons, if_neg (by rw [h]; decide)]; rfl
theorem keysW_lt {v : Int} {t : Nat} {e : Int} (h : e ∈ keysW v t) : 0 ≤ e ∧ e < t ∧ bitW v e.toNat = true := by
  unfold keysW at h
  obtain ⟨j, hj, rfl⟩ := List.mem_map.1 h
  obtain ⟨h1, h2⟩ := List.mem_filter.1 hj
  have := List.mem_range.1 h1
  exact ⟨by omega, by omega, h2⟩
theorem keysW_len (v : Int) (t : Nat) : (keysW v t).length ≤ t := by
  unfold keysW
  rw [List.length_map]
  have := List.length_filter_le (bitW v) (List.range t)
  rw [List.length_range] at this
  exact this
theorem inW_succ (v : Int) (t j : Nat) : inW v (t + 1) j = cond (Nat.beq t j && bitW v t) true (inW v t j) := by
  unfold inW
  by_cases h : t = j
  · subst h
    rw [Nat.beq_refl, Bool.true_and, decide_eq_true (show t < t + 1 by omega), decide_eq_false (show ¬ t < t by omega), Bool.true_and, Bool.false_and]
    cases bitW v t <;> rfl
  · rw [show Nat.beq t j = false from Bool.eq_false_iff.2 fun h2 => h (Nat.eq_of_beq_eq_true h2), Bool.false_and, cond_false]
    congr 1
    exact decide_eq_decide.2 (by omega)
theorem mput_new' {α β : Type} {eq : α → Bool} {k : α} {v : β} : ∀ {l : List (α × β)}, (∀ p ∈ l, eq p.1 = false) → mput eq k v l = l ++ [(k, v)]
  | [], _ => rfl
  | p :: r, h => by
    unfold mput
    rw [h p List.mem_cons_self, cond_false, mput_new' fun q hq => h q (List.mem_cons_of_mem _ hq)]
    rfl
def omW (v : Int) (t : Nat) : Om := (keysW v t).zipIdx
def arW (v : Int) (t : Nat) : List Tr := List.replicate (keysW v t).length []
theorem t4_eq {k : Nat} (hk : 10 < k) (l : List Int) (who : Int) : iter (pyxlaw18_trials.l4.once k) k (st4 l who 0 (fun _ => false) [] []) = some (y4 l (inW (pick who 32) 5) (omW (pick who 32) 5) (arW (pick who 32) 5)) := by
  have hp := Pick_eq k who (m := 32) (by decide) (by decide)
  generalize pick who 32 = v at *
  have := iter_seq (once := pyxlaw18_trials.l4.once k) (fun t => st4 l who (t : Int) (inW v t) (omW v t) (arW v t)) 5 (fun t ht => ?_) (y4 l (inW v 5) (omW v 5) (arW v 5)) ?_ k 0 (Nat.zero_le _) (by omega)
  · have e : inW v 0 = fun _ => false := by funext j; unfold inW; rw [decide_eq_false (by omega), Bool.false_and]
    rw [e] at this
    exact this
  · unfold pyxlaw18_trials.l4.once st4
    dsimp only
    rw [ct (by omega)]
    refine bof (v := st4 l who (t : Int) (inW v (t + 1)) (omW v (t + 1)) (arW v (t + 1))) ?_ (by unfold st4; dsimp only; rw [wrapi (by omega)]; rfl)
    refine bof hp ?_
    rw [wrapu (by omega), cf (by omega), show min (Int.toNat (t : Int)) 64 = t by omega]
    have hb : (Int.tmod (Int.fdiv v (2 ^ t)) 2 == 1) = bitW v t := rfl
    rw [hb]
    have hno : ∀ p ∈ omW v t, keq_i64 (t : Int) p.1 = false := fun p hp' => by
      have h1 : p.1 ∈ keysW v t := by
        have := List.mem_zipIdx hp'
        obtain ⟨_, _, h3⟩ := this
        rw [h3]
        exact List.getElem_mem _
      have := keysW_lt h1
      unfold keq_i64
      exact beq_false_of_ne (by omega)
    have hI : ∀ j, inW v (t + 1) j = cond (Nat.beq t j && bitW v t) true (inW v t j) := inW_succ v t
    have hk : keysW v (t + 1) = keysW v t ++ cond (bitW v t) [(t : Int)] [] := keysW_succ v t
    unfold st4 omW arW
    simp only [hI, hk]
    unfold omW at hno
    cases hbt : bitW v t with
    | false => simp only [cond_false, Bool.and_false, List.append_nil]
    | true =>
      simp only [cond_true, Bool.and_true, Option.bind_some]
      rw [inb_t (by omega) (by omega), cond_true, blt_t (by omega), cond_true, mput_new' hno]
      rw [List.zipIdx_append, List.length_append, List.length_singleton, List.replicate_succ', Nat.zero_add, List.length_replicate]
      rfl
  · unfold pyxlaw18_trials.l4.once st4
    dsimp only
    rw [cf (by omega)]
    rfl
def KT (t : Tr) : Prop := ∀ q ∈ t, (q.1.1 = 3 ∨ q.1.1 = 6) ∧ 1 ≤ q.1.2 ∧ q.1.2 < 8
def GT (t : Tr) : Prop := WT t ∧ KT t
theorem mput_mem {α β : Type} {eq : α → Bool} {k : α} {v : β} : ∀ {l : List (α × β)} {q : α × β}, q ∈ mput eq k v l → q ∈ l ∨ q = (k, v) ∨ ∃ p ∈ l, q = (p.1, v)
  | [], q, h => by
    have h : q ∈ [(k, v)] := h
    simp at h
    exact .inr (.inl h)
  | p :: r, q, h => by
    unfold mput at h
    cases hb : eq p.1 with
    | true =>
      rw [hb, cond_true] at h
      rcases List.mem_cons.1 h with h | h
      · exact .inr (.inr ⟨p, List.mem_cons_self, h⟩)
      · exact .inl (List.mem_cons_of_mem _ h)
    | false =>
      rw [hb, cond_false] at h
      rcases List.mem_cons.1 h with h | h
      · exact .inl (h ▸ List.mem_cons_self)
      · rcases mput_mem (l := r) h with h | h | ⟨p', h1, h2⟩
        · exact .inl (List.mem_cons_of_mem _ h)
        · exact .inr (.inl h)
        · exact .inr (.inr ⟨p', List.mem_cons_of_mem _ h1, h2⟩)
theorem GT.put {t : Tr} (h : GT t) {a w : Int} (ha : a = 3 ∨ a = 6) (hw : 1 ≤ w ∧ w < 8) {d : Sapi_Dec} (hd : Wn d) {key : Int × Int} : GT (mput (keq_a2_i64 key) (a, w) d t) := by
  constructor
  · intro q hq
    rcases mput_mem hq with hq | rfl | ⟨p, hp, rfl⟩
    · exact h.1 q hq
    · exact hd
    · exact hd
  · intro q hq
    rcases mput_mem hq with hq | rfl | ⟨p, hp, rfl⟩
    · exact h.2 q hq
    · exact ⟨ha, hw⟩
    · exact h.2 p hp
theorem getD_GT {ar : List Tr} (h : ∀ t ∈ ar, GT t) (j : Nat) : GT (ar.getD j []) := by
  rw [List.getD_eq_getElem?_getD]
  cases hg : ar[j]? with
  | none =>
    show GT []
    exact ⟨fun q hq => (by cases hq), fun q hq => (by cases hq)⟩
  | some t => exact h t (List.mem_of_getElem? hg)
theorem set_GT {ar : List Tr} (h : ∀ t ∈ ar, GT t) (j : Nat) {t : Tr} (ht : GT t) : ∀ s ∈ ar.set j t, GT s := fun s hs => by
  rcases List.mem_or_eq_of_mem_set hs with h1 | h1
  · exact h s h1
  · exact h1 ▸ ht
def Gar (n : Nat) (ar : List Tr) : Prop := ar.length = n ∧ ∀ t ∈ ar, GT t
theorem Gar.put {n : Nat} {ar : List Tr} (h : Gar n ar) (j : Nat) {a w : Int} (ha : a = 3 ∨ a = 6) (hw : 1 ≤ w ∧ w < 8) {d : Sapi_Dec} (hd : Wn d) {key : Int × Int} : Gar n (ar.set j (mput (keq_a2_i64 key) (a, w) d (ar.getD j []))) :=
  ⟨by rw [List.length_set]; exact h.1, set_GT h.2 j ((getD_GT h.2 j).put ha hw hd)⟩
theorem Wn_of {v : Int} (h : v.natAbs < 1000000000000) : Wn (DV v 2) := ⟨v, rfl, h⟩
theorem Wn.neg {k : Nat} (hk : 602 < k) {d : Sapi_Dec} (h : Wn d) : ∃ d', pyxref1_Neg.f k d = some d' ∧ Wn d' := by
  obtain ⟨v, rfl, hv⟩ := h
  exact ⟨DV (-v) 2, RNeg_DV hk (by unfold Sm; omega) (by decide), -v, rfl, by omega⟩
theorem t10_step {k : Nat} (hk : 602 < k) {l : List Int} {i : Int} (h0 : 0 ≤ i) (h1 : i < 24) (h2 : i < l.length) (I : Nat → Bool) (om : Om) {n : Nat} {ar : List Tr} (hg : Gar n ar) :
    ∃ r, pyxlaw18_trials.l10.once k (st10 l i I om ar) = some r ∧ ∃ ar', r = .inl (st10 l (i + 1) I om ar') ∧ Gar n ar' := by
  unfold pyxlaw18_trials.l10.once st10
  dsimp only
  rw [ct h2]
  refine bexv (v := w10 l i true I om ar) (by unfold w10; rw [decide_eq_true h1]) ?_
  unfold w10
  dsimp only
  rw [cond_true]
  refine bex (fun y => ∃ ar', y = st10 l i I om ar' ∧ Gar n ar') ?_ ?_
  rotate_left
  · rintro y ⟨ar', rfl, hg'⟩
    refine ⟨_, rfl, ar', ?_, hg'⟩
    unfold st10
    dsimp only
    rw [wrapi (by omega)]
  · rw [inb_t h0 (by omega), cond_true]
    generalize List.getD l i.toNat 0 = z
    have pa := pick_bd z (m := 5) (by decide)
    refine bexv (Pick_eq k _ (m := 5) (by decide) (by decide)) ?_
    generalize pick z 5 = a at *
    have pb := pick_bd (IntKind.wrap .i64 (Int.tdiv z 5)) (m := 6) (by decide)
    refine bexv (Pick_eq k _ (m := 6) (by decide) (by decide)) ?_
    generalize pick (IntKind.wrap .i64 (Int.tdiv z 5)) 6 = b at *
    have pc := pick_bd (IntKind.wrap .i64 (Int.tdiv z 30)) (m := 4) (by decide)
    refine bexv (Pick_eq k _ (m := 4) (by decide) (by decide)) ?_
    generalize pick (IntKind.wrap .i64 (Int.tdiv z 30)) 4 = c at *
    rw [wrapi (show -9223372036854775808 ≤ 1 + c ∧ 1 + c < 9223372036854775808 by omega)]
    refine bexv (ROf_DV hk (n := 1 + c) (by omega) 2) ?_
    refine bexv (Pick_eq k _ (m := 9) (by decide) (by decide)) ?_
    refine bex (fun y => ∃ d, y = u10 l i z a b I om d ar ∧ Wn d) ?_ ?_
    · cases pick (IntKind.wrap .i64 (Int.tdiv z 120)) 9 == 8 with
      | true =>
        rw [cond_true]
        have pe := pick_bd z (m := 9000000) (by decide)
        refine bexv (Pick_eq k _ (m := 9000000) (by decide) (by decide)) ?_
        generalize pick z 9000000 = e at *
        rw [wrapi (show -9223372036854775808 ≤ e - 4000000 ∧ e - 4000000 < 9223372036854775808 by omega)]
        refine bexv (ROf_DV hk (n := e - 4000000) (by omega) 2) ?_
        exact ⟨_, rfl, _, rfl, Wn_of (by omega)⟩
      | false =>
        rw [cond_false]
        exact ⟨_, rfl, _, rfl, Wn_of (by omega)⟩
    rintro y ⟨d, rfl, hd⟩
    unfold u10
    dsimp only
    rw [Option.bind_some]
    refine bex (fun y => ∃ ar', y = u10 l i z a b I om d ar' ∧ Gar n ar') ?_ ?_
    · cases hm : mget (keq_i64 a) om with
      | none => exact ⟨_, rfl, ar, rfl, hg⟩
      | some j =>
        simp only [Option.isSome_some, cond_true, Option.bind_some]
        rw [wrapi (show -9223372036854775808 ≤ b + 1 ∧ b + 1 < 9223372036854775808 by omega)]
        exact ⟨_, rfl, _, rfl, hg.put j (.inl rfl) (by omega) hd⟩
    rintro y ⟨ar', rfl, hg'⟩
    unfold u10
    dsimp only
    rw [Option.bind_some]
    refine bex (fun y => ∃ g, y = v10 l i a (mget (keq_i64 b) om) g I om d ar' ∧ (g = true → (mget (keq_i64 b) om).isSome = true)) ?_ ?_
    · cases hm : mget (keq_i64 b) om with
      | none => exact ⟨_, rfl, false, rfl, fun h => by cases h⟩
      | some j =>
        simp only [Option.isSome_some, cond_true]
        refine bexv (Pick_eq k _ (m := 3) (by decide) (by decide)) ?_
        exact ⟨_, rfl, _, rfl, fun _ => by simp⟩
    rintro y ⟨g, rfl, hgs⟩
    unfold v10
    dsimp only
    cases g with
    | false => exact ⟨_, rfl, ar', rfl, hg'⟩
    | true =>
      rw [cond_true]
      obtain ⟨d', hd', hw'⟩ := hd.neg hk
      refine bexv hd' ?_
      obtain ⟨j, hj⟩ := Option.isSome_iff_exists.1 (hgs rfl)
      rw [hj, Option.bind_some, wrapi (show -9223372036854775808 ≤ a + 1 ∧ a + 1 < 9223372036854775808 by omega)]
      exact ⟨_, rfl, _, rfl, hg'.put j (.inr rfl) (by omega) hw'⟩
theorem t10_eq {k : Nat} (hk : 602 < k) (l : List Int) (I : Nat → Bool) (om : Om) {n : Nat} {ar : List Tr} (hg : Gar n ar) :
    ∃ y, iter (pyxlaw18_trials.l10.once k) k (st10 l 0 I om ar) = some y ∧ ∃ ar', y = y10 I om ar' ∧ Gar n ar' := by
  refine iter_rule (fun x => ∃ (i : Int) (ar' : List Tr), x = st10 l i I om ar' ∧ 0 ≤ i ∧ i ≤ 24 ∧ Gar n ar') (fun x => (24 - x.2.1).toNat) _ (fun x hx => ?_) k _ ⟨0, ar, rfl, by omega, by omega, hg⟩ (by unfold st10; dsimp only; omega)
  obtain ⟨i, ar', rfl, h0, h24, hg'⟩ := hx
  by_cases h1 : i < 24 ∧ i < l.length
  · obtain ⟨r, h3, ar2, rfl, hg2⟩ := t10_step hk h0 h1.1 h1.2 I om hg'
    exact .inl ⟨_, h3, ⟨i + 1, ar2, rfl, by omega, by omega, hg2⟩, by unfold st10; dsimp only; omega⟩
  · refine .inr ⟨y10 I om ar', ?_, ar', rfl, hg'⟩
    unfold pyxlaw18_trials.l10.once st10
    dsimp only
    refine bof (v := w10 l i false I om ar') ?_ rfl
    unfold w10
    by_cases h2 : i < (l.length : Int)
    · rw [ct h2, decide_eq_false (by omega)]
    · rw [cf h2]
end
end Go.Proofs.Ytgfbcclfajcjnaa.Pure
namespace Go.Proofs.Ytgfbcclfajcjnaa.Pure
set_option linter.unusedVariables false
set_option linter.unusedSimpArgs false
open Go Go.Ev Go.Lm Go.Pu Go.Dg
noncomputable section
def cellsOf (t : Tr) (a : Int) (n : Nat) : LC := (List.range n).filterMap fun (j : Nat) => (mget (keq_a2_i64 (a, (j : Int) + 1)) t).map fun d => (⟨(a, (j : Int) + 1), d⟩ : Spyxref11_Cell)
def updT (T : Nat → LC) (t : Nat) (c : LC) : Nat → LC := fun i => cond (Nat.beq i t) (T i ++ c) (T i)
theorem updT_self (T : Nat → LC) (t : Nat) (c : LC) : updT T t c t = T t ++ c := by unfold updT; rw [Nat.beq_refl, cond_true]
theorem cellsOf_len (t : Tr) (a : Int) (n : Nat) : (cellsOf t a n).length ≤ n := by
  unfold cellsOf
  have := List.length_filterMap_le (fun (j : Nat) => (mget (keq_a2_i64 (a, (j : Int) + 1)) t).map fun d => (⟨(a, (j : Int) + 1), d⟩ : Spyxref11_Cell)) (List.range n)
  rw [List.length_range] at this
  exact this
theorem cellsOf_some {t : Tr} {a : Int} {n : Nat} {d : Sapi_Dec} (h : mget (keq_a2_i64 (a, (n : Int) + 1)) t = some d) : cellsOf t a (n + 1) = cellsOf t a n ++ [⟨(a, (n : Int) + 1), d⟩] := by
  unfold cellsOf
  rw [List.range_succ, List.filterMap_append, List.filterMap_cons, h]
  rfl
theorem cellsOf_none {t : Tr} {a : Int} {n : Nat} (h : mget (keq_a2_i64 (a, (n : Int) + 1)) t = none) : cellsOf t a (n + 1) = cellsOf t a n := by
  unfold cellsOf
  rw [List.range_succ, List.filterMap_append, List.filterMap_cons, h]
  exact List.append_nil _
theorem updT_more (T : Nat → LC) (t : Nat) (c x : LC) : updT T t (c ++ x) = updT (updT T t c) t x := by
  funext i
  unfold updT
  cases Nat.beq i t with
  | true => simp only [cond_true, List.append_assoc]
  | false => rfl
def trOf (om : Om) (ar : List Tr) (t : Nat) : Tr := arAt ar (mget (keq_i64 (t : Int)) om)
theorem okl48 {n : Nat} (h : n < 1000) : okLen n 48 = true := by
  unfold okLen
  exact decide_eq_true (by omega)
theorem t31_step (k : Nat) {t : Nat} (ht : t < 5) (a : Int) {j : Nat} (hj : j < 7) (I : Nat → Bool) (T : Nat → LC) (om : Om) (ar : List Tr) (hT : (T t).length ≤ 100) :
    pyxlaw18_trials.l31.once k (st31 (t : Int) a ((j : Int) + 1) I (updT T t (cellsOf (trOf om ar t) a j)) om ar) = some (.inl (st31 (t : Int) a (((j + 1 : Nat) : Int) + 1) I (updT T t (cellsOf (trOf om ar t) a (j + 1))) om ar)) := by
  have hlen : (updT T t (cellsOf (trOf om ar t) a j) t).length < 1000 - 1 := by
    rw [updT_self, List.length_append]
    have := cellsOf_len (trOf om ar t) a j
    omega
  unfold pyxlaw18_trials.l31.once
  rw [show st31 (t : Int) a ((j : Int) + 1) I (updT T t (cellsOf (trOf om ar t) a j)) om ar = st31 (t : Int) a ((j : Int) + 1) I (updT T t (cellsOf (trOf om ar t) a j)) om ar from rfl]
  unfold st31
  dsimp only
  rw [ct (by omega)]
  refine bof (v := st31 (t : Int) a ((j : Int) + 1) I (updT T t (cellsOf (trOf om ar t) a (j + 1))) om ar) ?_ (by unfold st31; dsimp only; rw [wrapi (by omega)]; rfl)
  rw [Option.bind_some, Option.bind_some, Option.bind_some]
  have htr : arAt ar (mget (keq_i64 (t : Int)) om) = trOf om ar t := rfl
  rw [htr]
  cases hm : mget (keq_a2_i64 (a, (j : Int) + 1)) (trOf om ar t) with
  | none =>
    rw [cellsOf_none hm]
    rfl
  | some d =>
    rw [cellsOf_some hm, updT_more]
    simp only [Option.isSome_some, cond_true, Option.getD_some]
    generalize updT T t (cellsOf (trOf om ar t) a j) = S at *
    have hok : okLen ((S t).length + 1) 48 = true := okl48 (by omega)
    have h5 : t = 0 ∨ t = 1 ∨ t = 2 ∨ t = 3 ∨ t = 4 := by omega
    have key : ∀ {α : Type} {x : α}, cond (okLen ((S t).length + 1) 48) (some x) none = some x := fun {α x} => by rw [hok]; rfl
    rcases h5 with rfl | rfl | rfl | rfl | rfl <;> exact key
theorem t31_eq {k : Nat} (hk : 20 < k) {t : Nat} (ht : t < 5) (a : Int) (I : Nat → Bool) (T : Nat → LC) (om : Om) (ar : List Tr) (hT : (T t).length ≤ 100) :
    iter (pyxlaw18_trials.l31.once k) k (st31 (t : Int) a 1 I T om ar) = some (st28 (t : Int) a I (updT T t (cellsOf (trOf om ar t) a 7)) om ar) := by
  have := iter_seq (once := pyxlaw18_trials.l31.once k) (fun j => st31 (t : Int) a ((j : Int) + 1) I (updT T t (cellsOf (trOf om ar t) a j)) om ar) 7 (fun j hj => t31_step k ht a hj I T om ar hT) (st28 (t : Int) a I (updT T t (cellsOf (trOf om ar t) a 7)) om ar) ?_ k 0 (Nat.zero_le _) (by omega)
  · have e : updT T t (cellsOf (trOf om ar t) a 0) = T := by
      funext i
      show cond (Nat.beq i t) (T i ++ []) (T i) = T i
      rw [List.append_nil]
      cases Nat.beq i t <;> rfl
    rw [e] at this
    exact this
  · unfold pyxlaw18_trials.l31.once st31
    dsimp only
    rw [cf (by omega)]
    rfl
def allT (tr : Tr) : LC := cellsOf tr 3 7 ++ cellsOf tr 6 7
theorem t28_eq {k : Nat} (hk : 20 < k) {t : Nat} (ht : t < 5) (I : Nat → Bool) (T : Nat → LC) (om : Om) (ar : List Tr) (hT : (T t).length ≤ 50) :
    iter (pyxlaw18_trials.l28.once k) k (st28 (t : Int) 3 I T om ar) = some (st25 (t : Int) I (updT T t (allT (trOf om ar t))) om ar) := by
  have e3 := t31_eq hk ht 3 I T om ar (by omega)
  have e6 := t31_eq hk ht 6 I (updT T t (cellsOf (trOf om ar t) 3 7)) om ar (by
    rw [updT_self, List.length_append]
    have := cellsOf_len (trOf om ar t) 3 7
    omega)
  rw [← updT_more] at e6
  have := iter_seq (once := pyxlaw18_trials.l28.once k) (fun n => match n with
    | 0 => st28 (t : Int) 3 I T om ar
    | 1 => st28 (t : Int) 6 I (updT T t (cellsOf (trOf om ar t) 3 7)) om ar
    | _ => st28 (t : Int) 9 I (updT T t (allT (trOf om ar t))) om ar) 2 (fun n hn => ?_) (st25 (t : Int) I (updT T t (allT (trOf om ar t))) om ar) ?_ k 0 (Nat.zero_le _) (by omega)
  · exact this
  · have h2 : n = 0 ∨ n = 1 := by omega
    rcases h2 with rfl | rfl
    · show pyxlaw18_trials.l28.once k (st28 (t : Int) 3 I T om ar) = some (.inl (st28 (t : Int) 6 I (updT T t (cellsOf (trOf om ar t) 3 7)) om ar))
      exact (show (iter (pyxlaw18_trials.l31.once k) k (st31 (t : Int) 3 1 I T om ar)).bind _ = _ from bof e3 rfl)
    · show pyxlaw18_trials.l28.once k (st28 (t : Int) 6 I (updT T t (cellsOf (trOf om ar t) 3 7)) om ar) = some (.inl (st28 (t : Int) 9 I (updT T t (allT (trOf om ar t))) om ar))
      exact (show (iter (pyxlaw18_trials.l31.once k) k (st31 (t : Int) 6 1 I (updT T t (cellsOf (trOf om ar t) 3 7)) om ar)).bind _ = _ from bof e6 rfl)
  · rfl
def cT (om : Om) (ar : List Tr) (t : Nat) : Nat → LC := fun i => cond (decide (i < t)) (allT (trOf om ar i)) []
theorem cT_succ (om : Om) (ar : List Tr) (t : Nat) : updT (cT om ar t) t (allT (trOf om ar t)) = cT om ar (t + 1) := by
  funext i
  unfold updT cT
  by_cases h : i = t
  · subst h
    rw [Nat.beq_refl, cond_true, decide_eq_false (show ¬ i < i by omega), decide_eq_true (show i < i + 1 by omega)]
    rfl
  · rw [show Nat.beq i t = false from Bool.eq_false_iff.2 fun h2 => h (Nat.eq_of_beq_eq_true h2), cond_false]
    congr 1
    exact decide_eq_decide.2 (by omega)
theorem t25_eq {k : Nat} (hk : 20 < k) (I : Nat → Bool) (om : Om) (ar : List Tr) : iter (pyxlaw18_trials.l25.once k) k (st25 0 I (fun _ => []) om ar) = some (y25 I (cT om ar 5) om ar) := by
  have := iter_seq (once := pyxlaw18_trials.l25.once k) (fun t => st25 (t : Int) I (cT om ar t) om ar) 5 (fun t ht => ?_) (y25 I (cT om ar 5) om ar) ?_ k 0 (Nat.zero_le _) (by omega)
  · exact this
  · have hc : cT om ar t t = [] := by
      unfold cT
      rw [decide_eq_false (show ¬ t < t by omega), cond_false]
    have e := t28_eq hk ht I (cT om ar t) om ar (by rw [hc]; exact Nat.zero_le _)
    rw [cT_succ] at e
    unfold pyxlaw18_trials.l25.once st25
    dsimp only
    rw [ct (by omega)]
    refine bof e ?_
    unfold st25
    dsimp only
    rw [wrapi (by omega)]
    rfl
  · unfold pyxlaw18_trials.l25.once st25
    dsimp only
    rw [cf (by omega)]
    rfl
def resM (om : Om) (ar : List Tr) : Ms := om.map fun p => (p.1, ar.getD p.2 [])
def grpW (I : Nat → Bool) (T : Nat → LC) : Spyxref11_Group := ⟨[I 0, I 1, I 2, I 3, I 4, I 5, I 6, I 7], [T 0, T 1, T 2, T 3, T 4, T 5, T 6, T 7]⟩
theorem trials_eq {k : Nat} (hk : 602 < k) (l : List Int) (who : Int) : ∃ ar, Gar (keysW (pick who 32) 5).length ar ∧
    pyxlaw18_trials.f k l who = some (resM (omW (pick who 32) 5) ar, grpW (inW (pick who 32) 5) (cT (omW (pick who 32) 5) ar 5)) := by
  have h4 := t4_eq (k := k) (by omega) l who
  generalize pick who 32 = v at *
  obtain ⟨y, h10, ar, rfl, hg⟩ := t10_eq hk l (inW v 5) (omW v 5) (n := (keysW v 5).length) (ar := arW v 5) ⟨by unfold arW; rw [List.length_replicate], fun t ht => by
    unfold arW at ht
    rw [List.eq_of_mem_replicate ht]
    exact ⟨fun q hq => (by cases hq), fun q hq => (by cases hq)⟩⟩
  have h25 := t25_eq (k := k) (by omega) (inW v 5) (omW v 5) ar
  refine ⟨ar, hg, ?_⟩
  unfold pyxlaw18_trials.f
  refine bof (v := y4 l (inW v 5) (omW v 5) (arW v 5)) h4 ?_
  refine bof (v := y10 (inW v 5) (omW v 5) ar) h10 ?_
  exact bof (v := y25 (inW v 5) (cT (omW v 5) ar 5) (omW v 5) ar) h25 rfl
end
end Go.Proofs.Ytgfbcclfajcjnaa.Pure
namespace Go.Proofs.Ytgfbcclfajcjnaa.Pure
set_option linter.unusedVariables false
set_option linter.unusedSimpArgs false
open Go Go.Ev Go.Lm Go.Pu Go.Dg
noncomputable section
instance decP : DecidableEq Sinter_Pair := fun a b => decidable_of_iff (a.f_From = b.f_From ∧ a.f_To = b.f_To) ⟨fun h => by cases a; cases b; simp at h; simp [h], fun h => by cases h; exact ⟨rfl, rfl⟩⟩
theorem nd_fil {α : Type} {p : α → Bool} {l : List α} (h : l.Nodup) : (l.filter p).Nodup := List.Pairwise.sublist List.filter_sublist h
theorem nd_map {α β : Type} {f : α → β} (hf : ∀ a b, f a = f b → a = b) {l : List α} (h : l.Nodup) : (l.map f).Nodup := by
  unfold List.Nodup at *
  rw [List.pairwise_map]
  exact h.imp fun hne e => hne (hf _ _ e)
theorem mget_key {β : Type} {i : Int} : ∀ {l : List (Int × β)}, (mget (keq_i64 i) l).isSome = decide (i ∈ l.map (·.1))
  | [] => rfl
  | p :: r => by
    unfold mget
    by_cases h : i = p.1
    · rw [show keq_i64 i p.1 = true by unfold keq_i64; simpa using h, cond_true]
      simp [h]
    · rw [show keq_i64 i p.1 = false by unfold keq_i64; simpa using h, cond_false, mget_key]
      simp [h]
structure Fm (M : Ms) (K : List Int) : Prop where
  wm : WM M
  keys : M.map (·.1) = K
  ents : entsOf M = K
  lt : ∀ e ∈ K, 0 ≤ e ∧ e < 5
  nd : K.Nodup
  len : K.length ≤ 5
theorem keysW_srt : ∀ v : Fin 32, isrtZ (keysW (v.val : Int) 5) = keysW (v.val : Int) 5 := by decide +kernel
theorem keysW_nd (v : Int) (t : Nat) : (keysW v t).Nodup := by
  unfold keysW
  exact nd_map (fun (a b : Nat) h => by have h : (a : Int) = (b : Int) := h; omega) (nd_fil List.nodup_range)
theorem fm_res {v : Int} (hv : 0 ≤ v ∧ v < 32) {ar : List Tr} (hg : Gar (keysW v 5).length ar) : Fm (resM (omW v 5) ar) (keysW v 5) := by
  have hk : (resM (omW v 5) ar).map (·.1) = keysW v 5 := by
    unfold resM omW
    rw [List.map_map]
    exact List.zipIdx_map_fst 0 (keysW v 5)
  refine ⟨fun p hp => ?_, hk, ?_, fun e he => ?_, keysW_nd v 5, keysW_len v 5⟩
  · unfold resM at hp
    obtain ⟨q, _, rfl⟩ := List.mem_map.1 hp
    exact (getD_GT hg.2 q.2).1
  · unfold entsOf
    rw [show List.map (fun p => p.1) (resM (omW v 5) ar) = keysW v 5 from hk]
    have := keysW_srt ⟨v.toNat, by omega⟩
    rw [show (((⟨v.toNat, by omega⟩ : Fin 32).val : Nat) : Int) = v by show ((v.toNat : Nat) : Int) = v; omega] at this
    exact this
  · obtain ⟨h1, h2, _⟩ := keysW_lt he
    exact ⟨h1, h2⟩
theorem Fm.es {M : Ms} {K : List Int} (h : Fm M K) : Ents M := by
  refine ⟨fun e he => ?_, ?_, ?_⟩
  · rw [h.ents] at he
    have := h.lt e he
    exact ⟨by omega, by omega⟩
  · rw [h.ents]; have := h.len; omega
  · have := congrArg List.length h.keys
    rw [List.length_map] at this
    have := h.len
    omega
theorem Fm.mat {M : Ms} {K : List Int} (h : Fm M K) {k : Nat} (hk : 200 < k) : inter_Matched.f k M = some (allP (mat M) K K) := by
  rw [Matched_eq hk h.wm h.es, h.ents]
theorem Fm.is {M : Ms} {K : List Int} (h : Fm M K) (i : Int) : (mget (keq_i64 i) M).isSome = decide (i ∈ K) := by
  rw [mget_key, h.keys]
end
end Go.Proofs.Ytgfbcclfajcjnaa.Pure
namespace Go.Proofs.Ytgfbcclfajcjnaa.Pure
set_option linter.unusedVariables false
set_option linter.unusedSimpArgs false
open Go Go.Ev Go.Lm Go.Pu Go.Dg
noncomputable section
theorem knownI : pyxlaw18_known.f 1000 = some true := by decide +kernel
theorem rowP_fil {p : Int → Bool} {so : Int → Int → Bool} {i : Int} : ∀ L : List Int, rowP so i (L.filter p) = rowP (fun i j => p j && so i j) i L
  | [] => rfl
  | j :: L => by
    have ih := rowP_fil (p := p) (so := so) (i := i) L
    unfold rowP at ih ⊢
    rw [List.filter_cons]
    cases hp : p j with
    | true =>
      simp only [if_true, List.filter_cons, hp, Bool.true_and]
      split
      · rw [List.map_cons, List.map_cons, ih]
      · exact ih
    | false =>
      simp only [List.filter_cons, hp, Bool.false_and, Bool.and_false]
      simpa using ih
theorem allP_fil2 {p : Int → Bool} {so : Int → Int → Bool} {E : List Int} : ∀ L : List Int, allP so (L.filter p) (E.filter p) = (allP so L E).filter fun q => p q.f_From && p q.f_To
  | [] => rfl
  | i :: L => by
    have ih := allP_fil2 (p := p) (so := so) (E := E) L
    show allP so ((i :: L).filter p) (E.filter p) = (rowP so i E ++ allP so L E).filter _
    rw [List.filter_append, ← ih, List.filter_cons]
    have hr : (rowP so i E).filter (fun q => p q.f_From && p q.f_To) = cond (p i) (rowP so i (E.filter p)) [] := by
      rw [rowP_fil]
      unfold rowP
      rw [List.filter_map, List.filter_filter]
      cases hp : p i with
      | true =>
        rw [cond_true]
        congr 1
        refine List.filter_congr fun j _ => ?_
        show ((p i && p j) && (decide (i ≠ j) && so i j)) = (decide (i ≠ j) && (p j && so i j))
        rw [hp, Bool.true_and]
        cases decide (i ≠ j) <;> cases p j <;> cases so i j <;> rfl
      | false =>
        rw [cond_false, List.filter_eq_nil_iff.2 fun j _ => by
          show ¬ ((p i && p j) && _) = true
          rw [hp]
          simp]
        rfl
    rw [hr]
    cases hp : p i with
    | true => rfl
    | false => rfl
theorem mget_mem2 {β : Type} {i : Int} : ∀ {l : List (Int × β)} {v : β}, mget (keq_i64 i) l = some v → (i, v) ∈ l
  | [], v, h => by cases h
  | p :: r, v, h => by
    unfold mget at h
    by_cases e : i = p.1
    · rw [show keq_i64 i p.1 = true by unfold keq_i64; simpa using e] at h
      cases h
      exact e ▸ List.mem_cons_self
    · rw [show keq_i64 i p.1 = false by unfold keq_i64; simpa using e] at h
      exact List.mem_cons_of_mem _ (mget_mem2 (l := r) h)
theorem mem_mget {β : Type} {i : Int} : ∀ {l : List (Int × β)} {v : β}, (l.map (·.1)).Nodup → (i, v) ∈ l → mget (keq_i64 i) l = some v
  | [], v, _, h => by cases h
  | p :: r, v, hn, h => by
    rw [List.map_cons, List.nodup_cons] at hn
    unfold mget
    rcases List.mem_cons.1 h with h | h
    · subst h
      rw [show keq_i64 i i = true by unfold keq_i64; simp]
      rfl
    · have e : i ≠ p.1 := fun e => hn.1 (e ▸ List.mem_map.2 ⟨(i, v), h, rfl⟩)
      rw [show keq_i64 i p.1 = false by unfold keq_i64; simpa using e, cond_false]
      exact mem_mget hn.2 h
theorem mget_perm2 {β : Type} {i : Int} {l m : List (Int × β)} (hp : l.Perm m) (hm : (m.map (·.1)).Nodup) : mget (keq_i64 i) l = mget (keq_i64 i) m := by
  have hl : (l.map (·.1)).Nodup := (hp.map _).nodup_iff.2 hm
  cases h1 : mget (keq_i64 i) l with
  | some v => exact (mem_mget hm (hp.mem_iff.1 (mget_mem2 h1))).symm
  | none =>
    cases h2 : mget (keq_i64 i) m with
    | none => rfl
    | some v =>
      rw [mem_mget hl (hp.mem_iff.2 (mget_mem2 h2))] at h1
      cases h1
theorem mget_fil {β : Type} {p : Int → Bool} {i : Int} (hi : p i = true) : ∀ l : List (Int × β), mget (keq_i64 i) (l.filter fun e => p e.1) = mget (keq_i64 i) l
  | [] => rfl
  | q :: r => by
    have ih := mget_fil hi (i := i) r
    rw [List.filter_cons]
    by_cases e : i = q.1
    · rw [← e, if_pos hi]
      unfold mget
      rw [show keq_i64 i q.1 = true by unfold keq_i64; simpa using e]
      rfl
    · have e2 : keq_i64 i q.1 = false := by unfold keq_i64; simpa using e
      have e3 : mget (keq_i64 i) (q :: r) = mget (keq_i64 i) r := by
        show cond (keq_i64 i q.1) _ _ = _
        rw [e2, cond_false]
      rw [e3]
      split
      · show cond (keq_i64 i q.1) _ _ = _
        rw [e2, cond_false, ih]
      · exact ih
theorem more_walk (k : Nat) (g : Int) (M : Ms) : ∀ (σ acc : Ms), ((acc ++ σ).map (·.1)).Nodup →
    walkR (pyxlaw18_InterMore.r4.once k) σ (g, M, acc) = some (.inl (g, M, acc ++ σ.filter fun e => e.1 != g))
  | [], acc, _ => by
    show some _ = _
    rw [List.filter_nil, List.append_nil]
  | e :: σ, acc, hn => by
    have hn2 : ((acc ++ σ).map (·.1)).Nodup := by
      refine List.Pairwise.sublist ?_ hn
      exact (List.Sublist.append_left (List.sublist_cons_self e σ) acc).map _
    unfold walkR
    rw [List.filter_cons]
    cases hb : e.1 != g with
    | true =>
      refine bof (v := .inl (g, M, acc ++ [e])) ?_ ?_
      · unfold pyxlaw18_InterMore.r4.once
        dsimp only
        rw [hb, cond_true]
        refine congrArg (fun z => some (Sum.inl (g, M, z))) ?_
        rw [mput_new']
        intro q hq
        unfold keq_i64
        rw [List.map_append, List.map_cons, List.nodup_append] at hn
        have := hn.2.2 q.1 (List.mem_map.2 ⟨q, hq, rfl⟩) e.1 List.mem_cons_self
        exact beq_false_of_ne fun h => this h.symm
      · dsimp only
        rw [more_walk k g M σ (acc ++ [e]) (by rw [List.append_assoc]; exact hn), List.append_assoc]
        rfl
    | false =>
      refine bof (v := .inl (g, M, acc)) ?_ ?_
      · unfold pyxlaw18_InterMore.r4.once
        dsimp only
        rw [hb, cond_false]
      · dsimp only
        rw [more_walk k g M σ acc hn2]
        rfl
theorem keq_nodK {l : Ms} (h : (l.map (·.1)).Nodup) : nodK keq_i64 l = true := by
  rw [nodK_pw]
  unfold List.Nodup at h
  rw [List.pairwise_map] at h
  exact h.imp fun hne => by unfold keq_i64; exact beq_false_of_ne hne
theorem more_eq (k : Nat) (g : Int) {M : Ms} (hM : (M.map (·.1)).Nodup) : ∃ less : Ms, pyxlaw18_InterMore.r4.f k (g, M, []) = some (g, M, less) ∧ less.Perm (M.filter fun e => e.1 != g) := by
  have hw : ∀ σ : Ms, σ.Perm M → walkR (pyxlaw18_InterMore.r4.once k) σ (g, M, []) = some (.inl (g, M, σ.filter fun e => e.1 != g)) := fun σ hσ => by
    rw [more_walk k g M σ [] (by rw [List.nil_append]; exact (hσ.map _).nodup_iff.2 hM), List.nil_append]
  have hn : ((M.filter fun e => e.1 != g).map (·.1)).Nodup := List.Pairwise.sublist (List.filter_sublist.map _) hM
  obtain ⟨r, h1, h2⟩ := anyE_ex (Q := rgQ (X := Int × Ms × Ms) (YB := Empty) keq_i64 pyxlaw18_InterMore.r4.up) (es := M) (f := fun σ => walkR (pyxlaw18_InterMore.r4.once k) σ (g, M, [])) (r := .inl (g, M, M.filter fun e => e.1 != g))
    (fun σ hσ => ⟨_, hw σ hσ, .inl ⟨(g, M, []), _, _, rfl, rfl, hσ.filter _, keq_nodK hn⟩⟩)
  obtain ⟨r', h3, h4⟩ := h2 M (.refl _)
  rw [hw M (.refl _)] at h3
  cases h3
  rcases h4 with ⟨x, l', l, e1, e2, hp, _⟩ | ⟨y, _, _⟩
  · subst e2
    obtain ⟨x1, x2, x3⟩ := x
    unfold pyxlaw18_InterMore.r4.up at e1
    cases e1
    refine ⟨l, ?_, hp.symm⟩
    unfold pyxlaw18_InterMore.r4.f rngE
    exact congrArg (Option.map _) h1
  · exact y.elim
theorem more_srt : ∀ v : Fin 32, ∀ g : Fin 5, isrtZ ((keysW (v.val : Int) 5).filter fun e => e != (g.val : Int)) = (keysW (v.val : Int) 5).filter fun e => e != (g.val : Int) := by decide +kernel
theorem m11_eq {k : Nat} (g : Int) (less : Ms) (L : List Sinter_Pair) (hk : L.length < k) (hl : L.length < 1000) :
    iter (pyxlaw18_InterMore.l11.once k) k (g, less, [], L, (L.length : Int), 0) = some (less, L.filter (fun q => (q.f_From != g) && (q.f_To != g))) := by
  have := iter_seq (once := pyxlaw18_InterMore.l11.once k) (fun t => (g, less, (L.take t).filter (fun q => (q.f_From != g) && (q.f_To != g)), L, (L.length : Int), (t : Int))) L.length (fun t ht => ?_) (less, L.filter (fun q => (q.f_From != g) && (q.f_To != g))) ?_ k 0 (Nat.zero_le _) (by omega)
  · exact this
  · unfold pyxlaw18_InterMore.l11.once
    dsimp only
    rw [ct (by omega), inb_t (by omega) (by omega), cond_true, show (((t : Nat) : Int)).toNat = t from rfl, take_getD Sinter_Pair.zero ht, List.filter_append, List.filter_cons, List.filter_nil]
    have hb : ((L.take t).filter (fun q => (q.f_From != g) && (q.f_To != g))).length ≤ 1000 := by
      have := List.length_filter_le (fun q : Sinter_Pair => (q.f_From != g) && (q.f_To != g)) (L.take t)
      rw [List.length_take] at this
      omega
    generalize (L.take t).filter (fun q => (q.f_From != g) && (q.f_To != g)) = W at *
    generalize L.getD t Sinter_Pair.zero = q
    cases h1 : q.f_From != g with
    | false =>
      rw [cond_false, Option.bind_some]
      dsimp only
      rw [cond_false, wrapi (by omega), Bool.false_and, if_neg (by decide), List.append_nil]
      rfl
    | true =>
      rw [cond_true, Option.bind_some]
      dsimp only
      cases h2 : q.f_To != g with
      | false =>
        rw [cond_false, wrapi (by omega), Bool.true_and, if_neg (by decide), List.append_nil]
        rfl
      | true =>
        rw [cond_true, okl (by simp only [List.length_cons, List.length_nil]; omega), cond_true, wrapi (by omega), Bool.true_and, if_pos rfl]
        rfl
  · unfold pyxlaw18_InterMore.l11.once
    dsimp only
    rw [cf (by omega), List.take_length]
theorem m20_eq {k : Nat} (L : List Sinter_Pair) (hk : L.length < k) (hl : L.length < 1000) :
    iter (pyxlaw18_InterMore.l20.once k) k (L, L, (L.length : Int), 0) = some (.inl ()) := by
  have := iter_seq (once := pyxlaw18_InterMore.l20.once k) (fun t => (L, L, (L.length : Int), (t : Int))) L.length (fun t ht => ?_) (.inl ()) ?_ k 0 (Nat.zero_le _) (by omega)
  · exact this
  · unfold pyxlaw18_InterMore.l20.once
    dsimp only
    rw [ct (by omega), inb_t (by omega) (by omega), cond_true, cond_true, beq_self_eq_true, beq_self_eq_true, Bool.and_self, Bool.not_true, cond_false, wrapi (by omega)]
    rfl
  · unfold pyxlaw18_InterMore.l20.once
    dsimp only
    rw [cf (by omega)]
theorem InterMore (a0 : List Int) (w0 : a0.length ≤ 9223372036854775807 ∧ a0.length * 8 ≤ 140737488351232 ∧ ∀ z ∈ a0, (Lit.int .i64 z).wf = true) (a1 : Int) (w1 : (Lit.int .i64 a1).wf = true) (a2 : Int) (w2 : (Lit.int .i64 a2).wf = true) :
    ∃ k, pyxlaw18_InterMore.f k a0 a1 a2 = some true := by
  refine ⟨1000, ?_⟩
  obtain ⟨ar, hg, ht⟩ := trials_eq (k := 1000) (by decide) a0 a1
  have hv := pick_bd a1 (m := 32) (by decide)
  have hgb := pick_bd a2 (m := 5) (by decide)
  have hf := fm_res hv hg
  have hsr := more_srt ⟨(pick a1 32).toNat, by omega⟩ ⟨(pick a2 5).toNat, by omega⟩
  rw [show (((⟨(pick a1 32).toNat, by omega⟩ : Fin 32).val : Nat) : Int) = pick a1 32 by show (((pick a1 32).toNat : Nat) : Int) = _; omega,
    show (((⟨(pick a2 5).toNat, by omega⟩ : Fin 5).val : Nat) : Int) = pick a2 5 by show (((pick a2 5).toNat : Nat) : Int) = _; omega] at hsr
  have hpk := Pick_eq 1000 a2 (m := 5) (by decide) (by decide)
  generalize pick a2 5 = g at *
  generalize keysW (pick a1 32) 5 = K at *
  generalize hM : resM (omW (pick a1 32) 5) ar = M at hf ht
  have hnd : (M.map (·.1)).Nodup := by rw [hf.keys]; exact hf.nd
  obtain ⟨less, hless, hperm⟩ := more_eq 1000 g hnd
  have hndF : ((M.filter fun e => e.1 != g).map (·.1)).Nodup := List.Pairwise.sublist (List.filter_sublist.map _) hnd
  have hkF : (M.filter fun e => e.1 != g).map (·.1) = K.filter fun e => e != g := by
    rw [← hf.keys, List.filter_map]
    rfl
  have hents : entsOf less = K.filter fun e => e != g := by
    unfold entsOf
    show isrtZ (less.map fun p => p.1) = _
    rw [isrtZ_of_perm (hperm.map fun p => p.1), show (M.filter fun e => e.1 != g).map (fun p => p.1) = K.filter fun e => e != g from hkF]
    exact hsr
  have hwm : WM less := fun p hp => hf.wm p (List.mem_filter.1 (hperm.mem_iff.1 hp)).1
  have hll : less.length ≤ 5 := by
    have h1 := hperm.length_eq
    have h2 := List.length_filter_le (fun e : Int × Tr => e.1 != g) M
    have h3 := congrArg List.length hf.keys
    rw [List.length_map] at h3
    have := hf.len
    omega
  have hkl : (K.filter fun e => e != g).length ≤ 5 := Nat.le_trans (List.length_filter_le _ _) hf.len
  have hEn : Ents less := by
    refine ⟨fun e he => ?_, ?_, by omega⟩
    · rw [hents] at he
      have := hf.lt e (List.mem_filter.1 he).1
      exact ⟨by omega, by omega⟩
    · rw [hents]; omega
  have hgT : ∀ i : Int, (i != g) = true → gT less i = gT M i := fun i hi => by
    unfold gT
    rw [mget_perm2 hperm hndF, mget_fil (p := fun e => e != g) hi]
  have hso : allP (mat less) (K.filter fun e => e != g) (K.filter fun e => e != g) = allP (mat M) (K.filter fun e => e != g) (K.filter fun e => e != g) := by
    have hrow : ∀ i, (i != g) = true → rowP (mat less) i (K.filter fun e => e != g) = rowP (mat M) i (K.filter fun e => e != g) := fun i hi => by
      unfold rowP
      congr 1
      refine List.filter_congr fun j hj => ?_
      have hj := (List.mem_filter.1 hj).2
      congr 1
      unfold mat evn som oA oL
      rw [hgT i hi, hgT j hj]
    unfold allP
    rw [List.flatMap_def, List.flatMap_def]
    congr 1
    refine List.map_congr_left fun i hi => hrow i (List.mem_filter.1 hi).2
  have hal := allP_len (mat M) K K
  have hal2 : K.length * K.length ≤ 5 * 5 := Nat.mul_le_mul hf.len hf.len
  unfold pyxlaw18_InterMore.f
  refine bof ht ?_
  refine bof hpk ?_
  refine bof hless ?_
  dsimp only
  refine bof (hf.mat (by decide)) ?_
  refine bof (m11_eq g less _ (by omega) (by omega)) ?_
  dsimp only
  refine bof (Matched_eq (by decide) hwm hEn) ?_
  rw [hents, hso, allP_fil2 (p := fun e => e != g)]
  have hWl : ((allP (mat M) K K).filter fun q => (q.f_From != g) && (q.f_To != g)).length ≤ 25 := Nat.le_trans (List.length_filter_le _ _) (by omega)
  generalize (allP (mat M) K K).filter (fun q => (q.f_From != g) && (q.f_To != g)) = W at *
  rw [Option.bind_assoc]
  refine bof knownI ?_
  rw [Bool.not_true, cond_false, Option.bind_some]
  dsimp only
  rw [show ((W.length : Int) != (W.length : Int)) = false by simp, cond_false]
  exact bof (m20_eq W (by omega) (by omega)) rfl
end
end Go.Proofs.Ytgfbcclfajcjnaa.Pure
