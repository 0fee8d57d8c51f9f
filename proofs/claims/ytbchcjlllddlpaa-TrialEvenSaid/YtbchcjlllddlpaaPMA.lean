/- Plain laws: Pu, Lm, Dl, Dm, Dt, Dg, Ra, Rb, Dc, Rd, Re, Vl, Hl, En, Lb, Pe, Lr, Lt, Bk, Tz, Tp, Td, Te, Tf, Tg. No conditions but size. -/
import Derived.Test.YtbchcjlllddlpaaEvLaw
import Derived.Laws.BitsLemmas
import Derived.ChangeShapes
import Derived.Test.YtbchcjlllddlpaaFs
namespace Go.Pu
set_option linter.unusedVariables false
set_option linter.unusedSimpArgs false
open Go Go.Ev
theorem Zdd {X Y : Type} {once : X → Option (X ⊕ Y)} {n : Nat} {x x' : X} (h : once x = some (.inl x')) : iter once (n + 1) x = iter once n x' := by
 simp only [iter, h, Z0]
theorem Zbq {X Y : Type} {once : X → Option (X ⊕ Y)} {n : Nat} {x : X} {y : Y} (h : once x = some (.inr y)) : iter once (n + 1) x = some y := by
 simp only [iter, h, Z0]
theorem Zeb {X Y : Type} {once : X → Option (X ⊕ Y)} (Inv : X → Prop) (m : X → Nat) (Q : Y → Prop)
  (h : ∀ x, Inv x → (∃ x', once x = some (.inl x') ∧ Inv x' ∧ m x' < m x) ∨ ∃ y, once x = some (.inr y) ∧ Q y) :
  ∀ (n : Nat) (x : X), Inv x → m x < n → ∃ y, iter once n x = some y ∧ Q y := by
 intro n
 induction n with
 | zero => intro x _ h; omega
 | succ n ih =>
  intro x hx hm
  rcases h x hx with ⟨x', h1, h2, h3⟩ | ⟨y, h1, h2⟩
  ·rw [Zdd h1]
   exact ih x' h2 (by omega)
  ·exact ⟨y, Zbq h1, h2⟩
theorem Wnc {X Y : Type} {once : X → Option (X ⊕ Y)} (s : Nat → X) (N : Nat) (h : ∀ i, i < N → once (s i) = some (.inl (s (i + 1)))) (y : Y) (hy : once (s N) = some (.inr y)) :
  ∀ n i, i ≤ N → N - i < n → iter once n (s i) = some y := by
 intro n
 induction n with
 | zero => intro i _ h; omega
 | succ n ih =>
  intro i hi hn
  by_cases e : i = N
  ·subst e; exact Zbq hy
  ·rw [Zdd (h i (by omega))]
   exact ih (i + 1) (by omega) (by omega)
theorem ct {α : Type} {p : Prop} [Decidable p] (h : p) {a b : α} : cond (decide p) a b = a := by rw [decide_eq_true h]; rfl
theorem cf {α : Type} {p : Prop} [Decidable p] (h : ¬ p) {a b : α} : cond (decide p) a b = b := by rw [decide_eq_false h]; rfl
theorem Wbv {i : Int} {n : Nat} (h : 0 ≤ i) (h' : i < n) : inb i n = true := by unfold inb; simp [h, h']
theorem Wen {i n : Nat} (h : i < n) : Nat.blt i n = true := Nat.ble_eq_true_of_le h
theorem Wbt {n : Int} (h : -9223372036854775808 ≤ n ∧ n < 9223372036854775808) : IntKind.wrap .i64 n = n := by rw [IntKind.wrap_i64]; omega
theorem Wpx {n : Int} (h : 0 ≤ n ∧ n < 18446744073709551616) : IntKind.wrap .u64 n = n := by
 have : IntKind.wrap .u64 n = n % 18446744073709551616 := by simp [IntKind.wrap, IntKind.bits, IntKind.signed]
 rw [this]; omega
theorem wrap64 (n : Int) : IntKind.u64.wrap n = n % 18446744073709551616 := by simp [IntKind.wrap, IntKind.bits, IntKind.signed]
theorem wrap32 (n : Int) : IntKind.u32.wrap n = n % 4294967296 := by simp [IntKind.wrap, IntKind.bits, IntKind.signed]
theorem and64 {a b : Nat} (ha : a < 18446744073709551616) (hb : b < 18446744073709551616) : bits .and .u64 a b = ((a &&& b : Nat) : Int) :=
 (bits_nat .u64 64 (by decide) (fun n h0 h1 => by rw [wrap64]; omega) a b ha hb).1
theorem or64 {a b : Nat} (ha : a < 18446744073709551616) (hb : b < 18446744073709551616) : bits .or .u64 a b = ((a ||| b : Nat) : Int) :=
 (bits_nat .u64 64 (by decide) (fun n h0 h1 => by rw [wrap64]; omega) a b ha hb).2
def pick (n m : Int) : Int := if Int.tmod n m < 0 then Int.tmod n m + m else Int.tmod n m
theorem Zfe (n : Int) {m : Int} (h : 0 < m) : 0 ≤ pick n m ∧ pick n m < m := by
 unfold pick
 have h1 : -m < Int.tmod n m := Int.lt_tmod_of_pos n h
 have h2 := Int.tmod_lt_of_pos n h
 split <;> omega
end Go.Pu
namespace Go.Lm
open Go Go.Pu
theorem ofInt64 {a : Nat} (h : a < 18446744073709551616) : (BitVec.ofInt 64 (a : Int)).toNat = a := by
 rw [BitVec.ofInt_natCast, BitVec.toNat_ofNat]
 exact Nat.mod_eq_of_lt h
theorem not64 {a : Nat} (ha : a < 18446744073709551616) : bits .xor .u64 18446744073709551615 a = ((18446744073709551615 - a : Nat) : Int) := by
 have h : (BitVec.ofInt 64 18446744073709551615 ^^^ BitVec.ofInt 64 (a : Int)).toNat = 18446744073709551615 - a := by
  have e : BitVec.ofInt 64 18446744073709551615 = BitVec.allOnes 64 := by decide
  rw [e, BitVec.allOnes_xor, BitVec.toNat_not, ofInt64 ha]
 show IntKind.u64.wrap ((BitVec.ofInt 64 18446744073709551615 ^^^ BitVec.ofInt 64 (a : Int)).toNat : Int) = _
 rw [h, wrap64]
 omega
theorem andNot64 {a b : Nat} (ha : a < 18446744073709551616) (hb : b < 18446744073709551616) : bits .andNot .u64 a b = ((a &&& (18446744073709551615 - b) : Nat) : Int) := by
 have h : (BitVec.ofInt 64 (a : Int) &&& ~~~ BitVec.ofInt 64 (b : Int)).toNat = a &&& (18446744073709551615 - b) := by
  rw [BitVec.toNat_and, BitVec.toNat_not, ofInt64 ha, ofInt64 hb]
 have hl : a &&& (18446744073709551615 - b) < 18446744073709551616 := Nat.lt_of_le_of_lt Nat.and_le_left ha
 show IntKind.u64.wrap ((BitVec.ofInt 64 (a : Int) &&& ~~~ BitVec.ofInt 64 (b : Int)).toNat : Int) = _
 rw [h, wrap64]
 omega
theorem Wrl {n : Nat} (h : n < 18446744073709551616) : n / 2 ^ 63 = 0 ∨ n / 2 ^ 63 = 1 := by omega
theorem fdiv63 (n : Nat) : Int.fdiv (n : Int) (2 ^ 63) = ((n / 2 ^ 63 : Nat) : Int) := by
 rw [show ((2 : Int) ^ 63) = ((2 ^ 63 : Nat) : Int) by decide, Int.fdiv_eq_ediv_of_nonneg _ (Int.natCast_nonneg _)]
 exact (Int.natCast_ediv _ _).symm
theorem carry {a b c : Int} (ha : 0 ≤ a ∧ a < 18446744073709551616) (hb : 0 ≤ b ∧ b < 18446744073709551616) (hc : 0 ≤ c ∧ c ≤ 1) :
  Int.fdiv (bits .or .u64 (bits .and .u64 a b) (bits .andNot .u64 (bits .or .u64 a b) ((a + b + c) % 18446744073709551616))) (2 ^ 63) = (a + b + c) / 18446744073709551616 := by
 obtain ⟨x, rfl⟩ := Int.eq_ofNat_of_zero_le ha.1
 obtain ⟨y, rfl⟩ := Int.eq_ofNat_of_zero_le hb.1
 obtain ⟨z, rfl⟩ := Int.eq_ofNat_of_zero_le hc.1
 have hx : x < 18446744073709551616 := by omega
 have hy : y < 18446744073709551616 := by omega
 obtain ⟨s, hs⟩ : ∃ s : Nat, ((x : Int) + y + z) % 18446744073709551616 = (s : Int) := Int.eq_ofNat_of_zero_le (by omega)
 have hsl : s < 18446744073709551616 := by omega
 rw [hs, and64 hx hy, or64 hx hy]
 have ho : x ||| y < 18446744073709551616 := Nat.or_lt_two_pow (n := 64) hx hy
 have hn : x &&& y < 18446744073709551616 := Nat.lt_of_le_of_lt Nat.and_le_left hx
 rw [andNot64 ho hsl]
 rw [or64 hn (Nat.lt_of_le_of_lt Nat.and_le_left ho), fdiv63, Nat.or_div_two_pow, Nat.and_div_two_pow, Nat.and_div_two_pow, Nat.or_div_two_pow]
 rw [show (18446744073709551615 - s) / 2 ^ 63 = 1 - s / 2 ^ 63 by omega]
 have h1 := Wrl hx
 have h2 := Wrl hy
 have h3 := Wrl hsl
 rcases h1 with h1 | h1 <;> rcases h2 with h2 | h2 <;> rcases h3 with h3 | h3 <;> rw [h1, h2, h3] <;> simp <;> omega
theorem borrow {a b c : Int} (ha : 0 ≤ a ∧ a < 18446744073709551616) (hb : 0 ≤ b ∧ b < 18446744073709551616) (hc : 0 ≤ c ∧ c ≤ 1) :
  Int.fdiv (bits .or .u64 (bits .and .u64 (bits .xor .u64 18446744073709551615 a) b) (bits .and .u64 (bits .or .u64 (bits .xor .u64 18446744073709551615 a) b) ((a - b - c) % 18446744073709551616))) (2 ^ 63) = -((a - b - c) / 18446744073709551616) := by
 obtain ⟨x, rfl⟩ := Int.eq_ofNat_of_zero_le ha.1
 obtain ⟨y, rfl⟩ := Int.eq_ofNat_of_zero_le hb.1
 obtain ⟨z, rfl⟩ := Int.eq_ofNat_of_zero_le hc.1
 have hx : x < 18446744073709551616 := by omega
 have hy : y < 18446744073709551616 := by omega
 obtain ⟨s, hs⟩ : ∃ s : Nat, ((x : Int) - y - z) % 18446744073709551616 = (s : Int) := Int.eq_ofNat_of_zero_le (by omega)
 have hsl : s < 18446744073709551616 := by omega
 have hx' : 18446744073709551615 - x < 18446744073709551616 := by omega
 rw [hs, not64 hx, and64 hx' hy, or64 hx' hy]
 have ho : (18446744073709551615 - x) ||| y < 18446744073709551616 := Nat.or_lt_two_pow (n := 64) hx' hy
 have hn : (18446744073709551615 - x) &&& y < 18446744073709551616 := Nat.lt_of_le_of_lt Nat.and_le_left hx'
 rw [and64 ho hsl]
 rw [or64 hn (Nat.lt_of_le_of_lt Nat.and_le_left ho), fdiv63, Nat.or_div_two_pow, Nat.and_div_two_pow, Nat.and_div_two_pow, Nat.or_div_two_pow]
 rw [show (18446744073709551615 - x) / 2 ^ 63 = 1 - x / 2 ^ 63 by omega]
 have h1 := Wrl hx
 have h2 := Wrl hy
 have h3 := Wrl hsl
 rcases h1 with h1 | h1 <;> rcases h2 with h2 | h2 <;> rcases h3 with h3 | h3 <;> rw [h1, h2, h3] <;> simp <;> omega
end Go.Lm
namespace Go.Proofs.Ytbchcjlllddlpaa.Pure
open Go Go.Ev Go.Lm Go.Pu
def Wd (n : Int) : Prop := 0 ≤ n ∧ n < 18446744073709551616
def W2 (x : Int × Int) : Prop := Wd x.1 ∧ Wd x.2
def N2 (x : Int × Int) : Int := x.1 + 18446744073709551616 * x.2
theorem N2_inj {x y : Int × Int} (hx : W2 x) (hy : W2 y) (h : N2 x = N2 y) : x = y := by
 obtain ⟨⟨a, b⟩, c, d⟩ := hx
 obtain ⟨⟨e, f⟩, g, i⟩ := hy
 unfold N2 at h
 exact Prod.ext (by omega) (by omega)
theorem Wra {x : Int × Int} (hx : W2 x) : 0 ≤ N2 x ∧ N2 x < 340282366920938463463374607431768211456 := by
 obtain ⟨⟨a, b⟩, c, d⟩ := hx
 unfold N2
 omega
theorem plus_eq (k : Nat) {a b c : Int} (ha : Wd a) (hb : Wd b) (hc : 0 ≤ c ∧ c ≤ 1) : Zew.f k a b c = some ((a + b + c) % 18446744073709551616, (a + b + c) / 18446744073709551616) := by
 unfold Zew.f
 have : IntKind.wrap .u64 (IntKind.wrap .u64 (a + b) + c) = (a + b + c) % 18446744073709551616 := by rw [wrap64, wrap64]; omega
 rw [this, carry ha hb hc]
theorem less_eq (k : Nat) {a b c : Int} (ha : Wd a) (hb : Wd b) (hc : 0 ≤ c ∧ c ≤ 1) : Zex.f k a b c = some ((a - b - c) % 18446744073709551616, -((a - b - c) / 18446744073709551616)) := by
 unfold Zex.f
 have : IntKind.wrap .u64 (IntKind.wrap .u64 (a - b) - c) = (a - b - c) % 18446744073709551616 := by rw [wrap64, wrap64]; omega
 rw [this, borrow ha hb hc]
theorem Add_eq (k : Nat) {x y : Int × Int} (hx : W2 x) (hy : W2 y) : ∃ z b, Zeo.f k x y = some (z, b) ∧ W2 z ∧
  (b = true → N2 z = N2 x + N2 y) ∧ (b = false → z = (0, 0)) ∧ (b = true ↔ N2 x + N2 y < 340282366920938463463374607431768211456) := by
 unfold Zeo.f
 obtain ⟨hx1, hx2⟩ := hx
 obtain ⟨hy1, hy2⟩ := hy
 rw [plus_eq k hx1 hy1 (by omega), Z0, plus_eq k hx2 hy2 (by obtain ⟨_, _⟩ := hx1; obtain ⟨_, _⟩ := hy1; constructor <;> omega), Z0]
 obtain ⟨a, b⟩ := x
 obtain ⟨c, d⟩ := y
 obtain ⟨h1, h2⟩ := hx1
 obtain ⟨h3, h4⟩ := hy1
 obtain ⟨h5, h6⟩ := hx2
 obtain ⟨h7, h8⟩ := hy2
 dsimp only at *
 by_cases h : (b + d + (a + c + 0) / 18446744073709551616) / 18446744073709551616 > 0
 ·refine ⟨(0, 0), false, (by rw [decide_eq_true h]; rfl), ⟨⟨by decide, by decide⟩, by decide, by decide⟩, fun h => (by cases h), fun _ => rfl, ?_⟩
  unfold N2
  dsimp only
  constructor
  ·intro h; cases h
  ·intro h'; omega
 ·refine ⟨((a + c + 0) % 18446744073709551616, (b + d + (a + c + 0) / 18446744073709551616) % 18446744073709551616), true, (by rw [decide_eq_false h]; rfl), ⟨⟨(by dsimp only; omega), (by dsimp only; omega)⟩, (by dsimp only; omega), (by dsimp only; omega)⟩, fun _ => ?_, fun h => (by cases h), ?_⟩
  ·unfold N2
   dsimp only
   omega
  ·unfold N2
   dsimp only
   constructor
   ·intro _; omega
   ·intro _; rfl
theorem Wvg (k : Nat) {x y : Int × Int} (hx : W2 x) (hy : W2 y) : ∃ z b, Zdf.f k x y = some (z, b) ∧ W2 z ∧
  (b = true → N2 z = N2 x - N2 y) ∧ (b = false → z = (0, 0)) ∧ (b = true ↔ N2 y ≤ N2 x) := by
 unfold Zdf.f
 obtain ⟨hx1, hx2⟩ := hx
 obtain ⟨hy1, hy2⟩ := hy
 rw [less_eq k hx1 hy1 (by omega), Z0, less_eq k hx2 hy2 (by obtain ⟨_, _⟩ := hx1; obtain ⟨_, _⟩ := hy1; constructor <;> omega), Z0]
 obtain ⟨a, b⟩ := x
 obtain ⟨c, d⟩ := y
 obtain ⟨h1, h2⟩ := hx1
 obtain ⟨h3, h4⟩ := hy1
 obtain ⟨h5, h6⟩ := hx2
 obtain ⟨h7, h8⟩ := hy2
 dsimp only at *
 by_cases h : -((b - d - -((a - c - 0) / 18446744073709551616)) / 18446744073709551616) > 0
 ·refine ⟨(0, 0), false, (by rw [decide_eq_true h]; rfl), ⟨⟨by decide, by decide⟩, by decide, by decide⟩, fun h => (by cases h), fun _ => rfl, ?_⟩
  unfold N2
  dsimp only
  constructor
  ·intro h; cases h
  ·intro h'; omega
 ·refine ⟨((a - c - 0) % 18446744073709551616, (b - d - -((a - c - 0) / 18446744073709551616)) % 18446744073709551616), true, (by rw [decide_eq_false h]; rfl), ⟨⟨(by dsimp only; omega), (by dsimp only; omega)⟩, (by dsimp only; omega), (by dsimp only; omega)⟩, fun _ => ?_, fun h => (by cases h), ?_⟩
  ·unfold N2
   dsimp only
   omega
  ·unfold N2
   dsimp only
   constructor
   ·intro _; omega
   ·intro _; rfl
theorem Cmp_eq (k : Nat) {x y : Int × Int} (hx : W2 x) (hy : W2 y) : Zcc.f (k + 3) x y = some (if N2 x < N2 y then -1 else if N2 x = N2 y then 0 else 1) := by
 obtain ⟨a, b⟩ := x
 obtain ⟨c, d⟩ := y
 obtain ⟨⟨h1, h2⟩, h5, h6⟩ := hx
 obtain ⟨⟨h3, h4⟩, h7, h8⟩ := hy
 dsimp only at *
 have o1 : Zcc.l2.once (k + 3) (1, [a, b], [c, d]) = cond (b != d) (cond (decide (b < d)) (some (.inr (.inr (-1)))) (some (.inr (.inr 1)))) (some (.inl (0, [a, b], [c, d]))) := by kernel_rfl
 have o2 : Zcc.l2.once (k + 3) (0, [a, b], [c, d]) = cond (a != c) (cond (decide (a < c)) (some (.inr (.inr (-1)))) (some (.inr (.inr 1)))) (some (.inl (-1, [a, b], [c, d]))) := by kernel_rfl
 have o3 : Zcc.l2.once (k + 3) (-1, [a, b], [c, d]) = some (.inr (.inl ())) := by kernel_rfl
 unfold Zcc.f N2
 dsimp only
 by_cases e1 : b = d
 ·subst e1
  rw [show (b != b) = false by simp, cond_false] at o1
  rw [Zdd o1]
  by_cases e2 : a = c
  ·subst e2
   rw [show (a != a) = false by simp, cond_false] at o2
   rw [Zdd o2, Zbq o3]
   simp
  ·rw [show (a != c) = true by simp [e2], cond_true] at o2
   by_cases e3 : a < c
   ·rw [decide_eq_true e3, cond_true] at o2
    rw [Zbq o2, if_pos (by omega)]; rfl
   ·rw [decide_eq_false e3, cond_false] at o2
    rw [Zbq o2, if_neg (by omega), if_neg (by omega)]; rfl
 ·rw [show (b != d) = true by simp [e1], cond_true] at o1
  by_cases e3 : b < d
  ·rw [decide_eq_true e3, cond_true] at o1
   rw [Zbq o1, if_pos (by omega)]; rfl
  ·rw [decide_eq_false e3, cond_false] at o1
   rw [Zbq o1, if_neg (by omega), if_neg (by omega)]; rfl
end Go.Proofs.Ytbchcjlllddlpaa.Pure
namespace Go.Proofs.Ytbchcjlllddlpaa.Pure
set_option linter.unusedVariables false
set_option linter.unusedSimpArgs false
open Go Go.Ev Go.Lm Go.Pu
def V : List Int → Int
 | [] => 0
 | x :: l => x + 4294967296 * V l
def H32 (n : Int) : Prop := 0 ≤ n ∧ n < 4294967296
theorem V_set : ∀ (l : List Int) (a : Nat) (v : Int), a < l.length → V (l.set a v) = V l + (v - l.getD a 0) * 4294967296 ^ a
 | [], a, v, h => by simp at h
 | x :: l, 0, v, h => by simp [V]; omega
 | x :: l, a + 1, v, h => by
  have := V_set l a v (by simpa using h)
  simp only [List.set_cons_succ, V, this, List.getD_cons_succ, Int.pow_succ]
  rw [Int.mul_add]
  have e : (v - l.getD a 0) * (4294967296 ^ a * 4294967296) = 4294967296 * ((v - l.getD a 0) * 4294967296 ^ a) := by rw [← Int.mul_assoc, Int.mul_comm]
  rw [e]
  omega
theorem Wrv {α : Type} (l : List α) (i j : Nat) (v d : α) : (l.set i v).getD j d = if i = j ∧ j < l.length then v else l.getD j d := by
 simp only [List.getD_eq_getElem?_getD, List.getElem?_set]
 by_cases h : i = j
 ·subst h
  by_cases h2 : i < l.length
  ·simp [h2]
  ·simp [h2]
 ·simp [h]
theorem mul_bd {a b : Int} (ha : H32 a) (hb : H32 b) : 0 ≤ a * b ∧ a * b ≤ 18446744065119617025 := by
 obtain ⟨h1, h2⟩ := ha
 obtain ⟨h3, h4⟩ := hb
 refine ⟨Int.mul_nonneg h1 h3, ?_⟩
 have : a * b ≤ 4294967295 * 4294967295 := Int.mul_le_mul (by omega) (by omega) h3 (by omega)
 omega
theorem Qsa (k : Nat) {p c y0 y1 y2 y3 : Int} (s0 s1 s2 s3 s4 : Int) (L L' : List Int) {out : List Int} {i j : Nat} (hi : i < 4) (hj : j < 4) (hlen : out.length = 8) (hp : H32 p) (hc : H32 c) (hq : H32 ([y0, y1, y2, y3].getD j 0)) (ho : H32 (out.getD (i + j) 0)) :
  Zam.l8.once k ((i : Int), p, c, s0, s1, s2, s3, s4, y0, y1, y2, y3, (j : Int), L, out, L') =
   some (.inl ((i : Int), p, (p * [y0, y1, y2, y3].getD j 0 + out.getD (i + j) 0 + c) / 4294967296, s0, s1, s2, s3, s4, y0, y1, y2, y3, ((j + 1 : Nat) : Int), L, out.set (i + j) ((p * [y0, y1, y2, y3].getD j 0 + out.getD (i + j) 0 + c) % 4294967296), L')) := by
 unfold Zam.l8.once
 dsimp only
 have hw : IntKind.wrap .i64 ((i : Int) + (j : Int)) = ((i + j : Nat) : Int) := by rw [Wbt (by omega)]; omega
 have hw2 : IntKind.wrap .i64 ((j : Int) + 1) = ((j + 1 : Nat) : Int) := by rw [Wbt (by omega)]; omega
 rw [hw, hw2, ct (by omega), Wbv (by omega) (by omega), Wbv (by omega) (by omega), cond_true, cond_true, Int.toNat_natCast, Int.toNat_natCast, Wen (by omega), cond_true, cond_true, cond_true]
 have hm := mul_bd hp hq
 generalize [y0, y1, y2, y3].getD j 0 = q at *
 generalize out.getD (i + j) 0 = o at *
 obtain ⟨p1, p2⟩ := hp
 obtain ⟨q1, q2⟩ := hq
 obtain ⟨o1, o2⟩ := ho
 obtain ⟨c1, c2⟩ := hc
 rw [Wpx (show 0 ≤ p ∧ p < 18446744073709551616 by omega), Wpx (show 0 ≤ q ∧ q < 18446744073709551616 by omega)]
 generalize p * q = m at *
 rw [Wpx (show 0 ≤ m ∧ m < 18446744073709551616 by omega), Wpx (show 0 ≤ m + o ∧ m + o < 18446744073709551616 by omega), Wpx (show 0 ≤ m + o + c ∧ m + o + c < 18446744073709551616 by omega), wrap32, Wpx (show 0 ≤ (m + o + c) % 4294967296 ∧ (m + o + c) % 4294967296 < 18446744073709551616 by omega)]
 have : Int.fdiv (m + o + c) (2 ^ 32) = (m + o + c) / 4294967296 := by
  rw [show (2 : Int) ^ 32 = 4294967296 by decide, Int.fdiv_eq_ediv_of_nonneg _ (by decide)]
 rw [this]
theorem Mul_row (k : Nat) {p y0 y1 y2 y3 : Int} (s0 s1 s2 s3 s4 : Int) (L L' : List Int) {i : Nat} (hi : i < 4) (hp : H32 p) (hy : ∀ j, j < 4 → H32 ([y0, y1, y2, y3].getD j 0)) {Wgz : List Int} (hl0 : Wgz.length = 8) (h0 : ∀ t, t < 8 → H32 (Wgz.getD t 0)) (hz : ∀ t, i + 4 ≤ t → t < 8 → Wgz.getD t 0 = 0) (hk : 4 < k) :
  ∃ (c : Int) (out : List Int), iter (Zam.l8.once k) k ((i : Int), p, 0, s0, s1, s2, s3, s4, y0, y1, y2, y3, 0, L, Wgz, L') = some ((i : Int), c, s0, s1, s2, s3, s4, L, out, L') ∧ H32 c ∧ out.length = 8 ∧ (∀ t, t < 8 → H32 (out.getD t 0)) ∧
   (∀ t, i + 4 ≤ t → t < 8 → out.getD t 0 = 0) ∧ V out + c * 4294967296 ^ (i + 4) = V Wgz + p * V [y0, y1, y2, y3] * 4294967296 ^ i := by
 obtain ⟨y, h1, h2⟩ := Zeb (once := Zam.l8.once k) (fun x => ∃ (j : Nat) (c : Int) (out : List Int), x = ((i : Int), p, c, s0, s1, s2, s3, s4, y0, y1, y2, y3, (j : Int), L, out, L') ∧ j ≤ 4 ∧ H32 c ∧ out.length = 8 ∧ (∀ t, t < 8 → H32 (out.getD t 0)) ∧
   (∀ t, i + 4 ≤ t → t < 8 → out.getD t 0 = 0) ∧ V out + c * 4294967296 ^ (i + j) = V Wgz + p * V ([y0, y1, y2, y3].take j) * 4294967296 ^ i)
  (fun x => 4 - x.2.2.2.2.2.2.2.2.2.2.2.2.1.toNat) (fun r => ∃ (c : Int) (out : List Int), r = ((i : Int), c, s0, s1, s2, s3, s4, L, out, L') ∧ H32 c ∧ out.length = 8 ∧ (∀ t, t < 8 → H32 (out.getD t 0)) ∧
   (∀ t, i + 4 ≤ t → t < 8 → out.getD t 0 = 0) ∧ V out + c * 4294967296 ^ (i + 4) = V Wgz + p * V [y0, y1, y2, y3] * 4294967296 ^ i) (by
  rintro _ ⟨j, c, out, rfl, hj, hc, hlen, hb, hzz, hV⟩
  by_cases hlt : j < 4
  ·left
   have hq := hy j hlt
   have ho := hb (i + j) (by omega)
   have hm := mul_bd hp hq
   refine ⟨_, Qsa k s0 s1 s2 s3 s4 L L' hi hlt hlen hp hc hq ho, ⟨j + 1, _, _, rfl, by omega, ?_, by simp [hlen], fun t ht => ?_, fun t ht ht8 => ?_, ?_⟩, by dsimp only; omega⟩
   ·obtain ⟨o1, o2⟩ := ho
    obtain ⟨c1, c2⟩ := hc
    exact ⟨by omega, by omega⟩
   ·rw [Wrv]
    split
    ·exact ⟨by omega, by omega⟩
    ·exact hb t ht
   ·rw [Wrv, if_neg (by omega)]
    exact hzz t ht ht8
   ·rw [V_set _ _ _ (by omega)]
    have et : V ([y0, y1, y2, y3].take (j + 1)) = V ([y0, y1, y2, y3].take j) + [y0, y1, y2, y3].getD j 0 * 4294967296 ^ j := by
     have hj' : j = 0 ∨ j = 1 ∨ j = 2 ∨ j = 3 := by omega
     rcases hj' with rfl | rfl | rfl | rfl <;> simp [V] <;> omega
    rw [et]
    generalize [y0, y1, y2, y3].getD j 0 = q at *
    generalize out.getD (i + j) 0 = o at *
    generalize V ([y0, y1, y2, y3].take j) = Y at *
    have hd : (p * q + o + c) / 4294967296 * 4294967296 + (p * q + o + c) % 4294967296 = p * q + o + c := by omega
    generalize (p * q + o + c) / 4294967296 = d at *
    generalize (p * q + o + c) % 4294967296 = r at *
    have e1 : (4294967296 : Int) ^ (i + (j + 1)) = 4294967296 ^ (i + j) * 4294967296 := by rw [← Nat.add_assoc, Int.pow_succ]
    have e2 : (4294967296 : Int) ^ (i + j) = 4294967296 ^ i * 4294967296 ^ j := by rw [Int.pow_add]
    rw [e1]
    generalize hP : (4294967296 : Int) ^ (i + j) = P at *
    generalize (4294967296 : Int) ^ i = A at *
    generalize (4294967296 : Int) ^ j = B at *
    subst e2
    have hr : r = p * q + o + c - d * 4294967296 := by omega
    subst hr
    grind
  ·right
   have : j = 4 := by omega
   subst this
   refine ⟨((i : Int), c, s0, s1, s2, s3, s4, L, out, L'), ?_, c, out, rfl, hc, hlen, hb, hzz, hV⟩
   unfold Zam.l8.once
   dsimp only
   rw [cf (by omega)]) k ((i : Int), p, 0, s0, s1, s2, s3, s4, y0, y1, y2, y3, 0, L, Wgz, L') ⟨0, 0, Wgz, rfl, by omega, ⟨by decide, by decide⟩, hl0, h0, hz, by simp [V]⟩ (by dsimp only; omega)
 obtain ⟨c, out, rfl, h3⟩ := h2
 exact ⟨c, out, h1, h3⟩
def W4 (x : Int × Int × Int × Int) : Prop := Wd x.1 ∧ Wd x.2.1 ∧ Wd x.2.2.1 ∧ Wd x.2.2.2
def N4 (x : Int × Int × Int × Int) : Int := x.1 + 18446744073709551616 * (x.2.1 + 18446744073709551616 * (x.2.2.1 + 18446744073709551616 * x.2.2.2))
theorem Wws {a b : Int} (ha : H32 a) (hb : H32 b) : bits .or .u64 a (IntKind.wrap .u64 (b * 2 ^ 32)) = a + 4294967296 * b := by
 obtain ⟨x, rfl⟩ := Int.eq_ofNat_of_zero_le ha.1
 obtain ⟨y, rfl⟩ := Int.eq_ofNat_of_zero_le hb.1
 have hx := ha.2
 have hy := hb.2
 rw [show (2 : Int) ^ 32 = 4294967296 by decide, Wpx (by omega), show ((y : Int) * 4294967296) = ((y * 4294967296 : Nat) : Int) by omega, or64 (by omega) (by omega)]
 have := Nat.two_pow_add_eq_or_of_lt (i := 32) (b := x) (by omega) y
 rw [Nat.or_comm, Nat.mul_comm y, ← this]
 omega
theorem list8 {l : List Int} (h : l.length = 8) : ∃ a b c d e f g i, l = [a, b, c, d, e, f, g, i] := by
 match l, h with
 | [a, b, c, d, e, f, g, i], _ => exact ⟨a, b, c, d, e, f, g, i, rfl⟩
theorem Mul_join (k : Nat) (L : List Int) {o0 o1 o2 o3 o4 o5 o6 o7 : Int} (h : ∀ t, t < 8 → H32 ([o0, o1, o2, o3, o4, o5, o6, o7].getD t 0)) (hk : 4 < k) :
  iter (Zam.l18.once k) k (0, L, [o0, o1, o2, o3, o4, o5, o6, o7], [0, 0, 0, 0]) = some (L, [o0 + 4294967296 * o1, o2 + 4294967296 * o3, o4 + 4294967296 * o5, o6 + 4294967296 * o7]) := by
 obtain ⟨k', rfl⟩ : ∃ q, k = q + 5 := ⟨k - 5, by omega⟩
 have h0 : H32 o0 := h 0 (by decide)
 have h1 : H32 o1 := h 1 (by decide)
 have h2 : H32 o2 := h 2 (by decide)
 have h3 : H32 o3 := h 3 (by decide)
 have h4 : H32 o4 := h 4 (by decide)
 have h5 : H32 o5 := h 5 (by decide)
 have h6 : H32 o6 := h 6 (by decide)
 have h7 : H32 o7 := h 7 (by decide)
 have s0 : Zam.l18.once (k' + 5) (0, L, [o0, o1, o2, o3, o4, o5, o6, o7], [0, 0, 0, 0]) = some (.inl (1, L, [o0, o1, o2, o3, o4, o5, o6, o7], [bits .or .u64 o0 (IntKind.wrap .u64 (o1 * 2 ^ 32)), 0, 0, 0])) := by kernel_rfl
 have s1 : ∀ r0 : Int, Zam.l18.once (k' + 5) (1, L, [o0, o1, o2, o3, o4, o5, o6, o7], [r0, 0, 0, 0]) = some (.inl (2, L, [o0, o1, o2, o3, o4, o5, o6, o7], [r0, bits .or .u64 o2 (IntKind.wrap .u64 (o3 * 2 ^ 32)), 0, 0])) := by intro r0; kernel_rfl
 have s2 : ∀ r0 r1 : Int, Zam.l18.once (k' + 5) (2, L, [o0, o1, o2, o3, o4, o5, o6, o7], [r0, r1, 0, 0]) = some (.inl (3, L, [o0, o1, o2, o3, o4, o5, o6, o7], [r0, r1, bits .or .u64 o4 (IntKind.wrap .u64 (o5 * 2 ^ 32)), 0])) := by intro r0 r1; kernel_rfl
 have s3 : ∀ r0 r1 r2 : Int, Zam.l18.once (k' + 5) (3, L, [o0, o1, o2, o3, o4, o5, o6, o7], [r0, r1, r2, 0]) = some (.inl (4, L, [o0, o1, o2, o3, o4, o5, o6, o7], [r0, r1, r2, bits .or .u64 o6 (IntKind.wrap .u64 (o7 * 2 ^ 32))])) := by intro r0 r1 r2; kernel_rfl
 have s4 : ∀ r0 r1 r2 r3 : Int, Zam.l18.once (k' + 5) (4, L, [o0, o1, o2, o3, o4, o5, o6, o7], [r0, r1, r2, r3]) = some (.inr (L, [r0, r1, r2, r3])) := by intro r0 r1 r2 r3; kernel_rfl
 rw [Zdd s0, Wws h0 h1, Zdd (s1 _), Wws h2 h3, Zdd (s2 _ _), Wws h4 h5, Zdd (s3 _ _ _), Wws h6 h7, Zbq (s4 _ _ _ _)]
theorem Qjt (k : Nat) {x : Int × Int} (h : W2 x) : ∃ p0 p1 p2 p3, Zea.f k x = some (p0, p1, p2, p3) ∧ H32 p0 ∧ H32 p1 ∧ H32 p2 ∧ H32 p3 ∧ V [p0, p1, p2, p3] = N2 x := by
 obtain ⟨a, b⟩ := x
 obtain ⟨⟨h1, h2⟩, h3, h4⟩ := h
 dsimp only at h1 h2 h3 h4
 unfold Zea.f
 dsimp only
 have f : ∀ {z : Int}, 0 ≤ z → Int.fdiv z (2 ^ 32) = z / 4294967296 := fun hz => by
  rw [show (2 : Int) ^ 32 = 4294967296 by decide, Int.fdiv_eq_ediv_of_nonneg _ (by decide)]
 rw [f h1, f h3, wrap32, wrap32, wrap32, wrap32]
 refine ⟨_, _, _, _, rfl, ⟨by omega, by omega⟩, ⟨by omega, by omega⟩, ⟨by omega, by omega⟩, ⟨by omega, by omega⟩, ?_⟩
 simp only [V, N2]
 omega
theorem Mul_eq {k : Nat} (hk : 8 < k) {x y : Int × Int} (hx : W2 x) (hy : W2 y) : ∃ z, Zam.f k x y = some z ∧ W4 z ∧ N4 z = N2 x * N2 y := by
 unfold Zam.f
 obtain ⟨p0, p1, p2, p3, e1, a0, a1, a2, a3, ev⟩ := Qjt k hx
 obtain ⟨q0, q1, q2, q3, e2, b0, b1, b2, b3, ew⟩ := Qjt k hy
 rw [Prod.eta, Prod.eta, e1, Z0, e2, Z0]
 have hq : ∀ j, j < 4 → H32 ([q0, q1, q2, q3].getD j 0) := fun j hj => by
  have : j = 0 ∨ j = 1 ∨ j = 2 ∨ j = 3 := by omega
  rcases this with rfl | rfl | rfl | rfl <;> assumption
 have hp : ∀ j, j < 4 → H32 ([p0, p1, p2, p3].getD j 0) := fun j hj => by
  have : j = 0 ∨ j = 1 ∨ j = 2 ∨ j = 3 := by omega
  rcases this with rfl | rfl | rfl | rfl <;> assumption
 obtain ⟨r, h1, h2⟩ := Zeb (once := Zam.l4.once k) (fun s => ∃ (i : Nat) (out : List Int), s = (p0, p1, p2, p3, (i : Int), [0, 0, 0, 0], out, [q0, q1, q2, q3]) ∧ i ≤ 4 ∧ out.length = 8 ∧ (∀ t, t < 8 → H32 (out.getD t 0)) ∧
   (∀ t, i + 4 ≤ t → t < 8 → out.getD t 0 = 0) ∧ V out = V ([p0, p1, p2, p3].take i) * V [q0, q1, q2, q3])
  (fun s => 4 - s.2.2.2.2.1.toNat) (fun r => ∃ out : List Int, r = ([0, 0, 0, 0], out) ∧ out.length = 8 ∧ (∀ t, t < 8 → H32 (out.getD t 0)) ∧ V out = V [p0, p1, p2, p3] * V [q0, q1, q2, q3]) (by
  rintro _ ⟨i, out, rfl, hi, hlen, hb, hz, hV⟩
  by_cases hlt : i < 4
  ·left
   obtain ⟨c, out', g1, hc, g2, g3, g4, g5⟩ := Mul_row k p0 p1 p2 p3 (i : Int) [0, 0, 0, 0] [q0, q1, q2, q3] hlt (hp i hlt) hq hlen hb hz (by omega)
   refine ⟨(p0, p1, p2, p3, ((i + 1 : Nat) : Int), [0, 0, 0, 0], out'.set (i + 4) c, [q0, q1, q2, q3]), ?_, ⟨i + 1, _, rfl, by omega, by simp [g2], fun t ht => ?_, fun t ht ht8 => ?_, ?_⟩, by dsimp only; omega⟩
   ·unfold Zam.l4.once
    dsimp only
    rw [ct (by omega), Wbv (by omega) (by omega), cond_true, Int.toNat_natCast]
    have e : ([q0, q1, q2, q3].getD 0 0, [q0, q1, q2, q3].getD 1 0, [q0, q1, q2, q3].getD 2 0, [q0, q1, q2, q3].getD 3 0) = (q0, q1, q2, q3) := rfl
    have g1' : iter (Zam.l8.once k) k ((i : Int), [p0, p1, p2, p3].getD i 0, 0, p0, p1, p2, p3, (i : Int), [q0, q1, q2, q3].getD 0 0, [q0, q1, q2, q3].getD 1 0, [q0, q1, q2, q3].getD 2 0, [q0, q1, q2, q3].getD 3 0, 0, [0, 0, 0, 0], out, [q0, q1, q2, q3]) = _ := g1
    rw [g1', Z0]
    dsimp only
    have hw : IntKind.wrap .i64 ((i : Int) + 4) = ((i + 4 : Nat) : Int) := by rw [Wbt (by omega)]; omega
    have hw2 : IntKind.wrap .i64 ((i : Int) + 1) = ((i + 1 : Nat) : Int) := by rw [Wbt (by omega)]; omega
    rw [hw, hw2, Wbv (by omega) (by omega), cond_true, Int.toNat_natCast, Wen (by omega), cond_true]
   ·rw [Wrv]
    split
    ·exact hc
    ·exact g3 t ht
   ·rw [Wrv, if_neg (by omega)]
    exact g4 t (by omega) ht8
   ·rw [V_set _ _ _ (by omega), g4 (i + 4) (by omega) (by omega), Int.sub_zero, g5, hV]
    have et : V ([p0, p1, p2, p3].take (i + 1)) = V ([p0, p1, p2, p3].take i) + [p0, p1, p2, p3].getD i 0 * 4294967296 ^ i := by
     have hj' : i = 0 ∨ i = 1 ∨ i = 2 ∨ i = 3 := by omega
     rcases hj' with rfl | rfl | rfl | rfl <;> simp [V] <;> omega
    rw [et]
    generalize [p0, p1, p2, p3].getD i 0 = p
    generalize V ([p0, p1, p2, p3].take i) = X
    generalize V [q0, q1, q2, q3] = Y
    generalize (4294967296 : Int) ^ i = A
    grind
  ·right
   have : i = 4 := by omega
   subst this
   refine ⟨([0, 0, 0, 0], out), ?_, out, rfl, hlen, hb, hV⟩
   unfold Zam.l4.once
   dsimp only
   rw [cf (by omega)]) k (p0, p1, p2, p3, 0, [0, 0, 0, 0], [0, 0, 0, 0, 0, 0, 0, 0], [q0, q1, q2, q3]) ⟨0, _, rfl, by omega, rfl, fun t ht => by
    have : ∀ t : Fin 8, H32 (([0, 0, 0, 0, 0, 0, 0, 0] : List Int).getD t.val 0) := by unfold H32; decide
    exact this ⟨t, ht⟩, fun t _ ht => by
    have : ∀ t : Fin 8, ([0, 0, 0, 0, 0, 0, 0, 0] : List Int).getD t.val 0 = 0 := by decide
    exact this ⟨t, ht⟩, by simp [V]⟩ (by dsimp only; omega)
 obtain ⟨out, rfl, g1, g2, g3⟩ := h2
 have h1' : iter (Zam.l4.once k) k ([p0, p1, p2, p3].getD 0 0, [p0, p1, p2, p3].getD 1 0, [p0, p1, p2, p3].getD 2 0, [p0, p1, p2, p3].getD 3 0, 0, [0, 0, 0, 0], [0, 0, 0, 0, 0, 0, 0, 0], [q0, q1, q2, q3]) = _ := h1
 dsimp only
 rw [h1', Z0]
 obtain ⟨o0, o1, o2, o3, o4, o5, o6, o7, rfl⟩ := list8 g1
 dsimp only
 rw [Mul_join k _ g2 (by omega), Z0]
 have w : ∀ {a b : Int}, H32 a → H32 b → Wd (a + 4294967296 * b) := fun ⟨_, _⟩ ⟨_, _⟩ => ⟨by omega, by omega⟩
 refine ⟨_, rfl, ⟨w (g2 0 (by decide)) (g2 1 (by decide)), w (g2 2 (by decide)) (g2 3 (by decide)), w (g2 4 (by decide)) (g2 5 (by decide)), w (g2 6 (by decide)) (g2 7 (by decide))⟩, ?_⟩
 rw [← ev, ← ew, ← g3]
 simp only [V, N4, List.getD_cons_zero, List.getD_cons_succ]
 omega
end Go.Proofs.Ytbchcjlllddlpaa.Pure
namespace Go.Proofs.Ytbchcjlllddlpaa.Pure
set_option linter.unusedVariables false
set_option linter.unusedSimpArgs false
open Go Go.Ev Go.Lm Go.Pu
theorem Zdu (k : Nat) (n : Int) {m : Int} (h0 : 0 < m) (h1 : m ≤ 4611686018427387904) : Zaj.f k n m = some (pick n m) := by
 unfold Zaj.f pick
 rw [show (m == 0) = false by simp; omega, cond_false]
 have h2 : -m < Int.tmod n m := Int.lt_tmod_of_pos n h0
 by_cases h : Int.tmod n m < 0
 ·rw [ct h, if_pos h, Wbt (by omega)]
 ·rw [cf h, if_neg h]
theorem Wd0 : Wd 0 := ⟨by decide, by decide⟩
theorem W2_of {n : Int} (h : Wd n) : W2 (n, 0) := ⟨h, Wd0⟩
theorem W20 : W2 (0, 0) := ⟨Wd0, Wd0⟩
theorem N2_of (n : Int) : N2 (n, 0) = n := by unfold N2; dsimp only; omega
theorem Qkx (k : Nat) (n : Int) : Zes.f k n = some (n, 0) := rfl
theorem N4_bd {x : Int × Int × Int × Int} (h : W4 x) : 0 ≤ N4 x ∧ N4 x < 115792089237316195423570985008687907853269984665640564039457584007913129639936 := by
 obtain ⟨a, b, c, d⟩ := x
 obtain ⟨⟨_, _⟩, ⟨_, _⟩, ⟨_, _⟩, _, _⟩ := h
 unfold N4
 dsimp only at *
 omega
theorem Qrx (k : Nat) {x : Int × Int × Int × Int} (h : W4 x) : ∃ z b, Zdl.f k x = some (z, b) ∧ W2 z ∧ (b = true ↔ N4 x < 340282366920938463463374607431768211456) ∧ (b = true → N2 z = N4 x) ∧ (b = false → z = (0, 0)) := by
 obtain ⟨a, b, c, d⟩ := x
 obtain ⟨⟨h1, h2⟩, ⟨h3, h4⟩, ⟨h5, h6⟩, h7, h8⟩ := h
 dsimp only at *
 unfold Zdl.f N4
 dsimp only
 by_cases hc : c = 0
 ·subst hc
  rw [bne_self_eq_false, cond_false, Z0]
  dsimp only
  by_cases hd : d = 0
  ·subst hd
   rw [bne_self_eq_false, cond_false]
   exact ⟨_, _, rfl, ⟨⟨h1, h2⟩, h3, h4⟩, ⟨fun _ => (by omega), fun _ => rfl⟩, fun _ => (by unfold N2; dsimp only; omega), fun h => (by cases h)⟩
  ·rw [show (d != 0) = true by simp [hd], cond_true]
   exact ⟨_, _, rfl, W20, ⟨fun h => (by cases h), fun h => (by omega)⟩, fun h => (by cases h), fun _ => rfl⟩
 ·rw [show (c != 0) = true by simp [hc], cond_true, Z0]
  exact ⟨_, _, rfl, W20, ⟨fun h => (by cases h), fun h => (by omega)⟩, fun h => (by cases h), fun _ => rfl⟩
theorem ten_lt {i : Nat} (h : i ≤ 38) : (10 : Int) ^ i < 340282366920938463463374607431768211456 := by
 have : ∀ i : Fin 39, (10 : Int) ^ i.val < 340282366920938463463374607431768211456 := by decide +kernel
 exact this ⟨i, by omega⟩
theorem Ten_eq {k : Nat} (hk : 60 < k) {i : Nat} (hi : i ≤ 38) : ∃ x, Zcb.f k (i : Int) = some (x, true) ∧ W2 x ∧ N2 x = 10 ^ i := by
 unfold Zcb.f
 rw [cf (by omega), decide_eq_false (by omega), Z0]
 dsimp only
 rw [cond_false, Qkx, Z0]
 obtain ⟨y, h1, h2⟩ := Zeb (once := Zcb.l5.once k) (fun s => ∃ (j : Nat) (x : Int × Int), s = ((i : Int), (j : Int), 0, 0, x.1, x.2) ∧ j ≤ i ∧ W2 x ∧ N2 x = 10 ^ j) (fun s => i - s.2.1.toNat)
  (fun r => ∃ x : Int × Int, r = (0, 0, x.1, x.2) ∧ W2 x ∧ N2 x = 10 ^ i) (by
  rintro _ ⟨j, x, rfl, hj, hx, hN⟩
  unfold Zcb.l5.once
  dsimp only
  by_cases hlt : j < i
  ·left
   rw [ct (by omega), Qkx, Z0]
   obtain ⟨z, g1, g2, g3⟩ := Mul_eq (k := k) (by omega) hx (W2_of (n := 10) ⟨by decide, by decide⟩)
   rw [N2_of, hN] at g3
   have e1 : Zam.f k (x.1, x.2) (10, 0) = some z := g1
   rw [e1, Z0]
   obtain ⟨u, b, g4, g5, g6, g7, g8⟩ := Qrx k g2
   have e2 : Zdl.f k (z.1, z.2.1, z.2.2.1, z.2.2.2) = some (u, b) := g4
   rw [e2, Z0]
   have hb : b = true := g6.2 (by rw [g3, ← Int.pow_succ]; exact ten_lt (by omega))
   subst hb
   refine ⟨_, rfl, ⟨j + 1, u, ?_, by omega, g5, by rw [g7 rfl, g3, Int.pow_succ]⟩, ?_⟩
   ·simp only [Wbt (show -9223372036854775808 ≤ (j : Int) + 1 ∧ (j : Int) + 1 < 9223372036854775808 by omega)]
    rfl
   ·simp only [Wbt (show -9223372036854775808 ≤ (j : Int) + 1 ∧ (j : Int) + 1 < 9223372036854775808 by omega)]
    omega
  ·right
   rw [cf (by omega)]
   have : j = i := by omega
   subst this
   exact ⟨_, rfl, x, rfl, hx, hN⟩) k ((i : Int), 0, 0, 0, 1, 0) ⟨0, (1, 0), rfl, by omega, W2_of ⟨by decide, by decide⟩, by rw [N2_of]; rfl⟩ (by dsimp only; omega)
 obtain ⟨x, rfl, h3, h4⟩ := h2
 rw [h1, Z0]
 exact ⟨x, rfl, h3, h4⟩
end Go.Proofs.Ytbchcjlllddlpaa.Pure
namespace Go.Dg
set_option linter.unusedVariables false
set_option linter.unusedSimpArgs false
open Go Go.Ev Go.Pu
def V10 : List Int → Int
 | [] => 0
 | d :: t => d + 10 * V10 t
def D10 (l : List Int) : Prop := ∀ z ∈ l, 0 ≤ z ∧ z < 10
def dig (n : Nat) : List Int := if h : n = 0 then [] else ((n % 10 : Nat) : Int) :: dig (n / 10)
termination_by n
decreasing_by omega
theorem Wnp : dig 0 = [] := by rw [dig]; rfl
theorem Wkg {n : Nat} (h : n ≠ 0) : dig n = ((n % 10 : Nat) : Int) :: dig (n / 10) := by rw [dig, dif_neg h]
theorem Wsi : D10 [] := fun z h => by cases h
theorem Wyo {d : Int} {l : List Int} (h0 : 0 ≤ d) (h1 : d < 10) (h : D10 l) : D10 (d :: l) := by
 intro z hz
 rcases List.mem_cons.1 hz with rfl | hz
 ·exact ⟨h0, h1⟩
 ·exact h z hz
theorem Wym {d : Int} {l : List Int} (h : D10 (d :: l)) : D10 l := fun z hz => h z (List.mem_cons_of_mem _ hz)
theorem Qia {d : Int} {l : List Int} (h : D10 (d :: l)) : 0 ≤ d ∧ d < 10 := h d List.mem_cons_self
theorem Wvh {a b : List Int} (h : D10 a) (h' : D10 b) : D10 (a ++ b) := by
 intro z hz
 rcases List.mem_append.1 hz with hz | hz
 ·exact h z hz
 ·exact h' z hz
theorem D10_left {a b : List Int} (h : D10 (a ++ b)) : D10 a := fun z hz => h z (List.mem_append_left _ hz)
theorem Wia {l : List Int} (h : D10 l) (i : Nat) : 0 ≤ l.getD i 0 ∧ l.getD i 0 < 10 := by
 rw [List.getD_eq_getElem?_getD]
 by_cases hi : i < l.length
 ·rw [Z3 hi, Option.getD_some]; exact h _ (List.getElem_mem hi)
 ·rw [List.getElem?_eq_none (by omega)]; exact ⟨by decide, by decide⟩
theorem Qnw {l : List Int} (h : D10 l) (i : Nat) {d : Int} (h0 : 0 ≤ d) (h1 : d < 10) : D10 (l.set i d) := by
 intro z hz
 rcases List.mem_or_eq_of_mem_set hz with hz | rfl
 ·exact h z hz
 ·exact ⟨h0, h1⟩
theorem Wmd (n : Nat) : D10 (List.replicate n 0) := by
 intro z hz
 rw [(List.mem_replicate.1 hz).2]; exact ⟨by decide, by decide⟩
theorem Wga (n : Nat) : D10 (dig n) := by
 induction n using Nat.strongRecOn with
 | ind n ih =>
  by_cases h : n = 0
  ·subst h; rw [Wnp]; exact Wsi
  ·rw [Wkg h]; exact Wyo (by omega) (by omega) (ih _ (by omega))
theorem Wfy (n : Nat) : V10 (dig n) = n := by
 induction n using Nat.strongRecOn with
 | ind n ih =>
  by_cases h : n = 0
  ·subst h; rw [Wnp]; rfl
  ·rw [Wkg h, V10, ih _ (by omega)]; omega
theorem Zee {l : List Int} (h : D10 l) : 0 ≤ V10 l := by
 induction l with
 | nil => exact Int.le_refl _
 | cons d t ih =>
  have := ih (Wym h)
  have := Qia h
  rw [V10]; omega
theorem Wky (a b : List Int) : V10 (a ++ b) = V10 a + 10 ^ a.length * V10 b := by
 induction a with
 | nil => simp [V10]
 | cons d t ih => rw [List.cons_append, V10, ih, V10, List.length_cons]; grind
theorem Qnr {l : List Int} (h : D10 l) : V10 l < 10 ^ l.length := by
 induction l with
 | nil => simp [V10]
 | cons d t ih =>
  have h1 := ih (Wym h)
  have h2 := Qia h
  rw [V10, List.length_cons, Int.pow_succ]; omega
theorem Wtc (n : Nat) : V10 (List.replicate n 0) = 0 := by
 induction n with
 | zero => rfl
 | succ n ih => rw [List.replicate_succ, V10, ih]; rfl
theorem V10_set {l : List Int} {i : Nat} (h : i < l.length) (v : Int) : V10 (l.set i v) = V10 l + (v - l.getD i 0) * 10 ^ i := by
 induction l generalizing i with
 | nil => simp at h
 | cons d t ih =>
  cases i with
  | zero => rw [List.set_cons_zero, V10, V10, List.getD_cons_zero]; simp; omega
  | succ i =>
   rw [List.set_cons_succ, V10, V10, ih (by simp at h; omega), List.getD_cons_succ]; grind
theorem Wft (l : List Int) (i : Nat) : V10 (l.drop i) = l.getD i 0 + 10 * V10 (l.drop (i + 1)) := by
 by_cases h : i < l.length
 ·rw [List.drop_eq_getElem_cons h, V10, List.getD_eq_getElem?_getD, Z3 h]; rfl
 ·rw [List.drop_eq_nil_of_le (by omega), List.drop_eq_nil_of_le (by omega), List.getD_eq_getElem?_getD, List.getElem?_eq_none (by omega)]; rfl
theorem Zej {l : List Int} {i : Nat} (h : l.length ≤ i) : V10 (l.drop i) = 0 := by rw [List.drop_eq_nil_of_le h]; rfl
theorem Wrc {l : List Int} (h : D10 l) (i : Nat) : D10 (l.drop i) := fun z hz => h z (List.mem_of_mem_drop hz)
theorem Wyl {l : List Int} (h : D10 l) (i : Nat) : D10 (l.take i) := fun z hz => h z (List.mem_of_mem_take hz)
theorem Qbi (l : List Int) {i : Nat} (h : i ≤ l.length) : V10 l = V10 (l.take i) + 10 ^ i * V10 (l.drop i) := by
 have := Wky (l.take i) (l.drop i)
 rw [List.take_append_drop, List.length_take, Nat.min_eq_left h] at this
 exact this
theorem Qck {l : List Int} (h : D10 l) {i : Nat} (hi : i ≤ l.length) : V10 (l.take i) < 10 ^ i := by
 have := Qnr (Wyl h i)
 rw [List.length_take, Nat.min_eq_left hi] at this
 exact this
theorem Wfk {n m : Nat} (h : n < 10 ^ m) : (dig n).length ≤ m := by
 induction m generalizing n with
 | zero => rw [show n = 0 by simp at h; exact h, Wnp]; exact Nat.le_refl _
 | succ m ih =>
  by_cases h0 : n = 0
  ·rw [h0, Wnp]; exact Nat.zero_le _
  ·rw [Wkg h0, List.length_cons]
   have := ih (n := n / 10) (by rw [Nat.pow_succ] at h; omega)
   omega
theorem dig_lt (n : Nat) : n < 10 ^ (dig n).length := by
 have h := Qnr (Wga n)
 rw [Wfy, show (10 : Int) ^ (dig n).length = ((10 ^ (dig n).length : Nat) : Int) by simp] at h
 omega
theorem dig_ge {n : Nat} (h : n ≠ 0) : 10 ^ ((dig n).length - 1) ≤ n := by
 induction n using Nat.strongRecOn with
 | ind n ih =>
  rw [Wkg h, List.length_cons, Nat.add_sub_cancel]
  by_cases h1 : n / 10 = 0
  ·rw [h1, Wnp]; simp; omega
  ·have h2 := ih (n / 10) (by omega) h1
   have h3 : (dig (n / 10)).length = (dig (n / 10)).length - 1 + 1 := by rw [Wkg h1, List.length_cons]; omega
   rw [h3, Nat.pow_succ]; omega
theorem dig_of {l : List Int} (h : D10 l) (hl : l.getLast? ≠ some 0) : l = dig (V10 l).toNat := by
 induction l with
 | nil => rw [V10]; exact Wnp.symm
 | cons d t ih =>
  have h0 := Qia h
  have h1 := Zee (Wym h)
  have ht : t = dig (V10 t).toNat := by
   refine ih (Wym h) ?_
   intro hc
   cases t with
   | nil => cases hc
   | cons e u => exact hl (by rw [List.getLast?_cons_cons]; exact hc)
  have hne : (V10 (d :: t)).toNat ≠ 0 := by
   intro hz
   rw [V10] at hz
   have h2 : V10 t = 0 := by omega
   have h3 : d = 0 := by omega
   rw [h2] at ht
   rw [ht, h3] at hl
   exact hl (by rw [show (0 : Int).toNat = 0 from rfl, Wnp]; rfl)
  rw [Wkg hne, V10]
  have e1 : (((d + 10 * V10 t).toNat % 10 : Nat) : Int) = d := by omega
  have e2 : (d + 10 * V10 t).toNat / 10 = (V10 t).toNat := by omega
  rw [e1, e2, ← ht]
theorem Qhm {a b : Nat} (h : (dig a).length < (dig b).length) : a < b := by
 have hb : b ≠ 0 := by rintro rfl; rw [Wnp] at h; simp at h
 have h1 := dig_lt a
 have h2 := dig_ge hb
 have h3 := Nat.pow_le_pow_right (show 0 < 10 by decide) (show (dig a).length ≤ (dig b).length - 1 by omega)
 omega
theorem inS_t {a b : Int} {n : Nat} (h0 : 0 ≤ a) (h1 : a ≤ b) (h2 : b ≤ n) : inS a b n = true := by unfold inS; simp [h0, h1, h2]
theorem Zfb {n b : Nat} (h : n * b ≤ 140737488355328) : Weh n b = true := by unfold Weh; simp [h]
end Go.Dg
namespace Go.Proofs.Ytbchcjlllddlpaa.Pure
set_option linter.unusedVariables false
set_option linter.unusedSimpArgs false
open Go Go.Ev Go.Lm Go.Pu Go.Dg
theorem dig_1 : dig 1 = [1] := by rw [Wkg (by decide), show 1 / 10 = 0 by decide, Wnp]; rfl
theorem Word_iter (k : Nat) : ∀ (m f n : Nat) (acc : List Int), m < f → n < 10 ^ m → n < 18446744073709551616 → acc.length + m ≤ 1000 → iter (Zaq.l2.once k) f ((n : Int), acc) = some (acc ++ dig n) := by
 have stop : ∀ (f : Nat) (acc : List Int), 0 < f → iter (Zaq.l2.once k) f (((0 : Nat) : Int), acc) = some (acc ++ dig 0) := by
  intro f acc hf
  obtain ⟨f, rfl⟩ : ∃ g, f = g + 1 := ⟨f - 1, by omega⟩
  rw [Wnp, List.append_nil]
  refine Zbq ?_
  unfold Zaq.l2.once
  rfl
 intro m
 induction m with
 | zero =>
  intro f n acc hf hn _ _
  obtain rfl : n = 0 := by simp at hn; exact hn
  exact stop f acc (by omega)
 | succ m ih =>
  intro f n acc hf hn hn' hl
  by_cases h0 : n = 0
  ·subst h0; exact stop f acc (by omega)
  ·obtain ⟨f, rfl⟩ : ∃ g, f = g + 1 := ⟨f - 1, by omega⟩
   have once : Zaq.l2.once k ((n : Int), acc) = some (.inl (((n / 10 : Nat) : Int), acc ++ [((n % 10 : Nat) : Int)])) := by
    unfold Zaq.l2.once
    dsimp only
    rw [ct (by omega), Zfb (by simp only [List.length_cons, List.length_nil]; omega), cond_true, show Int.tdiv (n : Int) 10 = ((n / 10 : Nat) : Int) from rfl, show Int.tmod (n : Int) 10 = ((n % 10 : Nat) : Int) from rfl, Wpx (by omega), Wbt (by omega)]
   rw [Zdd once, ih f (n / 10) _ (by omega) (by rw [Nat.pow_succ] at hn; omega) (by omega) (by simp only [List.length_append, List.length_cons, List.length_nil]; omega), Wkg h0, List.append_assoc]
   rfl
theorem Qdq {k : Nat} (hk : 30 < k) {n : Nat} (h : n < 18446744073709551616) : Zaq.f k (n : Int) = some (dig n) := by
 unfold Zaq.f
 rw [Word_iter k 20 k n [] (by omega) (by omega) h (by simp), Z0, List.nil_append]
theorem digit_eq (k : Nat) (l : List Int) (i : Nat) : Zbu.f k l (i : Int) = some (l.getD i 0) := by
 unfold Zbu.f
 by_cases h : i < l.length
 ·rw [ct (by omega), Wbv (by omega) (by omega), cond_true]; rfl
 ·rw [cf (by omega), List.getD_eq_getElem?_getD, List.getElem?_eq_none (by omega)]; rfl
theorem trim_iter (k : Nat) : ∀ (n : Nat) (l : List Int), D10 l → l.length ≤ 1000 → l.length < n → iter (Zan.l1.once k) n l = some (dig (V10 l).toNat) := by
 intro n
 induction n with
 | zero => intro l _ _ h; omega
 | succ n ih =>
  intro l hd hl hn
  rcases List.eq_nil_or_concat l with rfl | ⟨a, d, rfl⟩
  ·rw [V10, show (0 : Int).toNat = 0 from rfl, Wnp]
   exact Zbq (by unfold Zan.l1.once; rfl)
  ·rw [List.concat_eq_append] at *
   have hlen : (a ++ [d]).length = a.length + 1 := by simp
   have hg : (a ++ [d]).getD a.length 0 = d := by simp
   have hw : IntKind.wrap .i64 (((a.length + 1 : Nat) : Int) - 1) = (a.length : Int) := by rw [Wbt (by omega)]; omega
   have once : Zan.l1.once k (a ++ [d]) = cond (d == 0) (some (.inl a)) (some (.inr (a ++ [d]))) := by
    unfold Zan.l1.once
    dsimp only
    rw [hlen, ct (by omega), hw, Wbv (by omega) (by omega), cond_true, Z0]
    dsimp only
    rw [hlen, hw, Int.toNat_natCast, hg, inS_t (by omega) (by omega) (by omega), cond_true, List.take_left]
   by_cases h0 : d = 0
   ·subst h0
    rw [Zdd once, ih a (D10_left hd) (by omega) (by omega), Wky]
    simp [V10]
   ·rw [show (d == 0) = false by simp [h0], cond_false] at once
    rw [Zbq once]
    exact congrArg some (dig_of hd (by simp [h0]))
theorem Wvu {k : Nat} {l : List Int} (hd : D10 l) (hl : l.length ≤ 1000) (hk : l.length < k) : Zan.f k l = some (dig (V10 l).toNat) := by
 unfold Zan.f
 rw [trim_iter k k l hd hl hk, Z0]
theorem tdiv10 {s : Int} (h : 0 ≤ s) : Int.tdiv s 10 = s / 10 := Int.tdiv_eq_ediv_of_nonneg h
theorem tmod10 {s : Int} (h : 0 ≤ s) : Int.tmod s 10 = s % 10 := Int.tmod_eq_emod_of_nonneg h
theorem Quz {k : Nat} (hk : 600 < k) {l1 l2 : List Int} (h1 : D10 l1) (h2 : D10 l2) (hl1 : l1.length ≤ 400) (hl2 : l2.length ≤ 400) : Zag.f k l1 l2 = some (dig (V10 l1 + V10 l2).toNat) := by
 unfold Zag.f
 obtain ⟨M, hM1, hM2, hM3, hM4⟩ : ∃ M : Nat, l1.length ≤ M ∧ l2.length ≤ M ∧ M ≤ 400 ∧ (M = l1.length ∨ M = l2.length) := ⟨max l1.length l2.length, by omega, by omega, by omega, by omega⟩
 obtain ⟨y, e1, e2, e3, e4⟩ := Zeb (once := Zag.l4.once k) (fun x => ∃ (i : Nat) (c : Int) (out : List Int), x = (l1, l2, out, c, (i : Int)) ∧ out.length = i ∧ D10 out ∧ (c = 0 ∨ c = 1) ∧ (i ≤ M ∨ (i = M + 1 ∧ c = 0)) ∧ V10 out + 10 ^ i * (c + V10 (l1.drop i) + V10 (l2.drop i)) = V10 l1 + V10 l2)
  (fun x => M + 1 - x.2.2.2.2.toNat) (fun y => D10 y ∧ y.length ≤ 401 ∧ V10 y = V10 l1 + V10 l2) (by
  rintro x ⟨i, c, out, rfl, ho, hd, hc, hi, hv⟩
  have b1 := Wia h1 i
  have b2 := Wia h2 i
  by_cases run : i < l1.length ∨ i < l2.length ∨ c > 0
  ·left
   have once : Zag.l4.once k (l1, l2, out, c, (i : Int)) = some (.inl (l1, l2, out ++ [(l1.getD i 0 + l2.getD i 0 + c) % 10], (l1.getD i 0 + l2.getD i 0 + c) / 10, ((i + 1 : Nat) : Int))) := by
    unfold Zag.l4.once
    dsimp only
    have tail : ∀ (o : Option (List Int × List Int × List Int × Int × Int × Bool)), o = some (l1, l2, out, c, (i : Int), true) → (o.bind fun y12 => (cond (y12.2.2.2.2.2) ((Zbu.f k y12.1 y12.2.2.2.2.1).bind fun t13 => ((Zbu.f k y12.2.1 y12.2.2.2.2.1).bind fun t14 => (cond (Weh (List.length y12.2.2.1 + List.length [Int.tmod (IntKind.wrap .i64 ((IntKind.wrap .i64 (t13 + t14)) + y12.2.2.2.1)) 10]) 8) (some (.inl (y12.1, y12.2.1, y12.2.2.1 ++ [Int.tmod (IntKind.wrap .i64 ((IntKind.wrap .i64 (t13 + t14)) + y12.2.2.2.1)) 10], IntKind.wrap .i64 (Int.tdiv (IntKind.wrap .i64 ((IntKind.wrap .i64 (t13 + t14)) + y12.2.2.2.1)) 10), IntKind.wrap .i64 (y12.2.2.2.2.1 + 1)))) none))) (some (.inr y12.2.2.1)))) = some ((.inl (l1, l2, out ++ [(l1.getD i 0 + l2.getD i 0 + c) % 10], (l1.getD i 0 + l2.getD i 0 + c) / 10, ((i + 1 : Nat) : Int))) : (List Int × List Int × List Int × Int × Int) ⊕ (List Int)) := by
     rintro o rfl
     rw [Z0]
     dsimp only
     rw [cond_true, digit_eq, Z0, digit_eq, Z0]
     generalize l1.getD i 0 = p at *
     generalize l2.getD i 0 = q at *
     rw [Zfb (by simp only [List.length_cons, List.length_nil]; omega), cond_true, Wbt (n := p + q) (by omega), Wbt (n := p + q + c) (by omega), tdiv10 (by omega), tmod10 (by omega), Wbt (n := (p + q + c) / 10) (by omega), Wbt (n := (i : Int) + 1) (by omega)]
     rfl
    refine tail _ ?_
    by_cases r1 : i < l1.length
    ·rw [ct (by omega)]
    ·rw [cf (by omega)]
     by_cases r2 : i < l2.length
     ·rw [ct (by omega)]
     ·rw [cf (by omega), decide_eq_true (by omega)]
   refine ⟨_, once, ⟨i + 1, _, _, rfl, by simp [ho], Wvh hd (Wyo (by omega) (by omega) Wsi), by omega, ?_, ?_⟩, ?_⟩
   ·by_cases hlt : i < M
    ·left; omega
    ·right
     have g1 : l1.getD i 0 = 0 := by rw [List.getD_eq_getElem?_getD, List.getElem?_eq_none (by omega)]; rfl
     have g2 : l2.getD i 0 = 0 := by rw [List.getD_eq_getElem?_getD, List.getElem?_eq_none (by omega)]; rfl
     rw [g1, g2]; omega
   ·rw [Wky, ho, ← hv, Wft l1 i, Wft l2 i]
    generalize l1.getD i 0 = p at *
    generalize l2.getD i 0 = q at *
    have := Int.mul_ediv_add_emod (p + q + c) 10
    simp only [V10]
    grind
   ·dsimp only; omega
  ·right
   refine ⟨out, ?_, hd, by omega, ?_⟩
   ·unfold Zag.l4.once
    dsimp only
    rw [cf (by omega), cf (by omega), decide_eq_false (by omega)]
    rfl
   ·rw [Zej (by omega), Zej (by omega)] at hv
    rw [← hv, show c = 0 by omega]; simp) k (l1, l2, [], 0, ((0 : Nat) : Int)) ⟨0, 0, [], rfl, rfl, Wsi, .inl rfl, .inl (by omega), by simp [V10]⟩ (by dsimp only; omega)
 have e1' : iter (Zag.l4.once k) k (l1, l2, [], 0, 0) = some y := e1
 rw [e1', Z0, Wvu e2 (by omega) (by omega), e4, Z0]
theorem Wsl {k : Nat} (hk : 600 < k) {a b : Nat} (ha : a < 10 ^ 200) (hb : b < 10 ^ 200) : Zag.f k (dig a) (dig b) = some (dig (a + b)) := by
 have l1 := Wfk ha
 have l2 := Wfk hb
 rw [Quz hk (Wga a) (Wga b) (by omega) (by omega), Wfy, Wfy]
 exact congrArg (fun z => some (dig z)) (by omega)
theorem Wny {k : Nat} (hk : 600 < k) {a b : Nat} (ha : a < 10 ^ 200) (hb : b ≤ a) : Zaf.f k (dig a) (dig b) = some (dig (a - b)) := by
 have hl1 := Wfk ha
 have hl2 := Wfk (Nat.lt_of_le_of_lt hb ha)
 have h1 := Wga a
 have h2 := Wga b
 have v1 := Wfy a
 have v2 := Wfy b
 generalize dig a = l1 at *
 generalize dig b = l2 at *
 unfold Zaf.f
 obtain ⟨y, e1, e2, e3, e4⟩ := Zeb (once := Zaf.l4.once k) (fun x => ∃ (i : Nat) (c : Int) (out : List Int), x = (l1, l2, out, c, (i : Int)) ∧ out.length = i ∧ D10 out ∧ (c = 0 ∨ c = 1) ∧ i ≤ l1.length ∧ V10 out + 10 ^ i * (V10 (l1.drop i) - V10 (l2.drop i) - c) = V10 l1 - V10 l2)
  (fun x => l1.length - x.2.2.2.2.toNat) (fun y => D10 y ∧ y.length ≤ 200 ∧ V10 y = V10 l1 - V10 l2) (by
  rintro x ⟨i, c, out, rfl, ho, hd, hc, hi, hv⟩
  have b1 := Wia h1 i
  have b2 := Wia h2 i
  by_cases run : i < l1.length
  ·left
   have once : Zaf.l4.once k (l1, l2, out, c, (i : Int)) = some (.inl (l1, l2, out ++ [(l1.getD i 0 - l2.getD i 0 - c) % 10], if l1.getD i 0 - l2.getD i 0 - c < 0 then 1 else 0, ((i + 1 : Nat) : Int))) := by
    unfold Zaf.l4.once
    dsimp only
    rw [ct (by omega), Wbv (by omega) (by omega), cond_true, digit_eq, Z0, Int.toNat_natCast]
    generalize l1.getD i 0 = p at *
    generalize l2.getD i 0 = q at *
    rw [Wbt (n := p - q) (by omega), Wbt (n := p - q - c) (by omega)]
    by_cases hn : p - q - c < 0
    ·rw [ct hn, Z0]
     dsimp only
     rw [Wbt (n := p - q - c + 10) (by omega), Zfb (by simp only [List.length_cons, List.length_nil]; omega), cond_true, Z0]
     dsimp only
     rw [Wbt (n := (i : Int) + 1) (by omega), if_pos hn, show (p - q - c) % 10 = p - q - c + 10 by omega]
     rfl
    ·rw [cf hn, Z0]
     dsimp only
     rw [Zfb (by simp only [List.length_cons, List.length_nil]; omega), cond_true, Z0]
     dsimp only
     rw [Wbt (n := (i : Int) + 1) (by omega), if_neg hn, show (p - q - c) % 10 = p - q - c by omega]
     rfl
   refine ⟨_, once, ⟨i + 1, _, _, rfl, by simp [ho], Wvh hd (Wyo (by omega) (by omega) Wsi), by split <;> omega, by omega, ?_⟩, ?_⟩
   ·rw [Wky, ho, ← hv, Wft l1 i, Wft l2 i]
    generalize l1.getD i 0 = p at *
    generalize l2.getD i 0 = q at *
    have hs : (p - q - c) % 10 = p - q - c + 10 * (if p - q - c < 0 then 1 else 0) := by split <;> omega
    simp only [V10]
    generalize (if p - q - c < 0 then (1 : Int) else 0) = c' at *
    rw [hs]
    grind
   ·dsimp only; omega
  ·right
   refine ⟨out, ?_, hd, by omega, ?_⟩
   ·unfold Zaf.l4.once
    dsimp only
    rw [cf (by omega)]
   ·rw [Zej (l := l1) (by omega)] at hv
    have p1 := Qnr hd
    rw [ho] at p1
    have p2 := Zee (Wrc h2 i)
    have p3 : 0 < (10 : Int) ^ i := Int.pow_pos (by decide)
    by_cases hz : V10 (l2.drop i) + c = 0
    ·rw [← hv, show 0 - V10 (l2.drop i) - c = 0 by omega]; simp
    ·exfalso
     have : (10 : Int) ^ i * 1 ≤ 10 ^ i * (V10 (l2.drop i) + c) := Int.mul_le_mul_of_nonneg_left (by omega) (Int.le_of_lt p3)
     have e : (10 : Int) ^ i * (0 - V10 (l2.drop i) - c) = - (10 ^ i * (V10 (l2.drop i) + c)) := by grind
     rw [e] at hv
     omega) k (l1, l2, [], 0, ((0 : Nat) : Int)) ⟨0, 0, [], rfl, rfl, Wsi, .inl rfl, by omega, by simp [V10]⟩ (by dsimp only; omega)
 have e1' : iter (Zaf.l4.once k) k (l1, l2, [], 0, 0) = some y := e1
 rw [e1', Z0, Wvu e2 (by omega) (by omega), e4, Z0, v1, v2]
 exact congrArg (fun z => some (dig z)) (by omega)
theorem drop_lt {l1 l2 : List Int} (h1 : D10 l1) (h2 : D10 l2) {t : Nat} (t1 : t ≤ l1.length) (t2 : t ≤ l2.length) (h : V10 (l1.drop t) < V10 (l2.drop t)) : V10 l1 < V10 l2 := by
 rw [Qbi l1 t1, Qbi l2 t2]
 have p1 := Qck h1 t1
 have p2 := Zee (Wyl h2 t)
 have p3 : 0 < (10 : Int) ^ t := Int.pow_pos (by decide)
 have : (10 : Int) ^ t * (V10 (l1.drop t) + 1) ≤ 10 ^ t * V10 (l2.drop t) := Int.mul_le_mul_of_nonneg_left (by omega) (Int.le_of_lt p3)
 rw [Int.mul_add] at this
 omega
theorem Cmp_iter (k : Nat) {l1 l2 : List Int} (h1 : D10 l1) (h2 : D10 l2) (hl : l1.length = l2.length) (hL : l1.length ≤ 1000) : ∀ (t m : Nat), t ≤ l1.length → t < m → V10 (l1.drop t) = V10 (l2.drop t) →
  (V10 l1 = V10 l2 ∧ iter (Zai.l6.once k) m (l1, l2, (t : Int) - 1) = some (.inl ())) ∨ (V10 l1 < V10 l2 ∧ iter (Zai.l6.once k) m (l1, l2, (t : Int) - 1) = some (.inr (-1))) ∨ (V10 l2 < V10 l1 ∧ iter (Zai.l6.once k) m (l1, l2, (t : Int) - 1) = some (.inr 1)) := by
 intro t
 induction t with
 | zero =>
  intro m _ hm hv
  obtain ⟨m, rfl⟩ : ∃ n, m = n + 1 := ⟨m - 1, by omega⟩
  left
  exact ⟨hv, Zbq (by unfold Zai.l6.once; rfl)⟩
 | succ t ih =>
  intro m ht hm hv
  obtain ⟨m, rfl⟩ : ∃ n, m = n + 1 := ⟨m - 1, by omega⟩
  have once : Zai.l6.once k (l1, l2, ((t + 1 : Nat) : Int) - 1) = cond (decide (l1.getD t 0 < l2.getD t 0)) (some (.inr (.inr (-1)))) (cond (decide (l1.getD t 0 > l2.getD t 0)) (some (.inr (.inr 1))) (some (.inl (l1, l2, (t : Int) - 1)))) := by
   unfold Zai.l6.once
   dsimp only
   rw [show ((t + 1 : Nat) : Int) - 1 = (t : Int) by omega, ct (by omega), Wbv (by omega) (by omega), cond_true, Wbv (by omega) (by omega), cond_true, Int.toNat_natCast, Wbt (show -9223372036854775808 ≤ (t : Int) - 1 ∧ (t : Int) - 1 < 9223372036854775808 by omega)]
   rfl
  have d1 := Wft l1 t
  have d2 := Wft l2 t
  by_cases hlt : l1.getD t 0 < l2.getD t 0
  ·rw [ct hlt] at once
   right; left
   exact ⟨drop_lt h1 h2 (t := t) (by omega) (by omega) (by omega), Zbq once⟩
  ·rw [cf hlt] at once
   by_cases hgt : l1.getD t 0 > l2.getD t 0
   ·rw [ct hgt] at once
    right; right
    exact ⟨drop_lt h2 h1 (t := t) (by omega) (by omega) (by omega), Zbq once⟩
   ·rw [cf hgt] at once
    rw [Zdd once]
    exact ih m (by omega) (by omega) (by omega)
theorem Wsk {k : Nat} (hk : 600 < k) {a b : Nat} (ha : a < 10 ^ 200) (hb : b < 10 ^ 200) : Zai.f k (dig a) (dig b) = some (if a < b then -1 else if a = b then 0 else 1) := by
 have hl1 := Wfk ha
 have hl2 := Wfk hb
 unfold Zai.f
 by_cases hl : (dig a).length = (dig b).length
 ·rw [show (((dig a).length : Int) != ((dig b).length : Int)) = false by rw [hl]; simp, cond_false, Wbt (by omega)]
  rcases Cmp_iter k (Wga a) (Wga b) hl (by omega) (dig a).length k (Nat.le_refl _) (by omega) (by rw [Zej (Nat.le_refl _), Zej (by omega)]) with ⟨h, e⟩ | ⟨h, e⟩ | ⟨h, e⟩
  all_goals rw [Wfy, Wfy] at h; rw [e, Z0]; dsimp only
  ·rw [if_neg (by omega), if_pos (by omega)]
  ·rw [if_pos (by omega)]
  ·rw [if_neg (by omega), if_neg (by omega)]
 ·rw [show (((dig a).length : Int) != ((dig b).length : Int)) = true by simp only [bne_iff_ne, ne_eq]; omega, cond_true]
  by_cases hlt : (dig a).length < (dig b).length
  ·rw [ct (by omega), if_pos (Qhm hlt)]
  ·have := Qhm (show (dig b).length < (dig a).length by omega)
   rw [cf (by omega), if_neg (by omega), if_neg (by omega)]
theorem Qpr {k : Nat} (hk : 600 < k) : Zcq.f k = some (dig 18446744073709551616) := by
 unfold Zcq.f
 have h : Zaq.f k 18446744073709551615 = some (dig 18446744073709551615) := Qdq (by omega) (n := 18446744073709551615) (by decide)
 rw [h, Z0, ← dig_1, Wsl hk (by omega) (by omega), Z0]
end Go.Proofs.Ytbchcjlllddlpaa.Pure
namespace Go.Proofs.Ytbchcjlllddlpaa.Pure
set_option linter.unusedVariables false
set_option linter.unusedSimpArgs false
open Go Go.Ev Go.Lm Go.Pu Go.Dg
theorem Qop (l : List Int) {i : Nat} (h : i < l.length) : V10 (l.take (i + 1)) = V10 (l.take i) + 10 ^ i * l.getD i 0 := by
 have e : l.take (i + 1) = l.take i ++ [l.getD i 0] := by rw [List.take_succ_eq_append_getElem h, List.getD_eq_getElem?_getD, Z3 h]; rfl
 rw [e, Wky, List.length_take, Nat.min_eq_left (by omega)]; simp [V10]
theorem Mul_row10 {k : Nat} (hk : 602 < k) {l1 l2 Wgz : List Int} {i : Nat} (h1 : D10 l1) (h2 : D10 l2) (hi : i < l1.length) (h0 : D10 Wgz) (hL : Wgz.length = l1.length + l2.length + 1) (hLb : Wgz.length ≤ 600) (hT : V10 Wgz + 10 ^ i * (l1.getD i 0 * V10 l2) < 10 ^ Wgz.length) :
  ∃ out, iter (Zz.l7.once k) k (l1, l2, (i : Int), 0, 0, Wgz) = some (l1, l2, (i : Int), out) ∧ D10 out ∧ out.length = Wgz.length ∧ V10 out = V10 Wgz + 10 ^ i * (l1.getD i 0 * V10 l2) := by
 have hd := Wia h1 i
 generalize hdd : l1.getD i 0 = d at *
 generalize hTT : V10 Wgz + 10 ^ i * (d * V10 l2) = T at *
 obtain ⟨y, e1, out, rfl, e2, e3, e4⟩ := Zeb (once := Zz.l7.once k) (fun x => ∃ (j : Nat) (c : Int) (out : List Int), x = (l1, l2, (i : Int), c, (j : Int), out) ∧ D10 out ∧ out.length = Wgz.length ∧ 0 ≤ c ∧ c ≤ 9 ∧ i + j ≤ Wgz.length ∧ V10 out + 10 ^ (i + j) * (c + d * V10 (l2.drop j)) = T)
  (fun x => Wgz.length - x.2.2.2.2.1.toNat) (fun y => ∃ out, y = (l1, l2, (i : Int), out) ∧ D10 out ∧ out.length = Wgz.length ∧ V10 out = T) (by
  rintro x ⟨j, c, out, rfl, ho, hlen, hc0, hc9, hij, hv⟩
  have b2 := Wia h2 j
  have p1 := Zee ho
  have p2 := Zee (Wrc h2 j)
  have p3 : 0 ≤ d * V10 (l2.drop j) := Int.mul_nonneg hd.1 p2
  by_cases run : j < l2.length ∨ c > 0
  ·left
   have hb : i + j < Wgz.length := by
    rcases run with h | h
    ·omega
    ·refine Nat.lt_of_not_le fun hle => ?_
     have : i + j = Wgz.length := by omega
     rw [this] at hv
     have p4 : 0 < (10 : Int) ^ Wgz.length := Int.pow_pos (by decide)
     have : (10 : Int) ^ Wgz.length * 1 ≤ 10 ^ Wgz.length * (c + d * V10 (l2.drop j)) := Int.mul_le_mul_of_nonneg_left (by omega) (Int.le_of_lt p4)
     omega
   have b3 := Wia ho (i + j)
   have hdq : 0 ≤ d * l2.getD j 0 ∧ d * l2.getD j 0 ≤ 81 := by
    refine ⟨Int.mul_nonneg hd.1 b2.1, ?_⟩
    have g1 : d * l2.getD j 0 ≤ 9 * l2.getD j 0 := Int.mul_le_mul_of_nonneg_right (by omega) b2.1
    omega
   have once : Zz.l7.once k (l1, l2, (i : Int), c, (j : Int), out) = some (.inl (l1, l2, (i : Int), (out.getD (i + j) 0 + d * l2.getD j 0 + c) / 10, ((j + 1 : Nat) : Int), out.set (i + j) ((out.getD (i + j) 0 + d * l2.getD j 0 + c) % 10))) := by
    unfold Zz.l7.once
    dsimp only
    have first : (cond (decide ((j : Int) < (l2.length : Int))) (some (l1, l2, (i : Int), c, (j : Int), true, out)) (some (l1, l2, (i : Int), c, (j : Int), decide (c > 0), out)) : Option (List Int × List Int × Int × Int × Int × Bool × List Int)) = some (l1, l2, (i : Int), c, (j : Int), true, out) := by
     by_cases h : j < l2.length
     ·rw [ct (by omega)]
     ·rw [cf (by omega), decide_eq_true (by omega)]
    refine (congrArg (Option.bind · _) first).trans ?_
    rw [Z0]
    dsimp only
    have hw : IntKind.wrap .i64 ((i : Int) + (j : Int)) = ((i + j : Nat) : Int) := by rw [Wbt (by omega)]; omega
    rw [cond_true, hw, Wbv (by omega) (by omega), cond_true, Int.toNat_natCast, Wen (by omega), cond_true, Wbv (by omega) (by omega), cond_true, digit_eq, Z0, cond_true, cond_true, Int.toNat_natCast, hdd, Wbt (n := d * l2.getD j 0) (by omega)]
    generalize d * l2.getD j 0 = q at *
    generalize out.getD (i + j) 0 = p at *
    rw [Wbt (n := p + q) (by omega), Wbt (n := p + q + c) (by omega), tdiv10 (by omega), tmod10 (by omega), Wbt (n := (p + q + c) / 10) (by omega), Wbt (n := (j : Int) + 1) (by omega)]
    rfl
   refine ⟨_, once, ⟨j + 1, _, _, rfl, Qnw ho _ (by omega) (by omega), by rw [List.length_set, hlen], by omega, by omega, by omega, ?_⟩, ?_⟩
   ·rw [V10_set (by omega), ← hv, Wft l2 j]
    generalize l2.getD j 0 = q at *
    generalize out.getD (i + j) 0 = p at *
    have := Int.mul_ediv_add_emod (p + d * q + c) 10
    generalize (p + d * q + c) / 10 = u at *
    generalize (p + d * q + c) % 10 = w at *
    rw [show i + (j + 1) = i + j + 1 by omega, Int.pow_succ]
    generalize (10 : Int) ^ (i + j) = P at *
    grind
   ·dsimp only; omega
  ·right
   refine ⟨(l1, l2, (i : Int), out), ?_, out, rfl, ho, hlen, ?_⟩
   ·unfold Zz.l7.once
    dsimp only
    rw [cf (by omega), decide_eq_false (by omega)]
    rfl
   ·rw [Zej (by omega)] at hv
    rw [← hv, show c = 0 by omega]; simp) k (l1, l2, (i : Int), 0, ((0 : Nat) : Int), Wgz) ⟨0, 0, Wgz, rfl, h0, rfl, by decide, by decide, by omega, by rw [← hTT]; simp⟩ (by dsimp only; omega)
 exact ⟨out, e1, e2, e3, e4⟩
theorem Qky {k : Nat} (hk : 602 < k) {a b : Nat} (ha : a < 10 ^ 200) (hb : b < 10 ^ 200) : Zz.f k (dig a) (dig b) = some (dig (a * b)) := by
 have hl1 := Wfk ha
 have hl2 := Wfk hb
 have h1 := Wga a
 have h2 := Wga b
 have v1 := Wfy a
 have v2 := Wfy b
 generalize dig a = l1 at *
 generalize dig b = l2 at *
 unfold Zz.f
 have hw : IntKind.wrap .i64 (IntKind.wrap .i64 ((l1.length : Int) + (l2.length : Int)) + 1) = ((l1.length + l2.length + 1 : Nat) : Int) := by rw [Wbt (n := (l1.length : Int) + (l2.length : Int)) (by omega), Wbt (by omega)]; omega
 rw [hw, decide_eq_true (show (0 : Int) ≤ ((l1.length + l2.length + 1 : Nat) : Int) by omega), decide_eq_true (show ((l1.length + l2.length + 1 : Nat) : Int) = ((l1.length + l2.length + 1 : Nat) : Int) from rfl), decide_eq_true (show ((l1.length + l2.length + 1 : Nat) : Int) * 8 ≤ 140737488355328 by omega), Bool.and_true, Bool.and_true, cond_true, Int.toNat_natCast]
 generalize hn : l1.length + l2.length + 1 = n at *
 obtain ⟨y, e1, e2, e3, e4⟩ := Zeb (once := Zz.l3.once k) (fun x => ∃ (i : Nat) (out : List Int), x = (l1, l2, (i : Int), out) ∧ i ≤ l1.length ∧ D10 out ∧ out.length = n ∧ V10 out = V10 (l1.take i) * V10 l2)
  (fun x => l1.length - x.2.2.1.toNat) (fun y => D10 y ∧ y.length = n ∧ V10 y = V10 l1 * V10 l2) (by
  rintro x ⟨i, out, rfl, hi, ho, hlen, hv⟩
  by_cases run : i < l1.length
  ·left
   have htk := Qop l1 run
   have hT : V10 out + 10 ^ i * (l1.getD i 0 * V10 l2) = V10 (l1.take (i + 1)) * V10 l2 := by rw [hv, htk]; grind
   have q1 := Zee (Wyl h1 (i + 1))
   have q2 := Qck h1 (i := i + 1) (by omega)
   have q3 := Zee h2
   have q4 := Qnr h2
   have q5 : 0 < (10 : Int) ^ l2.length := Int.pow_pos (by decide)
   have q6 : V10 (l1.take (i + 1)) * V10 l2 ≤ V10 (l1.take (i + 1)) * 10 ^ l2.length := Int.mul_le_mul_of_nonneg_left (by omega) q1
   have q7 : V10 (l1.take (i + 1)) * 10 ^ l2.length < 10 ^ (i + 1) * 10 ^ l2.length := Int.mul_lt_mul_of_pos_right q2 q5
   have q8 : (10 : Int) ^ (i + 1) * 10 ^ l2.length ≤ 10 ^ n := by
    rw [← Int.pow_add, show (10 : Int) ^ (i + 1 + l2.length) = ((10 ^ (i + 1 + l2.length) : Nat) : Int) by simp, show (10 : Int) ^ n = ((10 ^ n : Nat) : Int) by simp]
    have := Nat.pow_le_pow_right (show 0 < 10 by decide) (show i + 1 + l2.length ≤ n by omega)
    omega
   obtain ⟨out', r1, r2, r3, r4⟩ := Mul_row10 (k := k) (i := i) hk h1 h2 run ho (by omega) (by omega) (by rw [hT, hlen]; omega)
   refine ⟨(l1, l2, ((i + 1 : Nat) : Int), out'), ?_, ⟨i + 1, out', rfl, by omega, r2, by omega, by rw [r4, hT]⟩, by dsimp only; omega⟩
   unfold Zz.l3.once
   dsimp only
   rw [ct (by omega), r1, Z0]
   dsimp only
   rw [Wbt (by omega)]
   rfl
  ·right
   refine ⟨out, ?_, ho, hlen, ?_⟩
   ·unfold Zz.l3.once
    dsimp only
    rw [cf (by omega)]
   ·rw [hv, List.take_of_length_le (by omega)]) k (l1, l2, ((0 : Nat) : Int), List.replicate n 0) ⟨0, _, rfl, by omega, Wmd n, by simp, by rw [Wtc]; simp [V10]⟩ (by dsimp only; omega)
 have e1' : iter (Zz.l3.once k) k (l1, l2, 0, List.replicate n 0) = some y := e1
 rw [e1', Z0, Wvu e2 (by omega) (by omega), e4, Z0, v1, v2, ← Int.natCast_mul, Int.toNat_natCast]
theorem Div_sub {k : Nat} (hk : 602 < k) (l1 : List Int) {a b : Nat} (hb : 0 < b) (hb' : b < 10 ^ 100) (ha : a < 10 * b) {i : Nat} {q : List Int} (hi : i < q.length) (hq : q.getD i 0 = 0) (hqb : q.length ≤ 600) :
  iter (Zab.l7.once k) k (l1, dig b, dig a, (i : Int), q) = some (l1, dig b, dig (a % b), (i : Int), q.set i ((a / b : Nat) : Int)) := by
 have hq0 : q.set i 0 = q := by
  have : q[i] = 0 := by rw [List.getD_eq_getElem?_getD, Z3 hi] at hq; exact hq
  rw [← this, List.set_getElem_self]
 obtain ⟨y, e1, e2⟩ := Zeb (once := Zab.l7.once k) (fun x => ∃ c : Nat, x = (l1, dig b, dig (a - b * c), (i : Int), q.set i (c : Int)) ∧ b * c ≤ a ∧ c ≤ 9)
  (fun x => 10 - (x.2.2.2.2.getD i 0).toNat) (fun y => y = (l1, dig b, dig (a % b), (i : Int), q.set i ((a / b : Nat) : Int))) (by
  rintro x ⟨c, rfl, hc, hc9⟩
  have hlen : (q.set i (c : Int)).length = q.length := List.length_set
  have hg : (q.set i (c : Int)).getD i 0 = (c : Int) := by rw [List.getD_eq_getElem?_getD, List.getElem?_set_self hi, Option.getD_some]
  have hcmp := Wsk (k := k) (a := a - b * c) (b := b) (by omega) (by omega) (by omega)
  by_cases run : b ≤ a - b * c
  ·left
   have hc' : b * (c + 1) ≤ a := by rw [Nat.mul_add]; omega
   have hc9' : c + 1 ≤ 9 := by
    refine Nat.le_of_not_lt fun h => ?_
    have := Nat.mul_le_mul_left b (show 10 ≤ c + 1 by omega)
    omega
   refine ⟨(l1, dig b, dig (a - b * (c + 1)), (i : Int), q.set i ((c + 1 : Nat) : Int)), ?_, ⟨c + 1, rfl, hc', hc9'⟩, ?_⟩
   ·unfold Zab.l7.once
    dsimp only
    rw [hcmp, Z0, if_neg (by omega)]
    rw [show decide ((if a - b * c = b then (0 : Int) else 1) ≥ 0) = true by split <;> rfl, cond_true, Wny (by omega) (by omega) run, Z0, hlen, Wbv (by omega) (by omega), cond_true, Int.toNat_natCast, Wen hi, cond_true, cond_true, cond_true, hg, List.set_set, Wbt (by omega), Nat.mul_add, Nat.mul_one, Nat.sub_sub]
    rfl
   ·dsimp only
    rw [hg, show (q.set i ((c + 1 : Nat) : Int)).getD i 0 = ((c + 1 : Nat) : Int) by rw [List.getD_eq_getElem?_getD, List.getElem?_set_self hi, Option.getD_some]]
    omega
  ·right
   have hdiv : a / b = c := Nat.div_eq_of_lt_le (by rw [Nat.mul_comm]; exact hc) (by rw [Nat.succ_mul, Nat.mul_comm]; omega)
   have hmod : a % b = a - b * c := by have := Nat.div_add_mod a b; rw [hdiv] at this; omega
   refine ⟨_, ?_, rfl⟩
   rw [hdiv, hmod]
   unfold Zab.l7.once
   dsimp only
   rw [hcmp, Z0, if_pos (by omega)]
   rfl) k (l1, dig b, dig a, (i : Int), q) ⟨0, by rw [Nat.mul_zero, Nat.sub_zero, show ((0 : Nat) : Int) = 0 from rfl, hq0], by omega, by omega⟩ (by dsimp only; omega)
 rw [e1, e2]
theorem DivNat_eq {k : Nat} (hk : 602 < k) {a b : Nat} (ha : a < 10 ^ 200) (hb : 0 < b) (hb' : b < 10 ^ 100) : Zab.f k (dig a) (dig b) = some (dig (a / b), dig (a % b)) := by
 have hl1 := Wfk ha
 have h1 := Wga a
 have v1 := Wfy a
 generalize dig a = l1 at *
 have hlb := Wfk hb'
 unfold Zab.f
 rw [decide_eq_true (show (0 : Int) ≤ (l1.length : Int) by omega), decide_eq_true (show (l1.length : Int) = (l1.length : Int) from rfl), decide_eq_true (show (l1.length : Int) * 8 ≤ 140737488355328 by omega), Bool.and_true, Bool.and_true, cond_true, Int.toNat_natCast, Wbt (by omega)]
 obtain ⟨y, e1, r, q, rfl, e2, e3, e4, e5⟩ := Zeb (once := Zab.l4.once k) (fun x => ∃ (t r : Nat) (q : List Int), x = (l1, dig b, dig r, (t : Int) - 1, q) ∧ t ≤ l1.length ∧ q.length = l1.length ∧ D10 q ∧ r < b ∧ (∀ j, j < t → q.getD j 0 = 0) ∧ V10 (l1.drop t) = (b : Int) * V10 (q.drop t) + r)
  (fun x => (x.2.2.2.1 + 1).toNat) (fun y => ∃ (r : Nat) (q : List Int), y = (dig r, q) ∧ D10 q ∧ q.length = l1.length ∧ r < b ∧ V10 l1 = (b : Int) * V10 q + r) (by
  rintro x ⟨t, r, q, rfl, ht, hql, hq, hr, hz, hv⟩
  cases t with
  | zero =>
   right
   refine ⟨(dig r, q), ?_, r, q, rfl, hq, hql, hr, hv⟩
   unfold Zab.l4.once
   rfl
  | succ t =>
   left
   have bd := Wia h1 t
   obtain ⟨d, hd⟩ : ∃ d : Nat, l1.getD t 0 = (d : Int) := ⟨(l1.getD t 0).toNat, by omega⟩
   rw [hd] at bd
   have hlr : (dig r).length ≤ 100 := Wfk (by omega)
   have htr : Zan.f k ([(d : Int)] ++ dig r) = some (dig (d + 10 * r)) := by
    rw [Wvu (Wvh (Wyo bd.1 bd.2 Wsi) (Wga r)) (by simp; omega) (by simp; omega), List.singleton_append, V10, Wfy]
    exact congrArg (fun z => some (dig z)) (by omega)
   have hsub := Div_sub (k := k) hk l1 hb hb' (a := d + 10 * r) (by omega) (i := t) (q := q) (by omega) (hz t (by omega)) (by omega)
   have hmod := Nat.mod_lt (d + 10 * r) hb
   have hdlt : (d + 10 * r) / b < 10 := by rw [Nat.div_lt_iff_lt_mul hb]; omega
   refine ⟨(l1, dig b, dig ((d + 10 * r) % b), (t : Int) - 1, q.set t (((d + 10 * r) / b : Nat) : Int)), ?_, ⟨t, _, _, rfl, by omega, by rw [List.length_set, hql], Qnw hq _ (Int.natCast_nonneg _) (Int.ofNat_lt.2 hdlt), hmod, ?_, ?_⟩, by dsimp only; omega⟩
   ·unfold Zab.l4.once
    dsimp only
    rw [show ((t + 1 : Nat) : Int) - 1 = (t : Int) by omega, ct (by omega), Wbv (by omega) (by omega), cond_true, Int.toNat_natCast, hd, Zfb (by simp only [List.length_cons, List.length_nil]; omega), cond_true, htr, Z0, hsub, Z0]
    dsimp only
    rw [Wbt (show -9223372036854775808 ≤ (t : Int) - 1 ∧ (t : Int) - 1 < 9223372036854775808 by omega)]
   ·intro j hj
    rw [List.getD_eq_getElem?_getD, List.getElem?_set_ne (by omega), ← List.getD_eq_getElem?_getD]
    exact hz j (by omega)
   ·have hdr : (q.set t (((d + 10 * r) / b : Nat) : Int)).getD t 0 = (((d + 10 * r) / b : Nat) : Int) := by rw [List.getD_eq_getElem?_getD, List.getElem?_set_self (by omega), Option.getD_some]
    rw [Wft l1 t, Wft (q.set t _) t, hdr, hd, hv, List.drop_set_of_lt (by omega)]
    have := Nat.div_add_mod (d + 10 * r) b
    generalize (d + 10 * r) / b = u at *
    generalize (d + 10 * r) % b = w at *
    have h2 : (b : Int) * (u : Int) + (w : Int) = (d : Int) + 10 * (r : Int) := by rw [← Int.natCast_mul]; omega
    grind) k (l1, dig b, dig 0, (l1.length : Int) - 1, List.replicate l1.length 0) ⟨l1.length, 0, _, rfl, Nat.le_refl _, by simp, Wmd _, hb, fun j hj => by rw [List.getD_eq_getElem?_getD, List.getElem?_replicate, if_pos hj]; rfl, by rw [Zej (Nat.le_refl _), Zej (by simp)]; simp⟩ (by dsimp only; omega)
 rw [Wnp] at e1
 have p := Zee e2
 rw [e1, Z0, Wvu e2 (by omega) (by omega), Z0]
 obtain ⟨n, hn⟩ : ∃ n : Nat, V10 q = (n : Int) := ⟨(V10 q).toNat, by omega⟩
 rw [hn] at e5 ⊢
 rw [v1] at e5
 have e6 : a = b * n + r := by rw [← Int.natCast_mul] at e5; omega
 have h3 : a / b = n := by rw [e6, Nat.mul_add_div hb, Nat.div_eq_of_lt e4, Nat.add_zero]
 have h4 : a % b = r := by rw [e6, Nat.mul_add_mod, Nat.mod_eq_of_lt e4]
 rw [h3, h4, Int.toNat_natCast]
theorem drop_le {l : List Int} (h : D10 l) {t : Nat} (ht : t ≤ l.length) : V10 (l.drop t) ≤ V10 l := by
 rw [Qbi l ht]
 have p1 := Zee (Wyl h t)
 have p2 := Zee (Wrc h t)
 have p3 : 0 < (10 : Int) ^ t := Int.pow_pos (by decide)
 have : 1 * V10 (l.drop t) ≤ 10 ^ t * V10 (l.drop t) := Int.mul_le_mul_of_nonneg_right (by omega) p2
 omega
theorem Qpd {k : Nat} (hk : 602 < k) {n : Nat} (hn : n < 18446744073709551616) : Zav.f k (dig n) = some (n : Int) := by
 have hl := Wfk (n := n) (m := 20) (by omega)
 have h := Wga n
 have v := Wfy n
 generalize dig n = l at *
 unfold Zav.f
 rw [Wbt (by omega)]
 obtain ⟨y, e1, e2⟩ := Zeb (once := Zav.l3.once k) (fun x => ∃ t : Nat, x = (l, V10 (l.drop t), (t : Int) - 1) ∧ t ≤ l.length) (fun x => (x.2.2 + 1).toNat) (fun y => y = V10 l) (by
  rintro x ⟨t, rfl, ht⟩
  cases t with
  | zero =>
   right
   exact ⟨V10 l, by unfold Zav.l3.once; rfl, rfl⟩
  | succ t =>
   left
   have p1 := drop_le h ht
   have p2 := drop_le h (t := t) (by omega)
   have p3 := Zee (Wrc h (t + 1))
   have p4 := Zee (Wrc h t)
   have p5 := Wia h t
   have p6 := Wft l t
   refine ⟨(l, V10 (l.drop t), (t : Int) - 1), ?_, ⟨t, rfl, by omega⟩, by dsimp only; omega⟩
   unfold Zav.l3.once
   dsimp only
   rw [show ((t + 1 : Nat) : Int) - 1 = (t : Int) by omega, ct (by omega), Wbv (by omega) (by omega), cond_true, Int.toNat_natCast, Wpx (n := 10 * V10 (l.drop (t + 1))) (by omega), Wpx (n := l.getD t 0) (by omega), Wpx (by omega), Wbt (by omega), p6, Int.add_comm]) k (l, 0, (l.length : Int) - 1) ⟨l.length, by rw [Zej (Nat.le_refl _)], Nat.le_refl _⟩ (by dsimp only; omega)
 rw [e1, Z0, e2, v]
theorem Nat2_eq {k : Nat} (hk : 602 < k) {x : Int × Int} (hx : W2 x) {n : Nat} (hn : N2 x = (n : Int)) : Zcw.f k x = some (dig n) := by
 obtain ⟨a, b⟩ := x
 obtain ⟨⟨h1, h2⟩, h3, h4⟩ := hx
 unfold N2 at hn
 dsimp only at *
 obtain ⟨a, rfl⟩ := Int.eq_ofNat_of_zero_le h1
 obtain ⟨b, rfl⟩ := Int.eq_ofNat_of_zero_le h3
 unfold Zcw.f
 dsimp only
 rw [Qdq (by omega) (by omega), Z0, Qpr (by omega), Z0, Qky hk (by omega) (by omega), Z0, Qdq (by omega) (by omega), Z0, Wsl (by omega) (by omega) (by omega), Z0]
 exact congrArg (fun z => some (dig z)) (by omega)
theorem TenNat_eq {k : Nat} {i : Nat} (hi : i ≤ 100) : Zdh.f k (i : Int) = some (dig (10 ^ i)) := by
 unfold Zdh.f
 have hw : IntKind.wrap .i64 ((i : Int) + 1) = ((i + 1 : Nat) : Int) := by rw [Wbt (by omega)]; omega
 rw [hw, decide_eq_true (show (0 : Int) ≤ ((i + 1 : Nat) : Int) by omega), decide_eq_true (show ((i + 1 : Nat) : Int) = ((i + 1 : Nat) : Int) from rfl), decide_eq_true (show ((i + 1 : Nat) : Int) * 8 ≤ 140737488355328 by omega), Bool.and_true, Bool.and_true, cond_true, Int.toNat_natCast, List.length_replicate, Wbv (by omega) (by omega), cond_true, Int.toNat_natCast, Wen (by omega), cond_true]
 have hd : D10 ((List.replicate (i + 1) (0 : Int)).set i 1) := Qnw (Wmd _) _ (by decide) (by decide)
 have hlast : ((List.replicate (i + 1) (0 : Int)).set i 1).getLast? ≠ some 0 := by
  rw [List.getLast?_eq_getElem?, List.length_set, List.length_replicate, Nat.add_sub_cancel, List.getElem?_set_self (by simp)]
  simp
 rw [dig_of hd hlast, V10_set (by simp), Wtc]
 have : (List.replicate (i + 1) (0 : Int)).getD i 0 = 0 := by simp [List.getD_eq_getElem?_getD, List.getElem?_replicate]
 rw [this]
 refine congrArg (fun z => some (dig z)) ?_
 rw [show (0 : Int) + (1 - 0) * 10 ^ i = ((10 ^ i : Nat) : Int) by simp, Int.toNat_natCast]
end Go.Proofs.Ytbchcjlllddlpaa.Pure
namespace Go.Proofs.Ytbchcjlllddlpaa.Pure
set_option linter.unusedVariables false
set_option linter.unusedSimpArgs false
open Go Go.Ev Go.Lm Go.Pu
def w2 (n : Nat) : Int × Int := (((n % 18446744073709551616 : Nat) : Int), ((n / 18446744073709551616 : Nat) : Int))
theorem W2_w2 {n : Nat} (h : n < 340282366920938463463374607431768211456) : W2 (w2 n) := by
 unfold w2 W2 Wd
 dsimp only
 omega
theorem Qcl (n : Nat) : N2 (w2 n) = (n : Int) := by
 unfold w2 N2
 dsimp only
 omega
theorem w2_of {x : Int × Int} (h : W2 x) {n : Nat} (hn : N2 x = (n : Int)) : x = w2 n := by
 have hb := Wra h
 exact N2_inj h (W2_w2 (by omega)) (by rw [hn, Qcl])
def DV (i : Int) (s : Nat) : Zi := ⟨decide (i < 0), w2 i.natAbs, (s : Int)⟩
def Sm (i : Int) : Prop := i.natAbs < 1000000000000000000000000000000
def nil0 : Zi := ⟨false, (0, 0), 0⟩
def mkD (v : Int) (m : Nat) : Zi × Int := if v.natAbs < 1000000000000000000000000000000 then (DV v m, 0) else (nil0, 3)
theorem Wrm {k : Nat} (hk : 60 < k) {x : Int × Int} (hx : W2 x) : Zdv.f k x = some (decide (N2 x < 1000000000000000000000000000000)) := by
 unfold Zdv.f Wfw.f
 obtain ⟨t, t1, t2, t3⟩ := Ten_eq (k := k) hk (i := 30) (by decide)
 have t1' : Zcb.f k 30 = some (t, true) := t1
 rw [t1', Z0, Z0]
 obtain ⟨j, rfl⟩ : ∃ j, k = j + 3 := ⟨k - 3, by omega⟩
 have e : Zcc.f (j + 3) (x.1, x.2) (t.1, t.2) = _ := Cmp_eq j hx t2
 rw [e, Z0, t3, show (10 : Int) ^ 30 = 1000000000000000000000000000000 by decide]
 refine congrArg some ?_
 by_cases h : N2 x < 1000000000000000000000000000000
 ·rw [if_pos h, decide_eq_true h]; rfl
 ·rw [if_neg h, decide_eq_false h]; split <;> rfl
theorem Wiq (k : Nat) {x : Int × Int} (hx : W2 x) : Zcf.f k x = some (decide (N2 x = 0)) := by
 unfold Zcf.f
 obtain ⟨a, b⟩ := x
 obtain ⟨⟨h1, h2⟩, h3, h4⟩ := hx
 dsimp only at *
 refine congrArg some ?_
 unfold N2
 dsimp only
 by_cases ha : a = 0
 ·subst ha
  by_cases hb : b = 0
  ·subst hb; rfl
  ·rw [show ((b == 0) : Bool) = false by simp [hb], Bool.and_false, decide_eq_false (by omega)]
 ·rw [show ((a == 0) : Bool) = false by simp [ha], Bool.false_and, decide_eq_false (by omega)]
theorem Wjw {i : Int} (h : Sm i) : W2 (w2 i.natAbs) := W2_w2 (by unfold Sm at h; omega)
theorem Wlc {k : Nat} (hk : 60 < k) {i : Int} {s : Nat} (hi : Sm i) (hs : s ≤ 9) : Zcm.f k (DV i s) = some true := by
 unfold Zcm.f DV
 dsimp only
 have e1 : Zdv.f k ((w2 i.natAbs).1, (w2 i.natAbs).2) = some (decide (N2 (w2 i.natAbs) < 1000000000000000000000000000000)) := Wrm hk (Wjw hi)
 have e2 : Zcf.f k ((w2 i.natAbs).1, (w2 i.natAbs).2) = some (decide (N2 (w2 i.natAbs) = 0)) := Wiq k (Wjw hi)
 unfold Sm at hi
 rw [e1, Z0, e2, Qcl, ct (by omega), ct (by omega), ct (by omega)]
 by_cases h : i < 0
 ·rw [ct h, Z0, decide_eq_false (by omega)]; rfl
 ·rw [cf h]
theorem Wls {k : Nat} (hk : 60 < k) {i : Int} {s : Nat} (hi : Sm i) (hs : s ≤ 9) : Zcs.f k (DV i s) = some (if i = 0 then 0 else if i < 0 then -1 else 1) := by
 unfold Zcs.f
 have h : Zcm.f k ⟨(DV i s).Wbe, ((DV i s).f_C.1, (DV i s).f_C.2), (DV i s).Zu⟩ = some true := Wlc hk hi hs
 have e2 : Zcf.f k ((DV i s).f_C.1, (DV i s).f_C.2) = some (decide (N2 (w2 i.natAbs) = 0)) := Wiq k (Wjw hi)
 rw [h, Z0, Bool.not_true, cond_false, e2, Z0, Z0, Qcl]
 dsimp only
 unfold DV
 dsimp only
 by_cases h0 : i = 0
 ·rw [ct (by omega), if_pos h0]
 ·rw [cf (by omega), if_neg h0]
  by_cases h1 : i < 0
  ·rw [ct h1, if_pos h1]
  ·rw [cf h1, if_neg h1]
theorem Neg_DV {k : Nat} (hk : 60 < k) {i : Int} {s : Nat} (hi : Sm i) (hs : s ≤ 9) : Whn.f k (DV i s) = some (DV (-i) s) := by
 unfold Whn.f
 have h : Zcm.f k ⟨(DV i s).Wbe, ((DV i s).f_C.1, (DV i s).f_C.2), (DV i s).Zu⟩ = some true := Wlc hk hi hs
 have e2 : Zcf.f k ((DV i s).f_C.1, (DV i s).f_C.2) = some (decide (N2 (w2 i.natAbs) = 0)) := Wiq k (Wjw hi)
 rw [h, Z0, Bool.not_true, cond_false, e2, Qcl]
 unfold DV
 dsimp only
 by_cases h1 : i < 0
 ·rw [decide_eq_true h1, Bool.not_true, cond_false, decide_eq_false (show ¬ (-i < 0) by omega), Int.natAbs_neg]
 ·rw [decide_eq_false h1, Bool.not_false, cond_true, Z0, Int.natAbs_neg]
  by_cases h0 : i = 0
  ·subst h0; rfl
  ·rw [decide_eq_false (show ¬ ((i.natAbs : Int) = 0) by omega), decide_eq_true (show -i < 0 by omega)]; rfl
theorem Wrp {k : Nat} (hk : 60 < k) (neg : Bool) {x : Int × Int × Int × Int} (hx : W4 x) (s : Nat) : Zds.f k neg x (s : Int) = some (mkD (if neg then -(N4 x) else N4 x) s) := by
 unfold Zds.f mkD
 obtain ⟨z, b, z1, z2, z3, z4, z5⟩ := Qrx k hx
 have z1' : Zdl.f k (x.1, x.2.1, x.2.2.1, x.2.2.2) = some (z, b) := z1
 have hb := N4_bd hx
 rw [z1', Z0]
 have e1 : Zdv.f k (z.1, z.2) = some (decide (N2 z < 1000000000000000000000000000000)) := Wrm hk z2
 have e2 : Zcf.f k (z.1, z.2) = some (decide (N2 z = 0)) := Wiq k z2
 have hna : (if neg = true then -(N4 x) else N4 x).natAbs = (N4 x).natAbs := by split <;> omega
 rw [hna]
 cases b
 ·have : ¬ N4 x < 340282366920938463463374607431768211456 := fun h => by have := z3.2 h; cases this
  rw [Bool.not_false, cond_true, Z0, if_neg (by omega)]
  rfl
 ·have hN := z4 rfl
  rw [Bool.not_true, cond_false, e1, Z0, Z0, e2, hN]
  dsimp only
  by_cases h : N4 x < 1000000000000000000000000000000
  ·rw [decide_eq_true h, Bool.not_true, cond_false, if_pos (by omega)]
   have hz : z = w2 (N4 x).natAbs := w2_of z2 (by omega)
   unfold DV
   rw [hna, ← hz]
   cases neg
   ·rw [cond_false]
    refine congrArg some ?_
    rw [decide_eq_false]
    simp only [Bool.false_eq_true, if_false]
    omega
   ·rw [cond_true, Z0]
    refine congrArg some ?_
    have : (!decide (N4 x = 0)) = decide ((if true = true then -(N4 x) else N4 x) < 0) := by
     rw [if_pos rfl]
     by_cases h0 : N4 x = 0
     ·rw [decide_eq_true h0, decide_eq_false (by omega)]; rfl
     ·rw [decide_eq_false h0, decide_eq_true (by omega)]; rfl
    rw [this]
  ·rw [decide_eq_false h, Bool.not_false, cond_true, if_neg (by omega)]
   rfl
theorem wide_eq {k : Nat} (hk : 60 < k) (n : Bool) {c : Int × Int} (hc : W2 c) {s t : Nat} (hst : s ≤ t) (ht : t ≤ s + 38) (h9 : t ≤ 100) : ∃ z, Zez.f k ⟨n, c, (s : Int)⟩ (t : Int) = some z ∧ W4 z ∧ N4 z = N2 c * 10 ^ (t - s) := by
 unfold Zez.f Wfw.f
 dsimp only
 obtain ⟨u, u1, u2, u3⟩ := Ten_eq hk (i := t - s) (by omega)
 rw [Wbt (by omega), show (t : Int) - (s : Int) = ((t - s : Nat) : Int) by omega, u1, Z0, Z0]
 obtain ⟨z, z1, z2, z3⟩ := Mul_eq (k := k) (by omega) hc u2
 have z1' : Zam.f k (c.1, c.2) (u.1, u.2) = some z := z1
 dsimp only
 rw [z1', Z0]
 exact ⟨z, rfl, z2, by rw [z3, u3]⟩
theorem not2 {x : Int × Int} (hx : W2 x) : W2 (bits .xor .u64 18446744073709551615 x.1, bits .xor .u64 18446744073709551615 x.2) ∧ N2 (bits .xor .u64 18446744073709551615 x.1, bits .xor .u64 18446744073709551615 x.2) = 340282366920938463463374607431768211455 - N2 x := by
 obtain ⟨a, b⟩ := x
 obtain ⟨⟨h1, h2⟩, h3, h4⟩ := hx
 dsimp only at *
 obtain ⟨a', rfl⟩ := Int.eq_ofNat_of_zero_le h1
 obtain ⟨b', rfl⟩ := Int.eq_ofNat_of_zero_le h3
 rw [not64 (by omega), not64 (by omega)]
 unfold W2 Wd N2
 dsimp only
 omega
def lo (x : Int × Int × Int × Int) : Int × Int := (x.1, x.2.1)
def hi (x : Int × Int × Int × Int) : Int × Int := (x.2.2.1, x.2.2.2)
theorem Wgy (x : Int × Int × Int × Int) : N4 x = N2 (lo x) + 340282366920938463463374607431768211456 * N2 (hi x) := by
 unfold N4 N2 lo hi
 dsimp only
 omega
theorem Wpl {x : Int × Int × Int × Int} (h : W4 x) : W2 (lo x) := ⟨h.1, h.2.1⟩
theorem Qcf {x : Int × Int × Int × Int} (h : W4 x) : W2 (hi x) := ⟨h.2.2.1, h.2.2.2⟩
theorem Qnp : W2 (1, 0) := W2_of ⟨by decide, by decide⟩
theorem plus4 (k : Nat) {x y : Int × Int × Int × Int} (hx : W4 x) (hy : W4 y) (bx : N4 x < 28948022309329048855892746252171976963317496166410141009864396001978282409984) (by_ : N4 y < 28948022309329048855892746252171976963317496166410141009864396001978282409984) :
  ∃ z, Zeu.f k x y = some z ∧ W4 z ∧ N4 z = N4 x + N4 y := by
 have h1 := Wgy x
 have h2 := Wgy y
 have l1 := Wra (Wpl hx)
 have l2 := Wra (Wpl hy)
 have m1 := Wra (Qcf hx)
 have m2 := Wra (Qcf hy)
 unfold Zeu.f Zdt.f
 rw [Z0, Z0]
 dsimp only
 obtain ⟨a, b, a1, a2, a3, a4, a5⟩ := Add_eq k (Qcf hx) (Qcf hy)
 obtain rfl : b = true := a5.2 (by omega)
 have a1' : Zeo.f k (x.2.2.1, x.2.2.2) (y.2.2.1, y.2.2.2) = some (a, true) := a1
 have a3 := a3 rfl
 obtain ⟨c, e, c1, c2, c3, c4, c5⟩ := Add_eq k (Wpl hx) (Wpl hy)
 have c1' : Zeo.f k (x.1, x.2.1) (y.1, y.2.1) = some (c, e) := c1
 rw [a1', Z0, c1', Z0]
 cases e
 ·have hov : ¬ N2 (lo x) + N2 (lo y) < 340282366920938463463374607431768211456 := fun h => by have := c5.2 h; cases this
  rw [Bool.not_false, cond_true]
  obtain ⟨n1, n2⟩ := not2 (Wpl hx)
  obtain ⟨d, f, d1, d2, d3, d4, d5⟩ := Wvg k (Wpl hy) n1
  obtain rfl : f = true := d5.2 (by omega)
  have d1' : Zdf.f k (y.1, y.2.1) (bits .xor .u64 18446744073709551615 x.1, bits .xor .u64 18446744073709551615 x.2.1) = some (d, true) := d1
  have d3 := d3 rfl
  rw [d1', Z0, Qkx, Z0]
  obtain ⟨g, f, g1, g2, g3, g4, g5⟩ := Wvg k d2 Qnp
  have hone : N2 (1, 0) = 1 := N2_of 1
  obtain rfl : f = true := g5.2 (by omega)
  have g1' : Zdf.f k (d.1, d.2) (1, 0) = some (g, true) := g1
  have g3 := g3 rfl
  dsimp only
  rw [g1', Z0, Z0]
  obtain ⟨u, f, u1, u2, u3, u4, u5⟩ := Add_eq k a2 Qnp
  obtain rfl : f = true := u5.2 (by omega)
  have u1' : Zeo.f k (a.1, a.2) (1, 0) = some (u, true) := u1
  have u3 := u3 rfl
  rw [u1', Z0, Z0]
  refine ⟨_, rfl, ⟨g2.1, g2.2, u2.1, u2.2⟩, ?_⟩
  rw [Wgy]
  show N2 g + 340282366920938463463374607431768211456 * N2 u = _
  omega
 ·rw [Bool.not_true, cond_false, Z0]
  have c3 := c3 rfl
  refine ⟨_, rfl, ⟨c2.1, c2.2, a2.1, a2.2⟩, ?_⟩
  rw [Wgy]
  show N2 c + 340282366920938463463374607431768211456 * N2 a = _
  omega
theorem less4 (k : Nat) {x y : Int × Int × Int × Int} (hx : W4 x) (hy : W4 y) (h : N4 y ≤ N4 x) :
  ∃ z, Zeh.f k x y = some z ∧ W4 z ∧ N4 z = N4 x - N4 y := by
 have h1 := Wgy x
 have h2 := Wgy y
 have l1 := Wra (Wpl hx)
 have l2 := Wra (Wpl hy)
 have m1 := Wra (Qcf hx)
 have m2 := Wra (Qcf hy)
 unfold Zeh.f Zdt.f
 rw [Z0, Z0]
 dsimp only
 obtain ⟨a, b, a1, a2, a3, a4, a5⟩ := Wvg k (Qcf hx) (Qcf hy)
 obtain rfl : b = true := a5.2 (by omega)
 have a1' : Zdf.f k (x.2.2.1, x.2.2.2) (y.2.2.1, y.2.2.2) = some (a, true) := a1
 have a3 := a3 rfl
 obtain ⟨c, e, c1, c2, c3, c4, c5⟩ := Wvg k (Wpl hx) (Wpl hy)
 have c1' : Zdf.f k (x.1, x.2.1) (y.1, y.2.1) = some (c, e) := c1
 rw [a1', Z0, c1', Z0]
 cases e
 ·have hov : ¬ N2 (lo y) ≤ N2 (lo x) := fun h => by have := c5.2 h; cases this
  rw [Bool.not_false, cond_true]
  obtain ⟨d, f, d1, d2, d3, d4, d5⟩ := Wvg k (Wpl hy) (Wpl hx)
  obtain rfl : f = true := d5.2 (by omega)
  have d1' : Zdf.f k (y.1, y.2.1) (x.1, x.2.1) = some (d, true) := d1
  have d3 := d3 rfl
  rw [d1', Z0, Qkx, Z0]
  obtain ⟨g, f, g1, g2, g3, g4, g5⟩ := Wvg k d2 Qnp
  have hone : N2 (1, 0) = 1 := N2_of 1
  obtain rfl : f = true := g5.2 (by omega)
  have g1' : Zdf.f k (d.1, d.2) (1, 0) = some (g, true) := g1
  have g3 := g3 rfl
  dsimp only
  rw [g1', Z0, Z0]
  obtain ⟨u, f, u1, u2, u3, u4, u5⟩ := Wvg k a2 Qnp
  obtain rfl : f = true := u5.2 (by omega)
  have u1' : Zdf.f k (a.1, a.2) (1, 0) = some (u, true) := u1
  have u3 := u3 rfl
  rw [u1', Z0, Z0]
  obtain ⟨n1, n2⟩ := not2 g2
  refine ⟨_, rfl, ⟨n1.1, n1.2, u2.1, u2.2⟩, ?_⟩
  rw [Wgy]
  show N2 (bits .xor .u64 18446744073709551615 g.1, bits .xor .u64 18446744073709551615 g.2) + 340282366920938463463374607431768211456 * N2 u = _
  omega
 ·rw [Bool.not_true, cond_false, Z0]
  have c3 := c3 rfl
  refine ⟨_, rfl, ⟨c2.1, c2.2, a2.1, a2.2⟩, ?_⟩
  rw [Wgy]
  show N2 c + 340282366920938463463374607431768211456 * N2 a = _
  omega
theorem Wya (k : Nat) {a0 a1 a2 a3 b0 b1 b2 b3 : Int} {i : Nat} (hi : i < 4) : Zby.l2.once k ((i : Int), [a0, a1, a2, a3], [b0, b1, b2, b3]) = cond ([a0, a1, a2, a3].getD i 0 != [b0, b1, b2, b3].getD i 0) (cond (decide ([a0, a1, a2, a3].getD i 0 < [b0, b1, b2, b3].getD i 0)) (some (.inr (.inr (-1)))) (some (.inr (.inr 1)))) (some (.inl ((i : Int) - 1, [a0, a1, a2, a3], [b0, b1, b2, b3]))) := by
 unfold Zby.l2.once
 dsimp only
 rw [ct (by omega), Wbv (by omega) (by omega), cond_true, Int.toNat_natCast, Wen hi, cond_true, cond_true, cond_true, cond_true, cond_true, cond_true, cond_true, Wbt (by omega)]
theorem cmp4 {k : Nat} (hk : 5 < k) {x y : Int × Int × Int × Int} (hx : W4 x) (hy : W4 y) : Zby.f k x y = some (if N4 x < N4 y then -1 else if N4 x = N4 y then 0 else 1) := by
 obtain ⟨j, rfl⟩ : ∃ j, k = j + 5 := ⟨k - 5, by omega⟩
 obtain ⟨a0, a1, a2, a3⟩ := x
 obtain ⟨b0, b1, b2, b3⟩ := y
 obtain ⟨⟨_, _⟩, ⟨_, _⟩, ⟨_, _⟩, _, _⟩ := hx
 obtain ⟨⟨_, _⟩, ⟨_, _⟩, ⟨_, _⟩, _, _⟩ := hy
 unfold Zby.f N4
 dsimp only at *
 have s3 : Zby.l2.once (j + 5) (3, [a0, a1, a2, a3], [b0, b1, b2, b3]) = cond (a3 != b3) (cond (decide (a3 < b3)) (some (.inr (.inr (-1)))) (some (.inr (.inr 1)))) (some (.inl (((3 : Nat) : Int) - 1, [a0, a1, a2, a3], [b0, b1, b2, b3]))) := Wya (j + 5) (i := 3) (by decide)
 have s2 : Zby.l2.once (j + 5) (((3 : Nat) : Int) - 1, [a0, a1, a2, a3], [b0, b1, b2, b3]) = cond (a2 != b2) (cond (decide (a2 < b2)) (some (.inr (.inr (-1)))) (some (.inr (.inr 1)))) (some (.inl (((2 : Nat) : Int) - 1, [a0, a1, a2, a3], [b0, b1, b2, b3]))) := Wya (j + 5) (i := 2) (by decide)
 have s1 : Zby.l2.once (j + 5) (((2 : Nat) : Int) - 1, [a0, a1, a2, a3], [b0, b1, b2, b3]) = cond (a1 != b1) (cond (decide (a1 < b1)) (some (.inr (.inr (-1)))) (some (.inr (.inr 1)))) (some (.inl (((1 : Nat) : Int) - 1, [a0, a1, a2, a3], [b0, b1, b2, b3]))) := Wya (j + 5) (i := 1) (by decide)
 have s0 : Zby.l2.once (j + 5) (((1 : Nat) : Int) - 1, [a0, a1, a2, a3], [b0, b1, b2, b3]) = cond (a0 != b0) (cond (decide (a0 < b0)) (some (.inr (.inr (-1)))) (some (.inr (.inr 1)))) (some (.inl (((0 : Nat) : Int) - 1, [a0, a1, a2, a3], [b0, b1, b2, b3]))) := Wya (j + 5) (i := 0) (by decide)
 have s : Zby.l2.once (j + 5) (((0 : Nat) : Int) - 1, [a0, a1, a2, a3], [b0, b1, b2, b3]) = some (.inr (.inl ())) := by unfold Zby.l2.once; rfl
 have way : ∀ {a b : Int} {n : Nat} {u v : (Int × List Int × List Int)}, Zby.l2.once (j + 5) u = cond (a != b) (cond (decide (a < b)) (some (.inr (.inr (-1)))) (some (.inr (.inr 1)))) (some (.inl v)) → iter (Zby.l2.once (j + 5)) (n + 1) u = if a < b then some (.inr (-1)) else if a = b then iter (Zby.l2.once (j + 5)) n v else some (.inr 1) := by
  intro a b n u v h
  by_cases he : a = b
  ·subst he
   rw [bne_self_eq_false, cond_false] at h
   rw [Zdd h, if_neg (by omega), if_pos rfl]
  ·rw [show (a != b) = true by simp [he], cond_true] at h
   by_cases hlt : a < b
   ·rw [ct hlt] at h
    rw [Zbq h, if_pos hlt]
   ·rw [cf hlt] at h
    rw [Zbq h, if_neg hlt, if_neg he]
 rw [way (n := j + 4) s3, way (n := j + 3) s2, way (n := j + 2) s1, way (n := j + 1) s0, Zbq s]
 by_cases g3 : a3 < b3
 ·rw [if_pos g3, if_pos (by omega)]; rfl
 rw [if_neg g3]
 by_cases e3 : a3 = b3
 ·rw [if_pos e3]
  by_cases g2 : a2 < b2
  ·rw [if_pos g2, if_pos (by omega)]; rfl
  rw [if_neg g2]
  by_cases e2 : a2 = b2
  ·rw [if_pos e2]
   by_cases g1 : a1 < b1
   ·rw [if_pos g1, if_pos (by omega)]; rfl
   rw [if_neg g1]
   by_cases e1 : a1 = b1
   ·rw [if_pos e1]
    by_cases g0 : a0 < b0
    ·rw [if_pos g0, if_pos (by omega)]; rfl
    rw [if_neg g0]
    by_cases e0 : a0 = b0
    ·rw [if_pos e0, if_neg (by omega), if_pos (by omega)]; rfl
    ·rw [if_neg e0, if_neg (by omega), if_neg (by omega)]; rfl
   ·rw [if_neg e1, if_neg (by omega), if_neg (by omega)]; rfl
  ·rw [if_neg e2, if_neg (by omega), if_neg (by omega)]; rfl
 ·rw [if_neg e3, if_neg (by omega), if_neg (by omega)]; rfl
theorem ten9 {a : Nat} (h : a ≤ 9) : (10 : Nat) ^ a ≤ 1000000000 := Nat.le_trans (Nat.pow_le_pow_right (by decide) h) (by decide)
theorem mx (s t : Nat) : (if (t : Int) > (s : Int) then (t : Int) else (s : Int)) = ((max s t : Nat) : Int) := by split <;> omega
theorem Add_DV {k : Nat} (hk : 60 < k) {i j : Int} {s t : Nat} (hi : Sm i) (hj : Sm j) (hs : s ≤ 9) (ht : t ≤ 9) : Zel.f k (DV i s) (DV j t) = some (mkD (i * 10 ^ (max s t - s) + j * 10 ^ (max s t - t)) (max s t)) := by
 have r1 : Zcm.f k ⟨decide (i < 0), ((w2 i.natAbs).1, (w2 i.natAbs).2), (s : Int)⟩ = some true := Wlc hk hi hs
 have r2 : Zcm.f k ⟨decide (j < 0), ((w2 j.natAbs).1, (w2 j.natAbs).2), (t : Int)⟩ = some true := Wlc hk hj ht
 obtain ⟨x, x1, x2, x3⟩ := wide_eq hk (decide (i < 0)) (Wjw hi) (s := s) (t := max s t) (by omega) (by omega) (by omega)
 obtain ⟨y, y1, y2, y3⟩ := wide_eq hk (decide (j < 0)) (Wjw hj) (s := t) (t := max s t) (by omega) (by omega) (by omega)
 have x1' : Zez.f k ⟨decide (i < 0), ((w2 i.natAbs).1, (w2 i.natAbs).2), (s : Int)⟩ ((max s t : Nat) : Int) = some x := x1
 have y1' : Zez.f k ⟨decide (j < 0), ((w2 j.natAbs).1, (w2 j.natAbs).2), (t : Int)⟩ ((max s t : Nat) : Int) = some y := y1
 rw [Qcl] at x3 y3
 have p1 := ten9 (show max s t - s ≤ 9 by omega)
 have p2 := ten9 (show max s t - t ≤ 9 by omega)
 have q1 : (i.natAbs * 10 ^ (max s t - s) : Nat) ≤ 1000000000000000000000000000000 * 1000000000 := Nat.mul_le_mul (by unfold Sm at hi; omega) p1
 have q2 : (j.natAbs * 10 ^ (max s t - t) : Nat) ≤ 1000000000000000000000000000000 * 1000000000 := Nat.mul_le_mul (by unfold Sm at hj; omega) p2
 have cx : N4 x = ((i.natAbs * 10 ^ (max s t - s) : Nat) : Int) := by rw [x3, Int.natCast_mul, Int.natCast_pow]; rfl
 have cy : N4 y = ((j.natAbs * 10 ^ (max s t - t) : Nat) : Int) := by rw [y3, Int.natCast_mul, Int.natCast_pow]; rfl
 have vx : i * 10 ^ (max s t - s) = if i < 0 then -(N4 x) else N4 x := by
  rw [x3]
  by_cases h : i < 0
  ·rw [if_pos h, show ((i.natAbs : Nat) : Int) = -i by omega, Int.neg_mul, Int.neg_neg]
  ·rw [if_neg h, show ((i.natAbs : Nat) : Int) = i by omega]
 have vy : j * 10 ^ (max s t - t) = if j < 0 then -(N4 y) else N4 y := by
  rw [y3]
  by_cases h : j < 0
  ·rw [if_pos h, show ((j.natAbs : Nat) : Int) = -j by omega, Int.neg_mul, Int.neg_neg]
  ·rw [if_neg h, show ((j.natAbs : Nat) : Int) = j by omega]
 rw [vx, vy]
 generalize i.natAbs * 10 ^ (max s t - s) = M at *
 generalize j.natAbs * 10 ^ (max s t - t) = N at *
 clear vx vy x3 y3 p1 p2
 unfold Zel.f DV
 dsimp only
 rw [r1, Z0, Bool.not_true, cond_false, r2, Z0, Bool.not_true, Z0]
 dsimp only
 rw [cond_false, mx, x1', Z0, y1', Z0]
 by_cases hi0 : i < 0
 ·rw [if_pos hi0, decide_eq_true hi0]
  by_cases hj0 : j < 0
  ·rw [if_pos hj0, decide_eq_true hj0, show ((true == true) : Bool) = true from rfl, cond_true]
   obtain ⟨z, z1, z2, z3⟩ := plus4 k x2 y2 (by omega) (by omega)
   have z1' : Zeu.f k (x.1, x.2.1, x.2.2.1, x.2.2.2) (y.1, y.2.1, y.2.2.1, y.2.2.2) = some z := z1
   have m : Zds.f k true (z.1, z.2.1, z.2.2.1, z.2.2.2) ((max s t : Nat) : Int) = _ := Wrp hk true z2 (max s t)
   rw [z1', Z0, m, Z0, if_pos rfl, z3, show -(N4 x) + -(N4 y) = -(N4 x + N4 y) by omega]
  ·rw [if_neg hj0, decide_eq_false hj0, show ((true == false) : Bool) = false from rfl, cond_false]
   have c : Zby.f k (x.1, x.2.1, x.2.2.1, x.2.2.2) (y.1, y.2.1, y.2.2.1, y.2.2.2) = _ := cmp4 (k := k) (by omega) x2 y2
   rw [c, Z0]
   by_cases hlt : N4 x < N4 y
   ·rw [if_pos hlt, cf (by omega)]
    obtain ⟨z, z1, z2, z3⟩ := less4 k y2 x2 (by omega)
    have z1' : Zeh.f k (y.1, y.2.1, y.2.2.1, y.2.2.2) (x.1, x.2.1, x.2.2.1, x.2.2.2) = some z := z1
    have m : Zds.f k false (z.1, z.2.1, z.2.2.1, z.2.2.2) ((max s t : Nat) : Int) = _ := Wrp hk false z2 (max s t)
    rw [z1', Z0, m, Z0, if_neg (by decide), z3, show -(N4 x) + N4 y = N4 y - N4 x by omega]
   ·rw [if_neg hlt, ct (by split <;> decide)]
    obtain ⟨z, z1, z2, z3⟩ := less4 k x2 y2 (by omega)
    have z1' : Zeh.f k (x.1, x.2.1, x.2.2.1, x.2.2.2) (y.1, y.2.1, y.2.2.1, y.2.2.2) = some z := z1
    have m : Zds.f k true (z.1, z.2.1, z.2.2.1, z.2.2.2) ((max s t : Nat) : Int) = _ := Wrp hk true z2 (max s t)
    rw [z1', Z0, m, Z0, if_pos rfl, z3, show -(N4 x) + N4 y = -(N4 x - N4 y) by omega]
 ·rw [if_neg hi0, decide_eq_false hi0]
  by_cases hj0 : j < 0
  ·rw [if_pos hj0, decide_eq_true hj0, show ((false == true) : Bool) = false from rfl, cond_false]
   have c : Zby.f k (x.1, x.2.1, x.2.2.1, x.2.2.2) (y.1, y.2.1, y.2.2.1, y.2.2.2) = _ := cmp4 (k := k) (by omega) x2 y2
   rw [c, Z0]
   by_cases hlt : N4 x < N4 y
   ·rw [if_pos hlt, cf (by omega)]
    obtain ⟨z, z1, z2, z3⟩ := less4 k y2 x2 (by omega)
    have z1' : Zeh.f k (y.1, y.2.1, y.2.2.1, y.2.2.2) (x.1, x.2.1, x.2.2.1, x.2.2.2) = some z := z1
    have m : Zds.f k true (z.1, z.2.1, z.2.2.1, z.2.2.2) ((max s t : Nat) : Int) = _ := Wrp hk true z2 (max s t)
    rw [z1', Z0, m, Z0, if_pos rfl, z3, show N4 x + -(N4 y) = -(N4 y - N4 x) by omega]
   ·rw [if_neg hlt, ct (by split <;> decide)]
    obtain ⟨z, z1, z2, z3⟩ := less4 k x2 y2 (by omega)
    have z1' : Zeh.f k (x.1, x.2.1, x.2.2.1, x.2.2.2) (y.1, y.2.1, y.2.2.1, y.2.2.2) = some z := z1
    have m : Zds.f k false (z.1, z.2.1, z.2.2.1, z.2.2.2) ((max s t : Nat) : Int) = _ := Wrp hk false z2 (max s t)
    rw [z1', Z0, m, Z0, if_neg (by decide), z3, show N4 x + -(N4 y) = N4 x - N4 y by omega]
  ·rw [if_neg hj0, decide_eq_false hj0, show ((false == false) : Bool) = true from rfl, cond_true]
   obtain ⟨z, z1, z2, z3⟩ := plus4 k x2 y2 (by omega) (by omega)
   have z1' : Zeu.f k (x.1, x.2.1, x.2.2.1, x.2.2.2) (y.1, y.2.1, y.2.2.1, y.2.2.2) = some z := z1
   have m : Zds.f k false (z.1, z.2.1, z.2.2.1, z.2.2.2) ((max s t : Nat) : Int) = _ := Wrp hk false z2 (max s t)
   rw [z1', Z0, m, Z0, if_neg (by decide), z3]
end Go.Proofs.Ytbchcjlllddlpaa.Pure
namespace Go.Proofs.Ytbchcjlllddlpaa.Pure
set_option linter.unusedVariables false
set_option linter.unusedSimpArgs false
open Go Go.Ev Go.Lm Go.Pu Go.Dg
theorem Words2_eq {k : Nat} (hk : 602 < k) {n : Nat} (hn : n < 10 ^ 200) : ∃ z b, Zdg.f k (dig n) = some (z, b) ∧ W2 z ∧ (b = true ↔ n < 340282366920938463463374607431768211456) ∧ (b = true → N2 z = (n : Int)) ∧ (b = false → z = (0, 0)) := by
 unfold Zdg.f
 rw [Qpr (by omega), Z0, DivNat_eq hk hn (by omega) (by omega), Z0, Z0]
 dsimp only
 rw [Wsk (by omega) (by omega) (by omega), Z0]
 by_cases h : n / 18446744073709551616 < 18446744073709551616
 ·rw [if_pos h, show decide ((-1 : Int) ≥ 0) = false from rfl, cond_false, Qpd hk (by omega), Z0, Qpd hk h, Z0]
  refine ⟨_, _, rfl, ⟨⟨by dsimp only; omega, by dsimp only; omega⟩, by dsimp only; omega, by dsimp only; omega⟩, ⟨(fun _ => by omega), fun _ => rfl⟩, fun _ => ?_, (fun h => by cases h)⟩
  unfold N2
  dsimp only
  omega
 ·rw [if_neg h]
  rw [show decide ((if n / 18446744073709551616 = 18446744073709551616 then (0 : Int) else 1) ≥ 0) = true by split <;> rfl, cond_true]
  exact ⟨_, _, rfl, W20, ⟨(fun h => by cases h), (fun h' => by omega)⟩, (fun h => by cases h), fun _ => rfl⟩
theorem len30 (n : Nat) : (dig n).length ≤ 30 ↔ n < 1000000000000000000000000000000 := by
 constructor
 ·intro h
  have h1 := dig_lt n
  have h2 : (10 : Nat) ^ (dig n).length ≤ 10 ^ 30 := Nat.pow_le_pow_right (by decide) h
  have h3 : (10 : Nat) ^ 30 = 1000000000000000000000000000000 := by decide
  omega
 ·intro h
  exact Wfk (m := 30) (by rw [show (10 : Nat) ^ 30 = 1000000000000000000000000000000 by decide]; omega)
theorem len0 (n : Nat) : (dig n).length = 0 ↔ n = 0 := by
 constructor
 ·intro h
  by_cases h0 : n = 0
  ·exact h0
  ·rw [Wkg h0] at h; cases h
 ·rintro rfl; rw [Wnp]; rfl
theorem Wnz {k : Nat} (hk : 602 < k) {d : Zi} (hw : W2 d.f_C) : Zbb.f k d = Zcm.f k d := by
 unfold Zbb.f Zcm.f
 have hb := Wra hw
 have hn : N2 d.f_C = ((N2 d.f_C).toNat : Int) := by omega
 have e1 : Zdv.f k (d.f_C.1, d.f_C.2) = some (decide (N2 d.f_C < 1000000000000000000000000000000)) := Wrm (by omega) hw
 have e2 : Zcf.f k (d.f_C.1, d.f_C.2) = some (decide (N2 d.f_C = 0)) := Wiq k hw
 have e3 : Zcw.f k (d.f_C.1, d.f_C.2) = some (dig (N2 d.f_C).toNat) := Nat2_eq hk hw hn
 have l1 := len30 (N2 d.f_C).toNat
 have l2 := len0 (N2 d.f_C).toNat
 rw [e1, e2, e3, Z0, Z0, Z0]
 have c1 : decide (((dig (N2 d.f_C).toNat).length : Int) ≤ 30) = decide (N2 d.f_C < 1000000000000000000000000000000) := by
  rw [decide_eq_decide]; omega
 have c2 : (((dig (N2 d.f_C).toNat).length : Int) == 0) = decide (N2 d.f_C = 0) := by
  rw [Bool.eq_iff_iff, beq_iff_eq, decide_eq_true_iff]; omega
 rw [c1, c2]
theorem Wph {k : Nat} (hk : 602 < k) (neg : Bool) {n : Nat} (hn : n < 10 ^ 200) {s : Nat} (hs : s ≤ 9) : Zcj.f k neg (dig n) (s : Int) = some (mkD (if neg then -(n : Int) else n) s) := by
 unfold Zcj.f mkD
 have l1 := len30 n
 have l2 := len0 n
 have hna : (if neg = true then -(n : Int) else n).natAbs = n := by split <;> omega
 rw [hna]
 by_cases h : n < 1000000000000000000000000000000
 ·rw [cf (by omega), cf (by omega), Z0]
  dsimp only
  rw [cf (by omega), if_pos h]
  obtain ⟨z, b, z1, z2, z3, z4, z5⟩ := Words2_eq hk hn
  rw [z1, Z0]
  have hz : z = w2 n := w2_of z2 (z4 (z3.2 (by omega)))
  unfold DV
  rw [hna, hz]
  cases neg
  ·rw [cond_false]
   refine congrArg some ?_
   rw [if_neg (by decide), decide_eq_false (by omega)]
  ·rw [cond_true]
   refine congrArg some ?_
   rw [if_pos rfl]
   have : decide (((dig n).length : Int) > 0) = decide (-(n : Int) < 0) := by rw [decide_eq_decide]; omega
   rw [this]
 ·rw [ct (by omega), Z0, cond_true, if_neg h]
  rfl
theorem digits_eq {k : Nat} (hk : 602 < k) (n : Bool) {m s t : Nat} (hm : m < 340282366920938463463374607431768211456) (hst : s ≤ t) (ht : t ≤ 100) : Zcn.f k ⟨n, w2 m, (s : Int)⟩ (t : Int) = some (dig (m * 10 ^ (t - s))) := by
 unfold Zcn.f
 have e3 : Zcw.f k ((w2 m).1, (w2 m).2) = some (dig m) := Nat2_eq hk (W2_w2 hm) (Qcl m)
 have p : (10 : Nat) ^ (t - s) < 10 ^ 200 := Nat.pow_lt_pow_right (by decide) (by omega)
 dsimp only
 rw [e3, Z0, Wbt (by omega), show (t : Int) - (s : Int) = ((t - s : Nat) : Int) by omega, TenNat_eq (by omega), Z0, Qky hk (by omega) p, Z0]
def cl (s : Int) : Nat := (max 0 (min s 9)).toNat
theorem cl_le (s : Int) : cl s ≤ 9 := by unfold cl; omega
theorem cl_of {s : Nat} (h : s ≤ 9) : cl (s : Int) = s := by unfold cl; omega
theorem Qhw {k : Nat} (hk : 602 < k) {n : Int} (h : -9223372036854775808 ≤ n ∧ n < 9223372036854775808) (s : Int) : Zbr.f k n s = some (DV n (cl s)) := by
 have e : Zcg.f k s 0 9 = some ((cl s : Nat) : Int) := by
  unfold Zcg.f cl
  refine congrArg some ?_
  by_cases h9 : s < 9
  ·rw [if_pos h9]; split <;> omega
  ·rw [if_neg h9, if_pos (by omega)]; omega
 unfold Zbr.f
 have hw : (n.natAbs : Nat) < 10 ^ 200 := by omega
 have hs : ∀ b : Bool, b = decide (n < 0) → (Zaq.f k ((n.natAbs : Nat) : Int)).bind (fun t9 => ((Zcg.f k s 0 9).bind fun t10 => ((Zcj.f k b t9 t10).bind fun t11 => (some (⟨t11.1.Wbe, (t11.1.f_C.1, t11.1.f_C.2), t11.1.Zu⟩ : Zi))))) = some (DV n (cl s)) := by
  rintro _ rfl
  rw [Qdq (by omega) (by omega), Z0, e, Z0, Wph hk _ hw (cl_le s), Z0]
  have : (if decide (n < 0) = true then -((n.natAbs : Nat) : Int) else ((n.natAbs : Nat) : Int)) = n := by
   by_cases hn : n < 0
   ·rw [decide_eq_true hn, if_pos rfl]; omega
   ·rw [decide_eq_false hn, if_neg (by decide)]; omega
  rw [this]
  unfold mkD
  rw [if_pos (by omega)]
 by_cases hn : n < 0
 ·rw [ct hn, Z0]
  dsimp only
  rw [wrap64, wrap64, show (0 - n % 18446744073709551616) % 18446744073709551616 = ((n.natAbs : Nat) : Int) by omega]
  exact hs _ rfl
 ·rw [cf hn, Z0]
  dsimp only
  rw [wrap64, show n % 18446744073709551616 = ((n.natAbs : Nat) : Int) by omega]
  exact hs _ rfl
end Go.Proofs.Ytbchcjlllddlpaa.Pure
namespace Go.Proofs.Ytbchcjlllddlpaa.Pure
set_option linter.unusedVariables false
set_option linter.unusedSimpArgs false
open Go Go.Ev Go.Lm Go.Pu Go.Dg
theorem Qns {k : Nat} (hk : 602 < k) {i : Int} {s : Nat} (hi : Sm i) (hs : s ≤ 9) : Zcu.f k (DV i s) = some (DV (-i) s) := by
 unfold Zcu.f
 have h : Zbb.f k ⟨(DV i s).Wbe, ((DV i s).f_C.1, (DV i s).f_C.2), (DV i s).Zu⟩ = some true := (Wnz hk (d := DV i s) (Wjw hi)).trans (Wlc (by omega) hi hs)
 have e2 : (((DV i s).f_C.1 == 0) && ((DV i s).f_C.2 == 0)) = decide (N2 (w2 i.natAbs) = 0) := Option.some.inj (Wiq k (Wjw hi))
 rw [h, Z0, Bool.not_true, cond_false, e2, Qcl]
 unfold DV
 dsimp only
 by_cases h1 : i < 0
 ·rw [decide_eq_true h1, Bool.not_true, cond_false, decide_eq_false (show ¬ (-i < 0) by omega), Int.natAbs_neg]
 ·rw [decide_eq_false h1, Bool.not_false, cond_true, Int.natAbs_neg]
  by_cases h0 : i = 0
  ·subst h0; rfl
  ·rw [decide_eq_false (show ¬ ((i.natAbs : Int) = 0) by omega), decide_eq_true (show -i < 0 by omega)]; rfl
theorem Wyi {k : Nat} (hk : 602 < k) {d : Zi} (hw : W2 d.f_C) : Zbv.f k d = Zcs.f k d := by
 unfold Zbv.f Zcs.f Zcf.f
 have e : Zbb.f k ⟨d.Wbe, (d.f_C.1, d.f_C.2), d.Zu⟩ = Zcm.f k ⟨d.Wbe, (d.f_C.1, d.f_C.2), d.Zu⟩ := Wnz hk hw
 rw [e]
 rfl
theorem RAdd_DV {k : Nat} (hk : 602 < k) {i j : Int} {s t : Nat} (hi : Sm i) (hj : Sm j) (hs : s ≤ 9) (ht : t ≤ 9) : Zcp.f k (DV i s) (DV j t) = some (mkD (i * 10 ^ (max s t - s) + j * 10 ^ (max s t - t)) (max s t)) := by
 have r1 : Zbb.f k ⟨decide (i < 0), ((w2 i.natAbs).1, (w2 i.natAbs).2), (s : Int)⟩ = some true := (Wnz hk (d := DV i s) (Wjw hi)).trans (Wlc (by omega) hi hs)
 have r2 : Zbb.f k ⟨decide (j < 0), ((w2 j.natAbs).1, (w2 j.natAbs).2), (t : Int)⟩ = some true := (Wnz hk (d := DV j t) (Wjw hj)).trans (Wlc (by omega) hj ht)
 have x1' : Zcn.f k ⟨decide (i < 0), ((w2 i.natAbs).1, (w2 i.natAbs).2), (s : Int)⟩ ((max s t : Nat) : Int) = some (dig (i.natAbs * 10 ^ (max s t - s))) := digits_eq hk _ (by unfold Sm at hi; omega) (by omega) (by omega)
 have y1' : Zcn.f k ⟨decide (j < 0), ((w2 j.natAbs).1, (w2 j.natAbs).2), (t : Int)⟩ ((max s t : Nat) : Int) = some (dig (j.natAbs * 10 ^ (max s t - t))) := digits_eq hk _ (by unfold Sm at hj; omega) (by omega) (by omega)
 have p1 := ten9 (show max s t - s ≤ 9 by omega)
 have p2 := ten9 (show max s t - t ≤ 9 by omega)
 have q1 : (i.natAbs * 10 ^ (max s t - s) : Nat) ≤ 1000000000000000000000000000000 * 1000000000 := Nat.mul_le_mul (by unfold Sm at hi; omega) p1
 have q2 : (j.natAbs * 10 ^ (max s t - t) : Nat) ≤ 1000000000000000000000000000000 * 1000000000 := Nat.mul_le_mul (by unfold Sm at hj; omega) p2
 have vx : i * 10 ^ (max s t - s) = if i < 0 then -((i.natAbs * 10 ^ (max s t - s) : Nat) : Int) else ((i.natAbs * 10 ^ (max s t - s) : Nat) : Int) := by
  rw [Int.natCast_mul, Int.natCast_pow]
  by_cases h : i < 0
  ·rw [if_pos h, show ((i.natAbs : Nat) : Int) = -i by omega, Int.neg_mul, Int.neg_neg]; rfl
  ·rw [if_neg h, show ((i.natAbs : Nat) : Int) = i by omega]; rfl
 have vy : j * 10 ^ (max s t - t) = if j < 0 then -((j.natAbs * 10 ^ (max s t - t) : Nat) : Int) else ((j.natAbs * 10 ^ (max s t - t) : Nat) : Int) := by
  rw [Int.natCast_mul, Int.natCast_pow]
  by_cases h : j < 0
  ·rw [if_pos h, show ((j.natAbs : Nat) : Int) = -j by omega, Int.neg_mul, Int.neg_neg]; rfl
  ·rw [if_neg h, show ((j.natAbs : Nat) : Int) = j by omega]; rfl
 rw [vx, vy]
 generalize i.natAbs * 10 ^ (max s t - s) = M at *
 generalize j.natAbs * 10 ^ (max s t - t) = N at *
 clear vx vy p1 p2
 have hm : max s t ≤ 9 := by omega
 have hM : M < 10 ^ 200 := by omega
 have hN : N < 10 ^ 200 := by omega
 unfold Zcp.f DV
 dsimp only
 rw [r1, Z0, Bool.not_true, cond_false, r2, Z0, Bool.not_true, Z0]
 dsimp only
 rw [cond_false, mx, x1', Z0, y1', Z0]
 by_cases hi0 : i < 0
 ·rw [if_pos hi0, decide_eq_true hi0]
  by_cases hj0 : j < 0
  ·rw [if_pos hj0, decide_eq_true hj0, show ((true == true) : Bool) = true from rfl, cond_true]
   rw [Wsl (by omega) hM hN, Z0, Wph hk true (by omega) hm, Z0, if_pos rfl, show -(M : Int) + -(N : Int) = -((M + N : Nat) : Int) by omega]
  ·rw [if_neg hj0, decide_eq_false hj0, show ((true == false) : Bool) = false from rfl, cond_false]
   rw [Wsk (by omega) hM hN, Z0]
   by_cases hlt : M < N
   ·rw [if_pos hlt, cf (by omega), Wny (by omega) hN (by omega), Z0, Wph hk false (by omega) hm, Z0, if_neg (by decide), show -(M : Int) + (N : Int) = ((N - M : Nat) : Int) by omega]
   ·rw [if_neg hlt, ct (by split <;> decide), Wny (by omega) hM (by omega), Z0, Wph hk true (by omega) hm, Z0, if_pos rfl, show -(M : Int) + (N : Int) = -((M - N : Nat) : Int) by omega]
 ·rw [if_neg hi0, decide_eq_false hi0]
  by_cases hj0 : j < 0
  ·rw [if_pos hj0, decide_eq_true hj0, show ((false == true) : Bool) = false from rfl, cond_false]
   rw [Wsk (by omega) hM hN, Z0]
   by_cases hlt : M < N
   ·rw [if_pos hlt, cf (by omega), Wny (by omega) hN (by omega), Z0, Wph hk true (by omega) hm, Z0, if_pos rfl, show (M : Int) + -(N : Int) = -((N - M : Nat) : Int) by omega]
   ·rw [if_neg hlt, ct (by split <;> decide), Wny (by omega) hM (by omega), Z0, Wph hk false (by omega) hm, Z0, if_neg (by decide), show (M : Int) + -(N : Int) = ((M - N : Nat) : Int) by omega]
  ·rw [if_neg hj0, decide_eq_false hj0, show ((false == false) : Bool) = true from rfl, cond_true]
   rw [Wsl (by omega) hM hN, Z0, Wph hk false (by omega) hm, Z0, if_neg (by decide), show (M : Int) + (N : Int) = ((M + N : Nat) : Int) by omega]
end Go.Proofs.Ytbchcjlllddlpaa.Pure
namespace Go.Proofs.Ytbchcjlllddlpaa.Pure
set_option linter.unusedVariables false
set_option linter.unusedSimpArgs false
open Go Go.Ev Go.Lm Go.Pu Go.Dg
theorem Wgx {α : Type} {l : List α} {i : Nat} (d : α) (h : i < l.length) : l.drop i = l.getD i d :: l.drop (i + 1) := by
 rw [List.drop_eq_getElem_cons h, List.getD_eq_getElem?_getD, Z3 h, Option.getD_some]
def val (d : Zi) : Int := if d.Wbe then -(N2 d.f_C) else N2 d.f_C
def dOk (d : Zi) : Bool := decide (N2 d.f_C < 1000000000000000000000000000000) && (decide (d.Zu ≥ 0) && (decide (d.Zu ≤ 9) && !(d.Wbe && decide (N2 d.f_C = 0))))
theorem dOk_DV {d : Zi} (hw : W2 d.f_C) (h : dOk d = true) : d = DV (val d) d.Zu.toNat ∧ Sm (val d) ∧ d.Zu.toNat ≤ 9 ∧ 0 ≤ d.Zu := by
 obtain ⟨n, c, z⟩ := d
 unfold dOk at h
 unfold val DV Sm
 have hb := Wra hw
 dsimp only at hw h hb ⊢
 simp only [Bool.and_eq_true, decide_eq_true_eq, Bool.not_eq_true', Bool.and_eq_false_iff, decide_eq_false_iff_not] at h
 obtain ⟨h1, h2, h3, h4⟩ := h
 have hc : c = w2 (N2 c).toNat := w2_of hw (by omega)
 refine ⟨?_, by split <;> omega, by omega, h2⟩
 cases n
 ·rw [if_neg (by decide), decide_eq_false (by omega), show (N2 c).natAbs = (N2 c).toNat by omega, ← hc, show ((z.toNat : Nat) : Int) = z by omega]
 ·rw [if_pos rfl, decide_eq_true (by rcases h4 with h4 | h4 <;> first | (cases h4; done) | omega), show (-(N2 c)).natAbs = (N2 c).toNat by omega, ← hc, show ((z.toNat : Nat) : Int) = z by omega]
theorem Qkv {k : Nat} (hk : 60 < k) {d : Zi} (hw : W2 d.f_C) : Zcm.f k d = some (dOk d) := by
 unfold Zcm.f dOk
 have e1 : Zdv.f k (d.f_C.1, d.f_C.2) = some (decide (N2 d.f_C < 1000000000000000000000000000000)) := Wrm hk hw
 have e2 : Zcf.f k (d.f_C.1, d.f_C.2) = some (decide (N2 d.f_C = 0)) := Wiq k hw
 rw [e1, e2, Z0]
 cases decide (N2 d.f_C < 1000000000000000000000000000000) <;> cases decide (d.Zu ≥ 0) <;> cases decide (d.Zu ≤ 9) <;> cases d.Wbe <;> rfl
theorem Wgh (v : Int) (s : Nat) : val (DV v s) = v := by
 unfold val DV
 dsimp only
 rw [Qcl]
 by_cases h : v < 0
 ·rw [decide_eq_true h, if_pos rfl]; omega
 ·rw [decide_eq_false h, if_neg (by decide)]; omega
def sgn (v : Int) : Int := if v = 0 then 0 else if v < 0 then -1 else 1
theorem Qrv {k : Nat} (hk : 60 < k) {d : Zi} (hw : W2 d.f_C) : Zcs.f k d = some (if dOk d then sgn (val d) else 0) := by
 cases h : dOk d with
 | true =>
  obtain ⟨h1, h2, h3, _⟩ := dOk_DV hw h
  have := Wls hk h2 h3
  rw [← h1] at this
  rw [this]
  rfl
 | false =>
  unfold Zcs.f
  have e : Zcm.f k ⟨d.Wbe, (d.f_C.1, d.f_C.2), d.Zu⟩ = some (dOk d) := Qkv hk hw
  rw [e, h]
  rfl
theorem Qdc (v : Int) : (sgn v == 0) = decide (v = 0) := by
 unfold sgn
 by_cases h : v = 0
 ·rw [if_pos h, decide_eq_true h]; rfl
 ·rw [if_neg h, decide_eq_false h]; split <;> rfl
end Go.Proofs.Ytbchcjlllddlpaa.Pure
namespace Go.Proofs.Ytbchcjlllddlpaa.Pure
set_option linter.unusedVariables false
set_option linter.unusedSimpArgs false
open Go Go.Ev Go.Lm Go.Pu Go.Dg
theorem bind_at {α β : Type} {x : Option α} {f : α → Option β} {v : α} {r : Option β} (h : x = some v) (h' : f v = r) : x.bind f = r := by rw [h]; exact h'
theorem ex_of {α : Type} {x r : Option α} {P : α → Prop} (h : x = r) (h' : ∃ v, r = some v ∧ P v) : ∃ v, x = some v ∧ P v := by rw [h]; exact h'
theorem Zero_eq (k : Nat) (s : Nat) : Zcy.f k (s : Int) = some (DV 0 s) := rfl
theorem W2_wrap (a b : Int) : W2 (IntKind.wrap .u64 a, IntKind.wrap .u64 b) := by
 rw [wrap64, wrap64]
 unfold W2 Wd
 dsimp only
 omega
theorem Qux {k : Nat} (hk : 602 < k) (n s : Int) : ∃ v : Int, Zdi.f k n s = some (DV v (cl s)) ∧ v.natAbs ≤ 1000000 := by
 unfold Zdi.f
 have hb := Zfe n (m := 2000001) (by decide)
 rw [Zdu k n (by decide) (by decide), Z0, Wbt (by omega), Qhw hk (by omega), Z0]
 exact ⟨_, rfl, by omega⟩
theorem HDec_ok {k : Nat} (hk : 602 < k) {n s b : Int} (hn : -9223372036854775808 ≤ n ∧ n < 9223372036854775808) : ∃ d, Zek.f k n s b = some d ∧ W2 d.f_C := by
 unfold Zek.f
 have of : ∀ (x y : Int), -9223372036854775808 ≤ x ∧ x < 9223372036854775808 → ∃ d, ((Zbr.f k x y).bind fun t7 => (some (⟨t7.Wbe, (t7.f_C.1, t7.f_C.2), t7.Zu⟩ : Zi))) = some d ∧ W2 d.f_C := by
  intro x y hx
  rw [Qhw hk hx, Z0]
  exact ⟨_, rfl, Wjw (by unfold Sm; omega)⟩
 rw [Zdu k b (by decide) (by decide), Z0]
 cases (pick b 11 == 0)
 ·rw [cond_false]
  cases (pick b 11 == 1)
  ·rw [cond_false]
   cases (pick b 11 == 2)
   ·rw [cond_false]
    cases (pick b 11 == 3)
    ·rw [cond_false, Zdu k n (by decide) (by decide), Z0, Zdu k s (by decide) (by decide), Z0]
     have hb := Zfe n (m := 2000000) (by decide)
     rw [Wbt (by omega)]
     exact of _ _ (by omega)
    ·rw [cond_true, Zdu k s (by decide) (by decide), Z0]
     exact of _ _ hn
   ·rw [cond_true, Zdu k n (by decide) (by decide), Z0, Zdu k s (by decide) (by decide), Z0]
    have hb := Zfe n (m := 7) (by decide)
    rw [Wbt (by omega)]
    exact of _ _ (by omega)
  ·rw [cond_true, Zdu k s (by decide) (by decide), Z0, Zdu k _ (by decide) (by decide), Z0]
   exact ⟨_, rfl, W2_wrap _ _⟩
 ·rw [cond_true, Zdu k n (by decide) (by decide), Z0]
  exact ⟨_, rfl, W2_wrap _ _⟩
def isW (a : Int) : Bool := a == 3 || a == 6
def LnOk (s : Nat) (e : Int) (x : Zd) : Prop := ∃ v : Int, x.Zq = DV v s ∧ v.natAbs ≤ 100000000 ∧ v ≠ 0 ∧ (0 ≤ x.Zde ∧ x.Zde < 16) ∧ (isW x.Zde = true → 0 ≤ x.Zdo ∧ x.Zdo < e) ∧ (isW x.Zde = false → x.Zdo = -1)
theorem LnOk.w2 {s : Nat} {e : Int} {x : Zd} (h : LnOk s e x) : W2 x.Zq.f_C := by
 obtain ⟨v, h1, h2, _⟩ := h
 rw [h1]
 exact Wjw (by unfold Sm; omega)
def Qcw : List Zd → Int
 | [] => 0
 | x :: r => val x.Zq + Qcw r
theorem Qhu : ∀ (l : List Zd) (x : Zd), Qcw (l ++ [x]) = Qcw l + val x.Zq
 | [], x => by
  show val x.Zq + 0 = 0 + val x.Zq
  omega
 | y :: l, x => by
  show val y.Zq + Qcw (l ++ [x]) = val y.Zq + Qcw l + val x.Zq
  rw [Qhu l x]
  omega
theorem Wkt {α : Type} {l : List α} {i : Nat} (d : α) (h : i < l.length) : l.getD i d ∈ l := by
 rw [List.getD_eq_getElem?_getD, Z3 h]
 exact List.getElem_mem h
theorem Qsd {k : Nat} (hk : 700 < k) (L : List Int) (hlen : L.length ≤ 9223372036854775807) {s : Nat} (hs : s ≤ 9) (b : Int) {e : Int} (he : 1 ≤ e ∧ e ≤ 4611686018427387904) :
  ∃ out S, iter (Zv.l4.once k) k (L, (s : Int), b, e, 0, [], (DV 0 s).Wbe, (DV 0 s).f_C.1, (DV 0 s).f_C.2, (DV 0 s).Zu) = some ((s : Int), b, out, (DV S s).Wbe, (DV S s).f_C.1, (DV S s).f_C.2, (DV S s).Zu) ∧ S.natAbs ≤ 6000000 ∧ out.length ≤ 6 ∧ (∀ x ∈ out, LnOk s e x) ∧ Qcw out = S := by
 obtain ⟨y, h1, h2⟩ := Zeb (once := Zv.l4.once k) (fun st => ∃ (m : Nat) (out : List Zd) (S : Int), st = (L, (s : Int), b, e, 2 * (m : Int), out, (DV S s).Wbe, (DV S s).f_C.1, (DV S s).f_C.2, (DV S s).Zu) ∧ m ≤ 6 ∧ out.length = m ∧ S.natAbs ≤ m * 1000000 ∧ (∀ x ∈ out, LnOk s e x) ∧ Qcw out = S) (fun st => 7 - st.2.2.2.2.2.1.length)
  (fun r => ∃ out S, r = ((s : Int), b, out, (DV S s).Wbe, (DV S s).f_C.1, (DV S s).f_C.2, (DV S s).Zu) ∧ S.natAbs ≤ 6000000 ∧ out.length ≤ 6 ∧ (∀ x ∈ out, LnOk s e x) ∧ Qcw out = S) (by
  rintro _ ⟨m, out, S, rfl, hm, hl, hS, ho, hA⟩
  unfold Zv.l4.once
  dsimp only
  by_cases hc : 2 * m + 1 < L.length ∧ m < 6
  ·left
   rw [Wbt (by omega), ct (by omega), Z0]
   dsimp only
   rw [ct (by omega), Wbv (by omega) (by omega), cond_true, Zdu k _ (by decide) (by decide), Z0, Wbt (by omega), Wbv (by omega) (by omega), cond_true]
   obtain ⟨v, v1, v2⟩ := Qux (k := k) (by omega) (L.getD (Int.toNat (2 * (m : Int) + 1)) 0) (s : Int)
   rw [cl_of hs] at v1
   rw [v1, Z0]
   have key : ∀ (acct w : Int), (0 ≤ acct ∧ acct < 16) → (isW acct = true → 0 ≤ w ∧ w < e) → (isW acct = false → w = -1) → ∃ x', ((((Zbv.f k (⟨(DV v s).Wbe, ((DV v s).f_C.1, (DV v s).f_C.2), (DV v s).Zu⟩ : Zi)).bind fun t45 => (((cond (t45 == 0) ((Zbr.f k 1 (s : Int)).bind fun t46 => (some (L, (s : Int), b, e, 2 * (m : Int), out, (DV S s).Wbe, (DV S s).f_C.1, (DV S s).f_C.2, (DV S s).Zu, acct, t46.Wbe, t46.f_C.1, t46.f_C.2, t46.Zu, w))) (some (L, (s : Int), b, e, 2 * (m : Int), out, (DV S s).Wbe, (DV S s).f_C.1, (DV S s).f_C.2, (DV S s).Zu, acct, (DV v s).Wbe, (DV v s).f_C.1, (DV v s).f_C.2, (DV v s).Zu, w))) : Option (List Int × Int × Int × Int × Int × List Zd × Bool × Int × Int × Int × Int × Bool × Int × Int × Int × Int)).bind fun y63 => (cond (Weh (List.length y63.2.2.2.2.2.1 + List.length [(⟨y63.2.2.2.2.2.2.2.2.2.2.1, (⟨y63.2.2.2.2.2.2.2.2.2.2.2.1, (y63.2.2.2.2.2.2.2.2.2.2.2.2.1, y63.2.2.2.2.2.2.2.2.2.2.2.2.2.1), y63.2.2.2.2.2.2.2.2.2.2.2.2.2.2.1⟩ : Zi), y63.2.2.2.2.2.2.2.2.2.2.2.2.2.2.2⟩ : Zd)]) 48) ((Zcp.f k (⟨y63.2.2.2.2.2.2.1, (y63.2.2.2.2.2.2.2.1, y63.2.2.2.2.2.2.2.2.1), y63.2.2.2.2.2.2.2.2.2.1⟩ : Zi) (⟨y63.2.2.2.2.2.2.2.2.2.2.2.1, (y63.2.2.2.2.2.2.2.2.2.2.2.2.1, y63.2.2.2.2.2.2.2.2.2.2.2.2.2.1), y63.2.2.2.2.2.2.2.2.2.2.2.2.2.2.1⟩ : Zi)).bind fun t64 => (some (y63.1, y63.2.1, y63.2.2.1, y63.2.2.2.1, y63.2.2.2.2.1, y63.2.2.2.2.2.1 ++ [(⟨y63.2.2.2.2.2.2.2.2.2.2.1, (⟨y63.2.2.2.2.2.2.2.2.2.2.2.1, (y63.2.2.2.2.2.2.2.2.2.2.2.2.1, y63.2.2.2.2.2.2.2.2.2.2.2.2.2.1), y63.2.2.2.2.2.2.2.2.2.2.2.2.2.2.1⟩ : Zi), y63.2.2.2.2.2.2.2.2.2.2.2.2.2.2.2⟩ : Zd)], t64.1.Wbe, t64.1.f_C.1, t64.1.f_C.2, t64.1.Zu))) none))) : Option (List Int × Int × Int × Int × Int × List Zd × Bool × Int × Int × Int)).bind fun y75 => (some (.inl (y75.1, y75.2.1, y75.2.2.1, y75.2.2.2.1, IntKind.wrap .i64 (y75.2.2.2.2.1 + 2), y75.2.2.2.2.2.1, y75.2.2.2.2.2.2.1, y75.2.2.2.2.2.2.2.1, y75.2.2.2.2.2.2.2.2.1, y75.2.2.2.2.2.2.2.2.2)) : Option (_ ⊕ ((Int × Int × List Zd × Bool × Int × Int × Int))))) = some (.inl x') ∧ (∃ (m : Nat) (out : List Zd) (S : Int), x' = (L, (s : Int), b, e, 2 * (m : Int), out, (DV S s).Wbe, (DV S s).f_C.1, (DV S s).f_C.2, (DV S s).Zu) ∧ m ≤ 6 ∧ out.length = m ∧ S.natAbs ≤ m * 1000000 ∧ (∀ x ∈ out, LnOk s e x) ∧ Qcw out = S) ∧ 7 - x'.2.2.2.2.2.1.length < 7 - out.length := by
    intro acct w q1 q2 q3
    have hv : Sm v := by unfold Sm; omega
    have sg : Zbv.f k (⟨(DV v s).Wbe, ((DV v s).f_C.1, (DV v s).f_C.2), (DV v s).Zu⟩ : Zi) = some (if v = 0 then 0 else if v < 0 then -1 else 1) := (Wyi (d := DV v s) (by omega) (Wjw hv)).trans (Wls (by omega) hv hs)
    rw [sg, Z0]
    have fin : ∀ z : Int, z.natAbs ≤ 1000000 → z ≠ 0 → ∃ x', (((cond (Weh (List.length out + List.length [(⟨acct, (⟨(DV z s).Wbe, ((DV z s).f_C.1, (DV z s).f_C.2), (DV z s).Zu⟩ : Zi), w⟩ : Zd)]) 48) ((Zcp.f k (⟨(DV S s).Wbe, ((DV S s).f_C.1, (DV S s).f_C.2), (DV S s).Zu⟩ : Zi) (⟨(DV z s).Wbe, ((DV z s).f_C.1, (DV z s).f_C.2), (DV z s).Zu⟩ : Zi)).bind fun t64 => (some (L, (s : Int), b, e, 2 * (m : Int), out ++ [(⟨acct, (⟨(DV z s).Wbe, ((DV z s).f_C.1, (DV z s).f_C.2), (DV z s).Zu⟩ : Zi), w⟩ : Zd)], t64.1.Wbe, t64.1.f_C.1, t64.1.f_C.2, t64.1.Zu))) none) : Option (List Int × Int × Int × Int × Int × List Zd × Bool × Int × Int × Int)).bind fun y75 => (some (.inl (y75.1, y75.2.1, y75.2.2.1, y75.2.2.2.1, IntKind.wrap .i64 (y75.2.2.2.2.1 + 2), y75.2.2.2.2.2.1, y75.2.2.2.2.2.2.1, y75.2.2.2.2.2.2.2.1, y75.2.2.2.2.2.2.2.2.1, y75.2.2.2.2.2.2.2.2.2)) : Option (_ ⊕ ((Int × Int × List Zd × Bool × Int × Int × Int))))) = some (.inl x') ∧ (∃ (m : Nat) (out : List Zd) (S : Int), x' = (L, (s : Int), b, e, 2 * (m : Int), out, (DV S s).Wbe, (DV S s).f_C.1, (DV S s).f_C.2, (DV S s).Zu) ∧ m ≤ 6 ∧ out.length = m ∧ S.natAbs ≤ m * 1000000 ∧ (∀ x ∈ out, LnOk s e x) ∧ Qcw out = S) ∧ 7 - x'.2.2.2.2.2.1.length < 7 - out.length := by
     intro z hz hz0
     have ad : Zcp.f k (⟨(DV S s).Wbe, ((DV S s).f_C.1, (DV S s).f_C.2), (DV S s).Zu⟩ : Zi) (⟨(DV z s).Wbe, ((DV z s).f_C.1, (DV z s).f_C.2), (DV z s).Zu⟩ : Zi) = _ := RAdd_DV (k := k) (by omega) (i := S) (j := z) (s := s) (t := s) (by unfold Sm; omega) (by unfold Sm; omega) hs hs
     rw [ad, Zfb (by simp; omega), cond_true, Nat.max_self, Nat.sub_self, Int.pow_zero, Int.mul_one, Int.mul_one, Z0, Z0]
     unfold mkD
     rw [if_pos (by omega)]
     refine ⟨_, rfl, ⟨m + 1, out ++ [⟨acct, DV z s, w⟩], S + z, ?_, by omega, by simp [hl], by omega, ?_, by rw [Qhu, hA, Wgh]⟩, ?_⟩
     ·dsimp only
      rw [Wbt (by omega), show 2 * (m : Int) + 2 = 2 * ((m + 1 : Nat) : Int) by omega]
     ·intro x hx
      rcases List.mem_append.1 hx with hx | hx
      ·exact ho x hx
      ·simp only [List.mem_cons, List.not_mem_nil, or_false] at hx
       subst hx
       exact ⟨z, rfl, by omega, hz0, q1, q2, q3⟩
     ·dsimp only
      rw [List.length_append, List.length_singleton]
      omega
    by_cases h0 : v = 0
    ·rw [if_pos h0, show ((0 : Int) == 0) = true from rfl, cond_true]
     rw [Qhw (k := k) (by omega) (by omega), cl_of hs, Z0, Z0]
     exact fin 1 (by decide) (by decide)
    ·have : ((if v = 0 then (0 : Int) else if v < 0 then -1 else 1) == 0) = false := by
      rw [if_neg h0]; split <;> rfl
     rw [this, cond_false, Z0]
     exact fin v (by omega) h0
   have hA16 := Zfe (L.getD (Int.toNat (2 * (m : Int))) 0) (m := 16) (by decide)
   generalize pick (L.getD (Int.toNat (2 * (m : Int))) 0) 16 = ac at *
   have hbb : Zbw.f k ac = some (isW ac) := by
    unfold Zbw.f isW
    cases (ac == 3) <;> rfl
   rw [hbb, Z0]
   cases hw : isW ac
   ·rw [cond_false, Z0]
    exact key _ _ hA16 (fun h => by rw [hw] at h; cases h) (fun _ => rfl)
   ·rw [cond_true, Zdu k _ (by split <;> omega) (by split <;> omega), Z0, cond_true, Z0]
    refine key _ _ hA16 (fun _ => ?_) (fun h => by rw [hw] at h; cases h)
    dsimp only
    refine ⟨(Zfe _ (by split <;> omega)).1, Int.lt_of_lt_of_le (Zfe _ (by split <;> omega)).2 ?_⟩
    split <;> omega
  ·right
   by_cases h1 : 2 * m + 1 < L.length
   ·rw [Wbt (by omega), ct (by omega), Z0]
    dsimp only
    rw [cf (by omega)]
    exact ⟨_, rfl, out, S, rfl, by omega, by omega, ho, hA⟩
   ·have : ¬ (IntKind.wrap .i64 (2 * (m : Int) + 1) < (L.length : Int)) := by
     rw [Wbt (by omega)]; omega
    rw [cf this, Z0, cond_false]
    exact ⟨_, rfl, out, S, rfl, by omega, by omega, ho, hA⟩) k _ ⟨0, [], 0, rfl, by omega, rfl, by decide, (fun x hx => by cases hx), rfl⟩ (by dsimp only [List.length_nil]; omega)
 obtain ⟨out, S, rfl, h3⟩ := h2
 exact ⟨out, S, h1, h3⟩
theorem Qse {k : Nat} (hk : 700 < k) (b : Int) {out : List Zd} (h0 : 0 < out.length) (h9 : out.length ≤ 9) (P : Zd → Prop) (hP : ∀ x ∈ out, P x) :
  ∃ out', iter (Zv.l28.once k) k (b, out) = some (b, out') ∧ out'.length = 9 ∧ ∀ x ∈ out', P x := by
 obtain ⟨y, h1, h2⟩ := Zeb (once := Zv.l28.once k) (fun st => ∃ (o : List Zd), st = (b, o) ∧ 0 < o.length ∧ o.length ≤ 9 ∧ ∀ x ∈ o, P x) (fun st => 9 - st.2.length)
  (fun r => ∃ o, r = (b, o) ∧ o.length = 9 ∧ ∀ x ∈ o, P x) (by
  rintro _ ⟨o, rfl, g0, g9, hp⟩
  unfold Zv.l28.once
  dsimp only
  by_cases hc : o.length < 9
  ·left
   rw [ct (by omega), Wbv (by omega) (by omega), cond_true, Wen (by omega), cond_true, Zfb (by simp; omega), cond_true]
   refine ⟨_, rfl, ⟨_, rfl, ?_, ?_, ?_⟩, ?_⟩
   ·simp
   ·simp; omega
   ·intro x hx
    rcases List.mem_append.1 hx with hx | hx
    ·exact hp x hx
    ·simp only [List.mem_cons, List.not_mem_nil, or_false] at hx
     subst hx
     exact hp _ (Wkt Zd.zero (by omega))
   ·dsimp only
    rw [List.length_append, List.length_singleton]
    omega
  ·right
   rw [cf (by omega)]
   exact ⟨_, rfl, o, rfl, by omega, hp⟩) k (b, out) ⟨out, rfl, h0, h9, hP⟩ (by dsimp only; omega)
 obtain ⟨o, rfl, h3⟩ := h2
 exact ⟨o, h1, h3⟩
def LnW (x : Zd) : Prop := W2 x.Zq.f_C
theorem mem_set {α : Type} {l : List α} {i : Nat} {v x : α} (h : x ∈ l.set i v) : x ∈ l ∨ x = v := List.mem_or_eq_of_mem_set h
theorem Qhx {k : Nat} (hk : 700 < k) (L : List Int) (hlen : L.length ≤ 9223372036854775807) {s : Nat} (hs : s ≤ 9) {b : Int} (hb : -9223372036854775808 ≤ b ∧ b < 9223372036854775808) {e : Int} (he : 1 ≤ e ∧ e ≤ 4611686018427387904) :
  ∃ out, Zv.f k L (s : Int) b e = some out ∧ out.length ≤ 9 ∧ (∀ x ∈ out, LnW x) ∧ (b = 0 → Qcw out = 0 ∧ 0 < out.length ∧ out.length ≤ 8 ∧ ∀ x ∈ out, LnOk s e x) := by
 unfold Zv.f
 rw [Zero_eq, Z0]
 obtain ⟨o1, S, l1, l2, l3, l4, l5⟩ := Qsd hk L hlen hs b he
 rw [l1, Z0]
 have hS : Sm S := by unfold Sm; omega
 have sg : Zbv.f k (⟨(DV S s).Wbe, ((DV S s).f_C.1, (DV S s).f_C.2), (DV S s).Zu⟩ : Zi) = some (if S = 0 then 0 else if S < 0 then -1 else 1) := (Wyi (d := DV S s) (by omega) (Wjw hS)).trans (Wls (by omega) hS hs)
 dsimp only
 rw [sg, Z0]
 have bal : ∀ bb : Bool, (bb = false → o1 ≠ [] ∧ S = 0) → (bb = true → o1 = [] ∨ S ≠ 0) → ∃ o2 : List Zd, (((cond bb ((Zcu.f k (⟨(DV S s).Wbe, ((DV S s).f_C.1, (DV S s).f_C.2), (DV S s).Zu⟩ : Zi)).bind fun t94 => (((cond ((List.length o1 : Int) == 0) ((Zbr.f k 5 (s : Int)).bind fun t95 => ((Zbr.f k (-5) (s : Int)).bind fun t96 => (cond (Weh (List.length o1 + List.length [(⟨8, (⟨t96.Wbe, (t96.f_C.1, t96.f_C.2), t96.Zu⟩ : Zi), (-1)⟩ : Zd)]) 48) (some (b, o1 ++ [(⟨8, (⟨t96.Wbe, (t96.f_C.1, t96.f_C.2), t96.Zu⟩ : Zi), (-1)⟩ : Zd)], 0, t95.Wbe, t95.f_C.1, t95.f_C.2, t95.Zu, (-1))) none))) (some (b, o1, 0, t94.Wbe, t94.f_C.1, t94.f_C.2, t94.Zu, (-1)))) : Option (Int × List Zd × Int × Bool × Int × Int × Int × Int)).bind fun Wgb => (cond (Weh (List.length Wgb.2.1 + List.length [(⟨Wgb.2.2.1, (⟨Wgb.2.2.2.1, (Wgb.2.2.2.2.1, Wgb.2.2.2.2.2.1), Wgb.2.2.2.2.2.2.1⟩ : Zi), Wgb.2.2.2.2.2.2.2⟩ : Zd)]) 48) (some (Wgb.1, Wgb.2.1 ++ [(⟨Wgb.2.2.1, (⟨Wgb.2.2.2.1, (Wgb.2.2.2.2.1, Wgb.2.2.2.2.2.1), Wgb.2.2.2.2.2.2.1⟩ : Zi), Wgb.2.2.2.2.2.2.2⟩ : Zd)])) none))) (some (b, o1))) : Option (Int × List Zd))) = some (b, o2) ∧ 0 < o2.length ∧ o2.length ≤ 8 ∧ (∀ x ∈ o2, LnOk s e x) ∧ Qcw o2 = 0 := by
  intro bb hbb hbt
  cases bb
  ·refine ⟨o1, rfl, ?_, by omega, l4, by rw [l5]; exact (hbb rfl).2⟩
   have := (hbb rfl).1
   cases o1 with
   | nil => exact absurd rfl this
   | cons a r => exact Nat.succ_pos _
  ·have ng : Zcu.f k (⟨(DV S s).Wbe, ((DV S s).f_C.1, (DV S s).f_C.2), (DV S s).Zu⟩ : Zi) = some (DV (-S) s) := Qns (by omega) hS hs
   rw [cond_true, ng, Z0]
   cases o1 with
   | nil =>
    rw [show ((([] : List Zd).length : Int) == 0) = true from rfl, cond_true, Qhw (k := k) (by omega) (by omega), Qhw (k := k) (by omega) (by omega), cl_of hs, Z0, Z0]
    refine ⟨[⟨8, DV (-5) s, -1⟩, ⟨0, DV 5 s, -1⟩], rfl, Nat.succ_pos _, by simp, fun x hx => ?_, by show val (DV (-5) s) + (val (DV 5 s) + 0) = 0; rw [Wgh, Wgh]; rfl⟩
    simp only [List.mem_cons, List.not_mem_nil, or_false] at hx
    rcases hx with rfl | rfl
    ·exact ⟨-5, rfl, by decide, by decide, (by decide : (0 : Int) ≤ 8 ∧ (8 : Int) < 16), (fun h => absurd (show isW 8 = true from h) (by decide)), fun _ => rfl⟩
    ·exact ⟨5, rfl, by decide, by decide, (by decide : (0 : Int) ≤ 0 ∧ (0 : Int) < 16), (fun h => absurd (show isW 0 = true from h) (by decide)), fun _ => rfl⟩
   | cons a r =>
    have : (((a :: r).length : Int) == 0) = false := by
     rw [List.length_cons]
     simp
     omega
    rw [this, cond_false, Z0]
    dsimp only
    rw [Zfb (by simp only [List.length_cons, List.length_nil] at l3 ⊢; omega), cond_true]
    refine ⟨_, rfl, by simp, by simp only [List.length_append, List.length_cons, List.length_nil] at l3 ⊢; omega, fun x hx => ?_, by rw [Qhu, l5]; show S + val (DV (-S) s) = 0; rw [Wgh]; omega⟩
    rcases List.mem_append.1 hx with hx | hx
    ·exact l4 x hx
    ·simp only [List.mem_cons, List.not_mem_nil, or_false] at hx
     subst hx
     exact ⟨-S, rfl, by omega, by rcases hbt rfl with h | h <;> first | (cases h; done) | omega, ⟨Int.le_refl 0, (by decide : (0 : Int) < 16)⟩, (fun h => absurd (show isW 0 = true from h) (by decide)), fun _ => rfl⟩
 have join : ∃ bb : Bool, ((bb = false → o1 ≠ [] ∧ S = 0) ∧ (bb = true → o1 = [] ∨ S ≠ 0)) ∧ (cond ((if S = 0 then (0 : Int) else if S < 0 then -1 else 1) != 0) (some ((s : Int), b, true, o1, (DV S s).Wbe, (DV S s).f_C.1, (DV S s).f_C.2, (DV S s).Zu)) (some ((s : Int), b, (List.length o1 : Int) == 0, o1, (DV S s).Wbe, (DV S s).f_C.1, (DV S s).f_C.2, (DV S s).Zu)) : Option (Int × Int × Bool × List Zd × Bool × Int × Int × Int)) = some ((s : Int), b, bb, o1, (DV S s).Wbe, (DV S s).f_C.1, (DV S s).f_C.2, (DV S s).Zu) := by
  by_cases hS0 : S = 0
  ·rw [if_pos hS0]
   refine ⟨_, ⟨fun h => ⟨?_, hS0⟩, fun h => .inl ?_⟩, rfl⟩
   ·rintro rfl
    cases h
   ·cases o1 with
    | nil => rfl
    | cons a r =>
     rw [List.length_cons, beq_iff_eq] at h
     omega
  ·have : ((if S = 0 then (0 : Int) else if S < 0 then -1 else 1) != 0) = true := by
    rw [if_neg hS0]
    split <;> rfl
   rw [this]
   exact ⟨true, ⟨(fun h => by cases h), fun _ => .inr hS0⟩, rfl⟩
 obtain ⟨bb, hbb, hj⟩ := join
 rw [hj, Z0]
 dsimp only
 obtain ⟨o2, b1, b2, b3, b4, b5⟩ := bal bb hbb.1 hbb.2
 refine ex_of (bind_at b1 rfl) ?_
 dsimp only
 have pb := Zfe (IntKind.wrap .i64 (Int.tdiv b 20)) (m := (o2.length : Int)) (by omega)
 rw [Zdu k _ (by omega) (by omega), Z0, Zdu k _ (by decide) (by decide), Z0]
 generalize pick (IntKind.wrap .i64 (Int.tdiv b 20)) (o2.length : Int) = w at *
 have hin : inb w (List.length o2) = true := Wbv (by omega) (by omega)
 have hbl : Nat.blt (Int.toNat w) (List.length o2) = true := Wen (by omega)
 have hgm := Wkt Zd.zero (l := o2) (i := Int.toNat w) (by omega)
 have hgw := (b4 _ hgm).w2
 have put : ∀ (v : Zd), W2 v.Zq.f_C → ∃ out, some (List.set o2 (Int.toNat w) v) = some out ∧ out.length ≤ 9 ∧ ∀ x ∈ out, LnW x := by
  intro v hv
  refine ⟨_, rfl, by rw [List.length_set]; omega, fun x hx => ?_⟩
  rcases mem_set hx with hx | rfl
  ·exact (b4 x hx).w2
  ·exact hv
 rw [hin, hbl]
 simp only [cond_true]
 by_cases hb0 : b = 0
 ·refine ⟨o2, ?_, by omega, fun x hx => (b4 x hx).w2, fun _ => ⟨b5, b2, b3, b4⟩⟩
  have e0 : pick b 20 = 0 := by rw [hb0]; decide
  rw [e0]
  rfl
 refine (?_ : ∃ out, _ = some out ∧ out.length ≤ 9 ∧ ∀ x ∈ out, LnW x).imp fun out h => ⟨h.1, h.2.1, h.2.2, fun h => absurd h hb0⟩
 cases (pick b 20 == 12)
 ·rw [cond_false]
  cases (pick b 20 == 13)
  ·rw [cond_false]
   cases (pick b 20 == 14)
   ·rw [cond_false]
    cases (pick b 20 == 15)
    ·rw [cond_false]
     cases (pick b 20 == 16)
     ·rw [cond_false]
      exact ⟨o2, rfl, by omega, fun x hx => (b4 x hx).w2⟩
     ·rw [cond_true]
      obtain ⟨v, v1, v2, _⟩ := b4 _ hgm
      have ng : Zcu.f k (⟨((List.getD o2 (Int.toNat w) Zd.zero).Zq).Wbe, ((((List.getD o2 (Int.toNat w) Zd.zero).Zq).f_C).1, (((List.getD o2 (Int.toNat w) Zd.zero).Zq).f_C).2), ((List.getD o2 (Int.toNat w) Zd.zero).Zq).Zu⟩ : Zi) = some (DV (-v) s) := by
       rw [v1]
       exact Qns (by omega) (by unfold Sm; omega) hs
      rw [ng, Z0]
      exact put _ (Wjw (by unfold Sm; omega))
    ·rw [cond_true]
     obtain ⟨o3, f1, f2, f3⟩ := Qse hk b b2 (by omega) LnW (fun x hx => (b4 x hx).w2)
     rw [f1, Z0]
     dsimp only
     have p3 := Zfe (IntKind.wrap .i64 (Int.tdiv b 160)) (m := 3) (by decide)
     rw [Zdu k _ (by decide) (by decide), Z0, Wbt (by omega), inS_t (by omega) (by omega) (by omega), cond_true]
     refine ⟨_, rfl, by rw [List.length_take]; omega, fun x hx => f3 x (List.mem_of_mem_take hx)⟩
   ·rw [cond_true, Zdu k _ (by decide) (by decide), Z0]
    exact put _ hgw
  ·rw [cond_true]
   obtain ⟨d, d1, d2⟩ := HDec_ok (k := k) (by omega) (s := IntKind.wrap .i64 (Int.tdiv b 7)) (b := IntKind.wrap .i64 (Int.tdiv b 160)) hb
   rw [d1, Z0]
   exact put _ d2
 ·rw [cond_true, Zdu k _ (by decide) (by decide), Z0]
  exact put _ hgw
theorem HLines_ok {k : Nat} (hk : 700 < k) (L : List Int) (hlen : L.length ≤ 9223372036854775807) {s : Nat} (hs : s ≤ 9) {b : Int} (hb : -9223372036854775808 ≤ b ∧ b < 9223372036854775808) {e : Int} (he : 1 ≤ e ∧ e ≤ 4611686018427387904) :
  ∃ out, Zv.f k L (s : Int) b e = some out ∧ out.length ≤ 9 ∧ ∀ x ∈ out, LnW x := (Qhx hk L hlen hs hb he).imp fun _ h => ⟨h.1, h.2.1, h.2.2.1⟩
end Go.Proofs.Ytbchcjlllddlpaa.Pure
namespace Go.Proofs.Ytbchcjlllddlpaa.Pure
set_option linter.unusedVariables false
set_option linter.unusedSimpArgs false
open Go Go.Ev Go.Lm Go.Pu Go.Dg
theorem Of_DV (k : Nat) {n : Int} (h : -9223372036854775808 ≤ n ∧ n < 9223372036854775808) (s : Int) : Wgo.f k n s = some (DV n (cl s)) := by
 have e : (if (if (9 : Int) < s then 9 else s) > 0 then (if (9 : Int) < s then 9 else s) else 0) = ((cl s : Nat) : Int) := by
  unfold cl
  by_cases h9 : (9 : Int) < s
  ·rw [if_pos h9, if_pos (by omega)]; omega
  ·rw [if_neg h9]; split <;> omega
 have hw : w2 n.natAbs = (((n.natAbs : Nat) : Int), 0) := by
  unfold w2
  rw [Nat.mod_eq_of_lt (by omega), Nat.div_eq_of_lt (by omega)]
  rfl
 unfold Wgo.f DV
 rw [hw]
 by_cases hn : n < 0
 ·rw [ct hn, Z0]
  dsimp only
  rw [wrap64, wrap64, show (0 - n % 18446744073709551616) % 18446744073709551616 = ((n.natAbs : Nat) : Int) by omega, Qkx, Z0, e]
 ·rw [cf hn, Z0]
  dsimp only
  rw [wrap64, show n % 18446744073709551616 = ((n.natAbs : Nat) : Int) by omega, Qkx, Z0, e]
def rlB (s : Nat) (x : Zd) : Bool := (decide (0 ≤ x.Zde) && decide (x.Zde < 16)) && ((dOk x.Zq && !decide (val x.Zq = 0)) && ((x.Zq.Zu == (s : Int)) && (if isW x.Zde then decide (0 ≤ x.Zdo) && decide (x.Zdo < 8) else x.Zdo == -1)))
theorem Kind_eq (k : Nat) (a : Int) : ∃ v, Zct.f k a = some v ∧ (v == 0) = !(decide (0 ≤ a) && decide (a < 16)) := by
 unfold Zct.f
 by_cases h0 : a < 0
 ·rw [ct h0, Z0]
  exact ⟨_, rfl, by rw [decide_eq_false (show ¬ 0 ≤ a by omega)]; rfl⟩
 ·rw [cf h0, Z0]
  dsimp only
  by_cases h1 : a ≥ 16
  ·rw [ct h1]
   exact ⟨_, rfl, by rw [decide_eq_false (show ¬ a < 16 by omega), Bool.and_false]; rfl⟩
  ·rw [cf h1, decide_eq_true (show 0 ≤ a by omega), decide_eq_true (show a < 16 by omega)]
   cases decide (a ≤ 3) <;> cases decide (a ≤ 6) <;> cases decide (a ≤ 8) <;> exact ⟨_, rfl, rfl⟩
theorem IsWith_eq (k : Nat) (a : Int) : Zdm.f k a = some (isW a) := by
 unfold Zdm.f isW
 cases a == 3 <;> rfl
theorem Qln {k : Nat} (hk : 60 < k) {x : Zd} (hw : LnW x) (s : Nat) : Zbo.f k x (s : Int) = some (rlB s x) := by
 obtain ⟨a, d, w⟩ := x
 have hw : W2 d.f_C := hw
 unfold Zbo.f rlB
 dsimp only
 obtain ⟨v, v1, v2⟩ := Kind_eq k a
 have sg : Zcs.f k ⟨d.Wbe, (d.f_C.1, d.f_C.2), d.Zu⟩ = some (if dOk d then sgn (val d) else 0) := Qrv hk hw
 have hj : (cond (decide (w ≥ 0)) (some ((s : Int), decide (w < 8), a, d.Wbe, d.f_C.1, d.f_C.2, d.Zu, w)) (some ((s : Int), false, a, d.Wbe, d.f_C.1, d.f_C.2, d.Zu, w)) : Option (Int × Bool × Int × Bool × Int × Int × Int × Int)) = some ((s : Int), decide (0 ≤ w) && decide (w < 8), a, d.Wbe, d.f_C.1, d.f_C.2, d.Zu, w) := by
  by_cases h : w ≥ 0
  ·rw [ct h, decide_eq_true (show 0 ≤ w from h), Bool.true_and]
  ·rw [cf h, decide_eq_false (show ¬ 0 ≤ w from h), Bool.false_and]
 rw [hj, Z0]
 dsimp only
 rw [v1, Z0, v2, sg]
 have hz : ((if dOk d then sgn (val d) else 0) == (0 : Int)) = !(dOk d && !decide (val d = 0)) := by
  cases dOk d
  ·rfl
  ·rw [if_pos rfl, Qdc]; cases decide (val d = 0) <;> rfl
 rw [Z0, hz, show (d.Zu != (s : Int)) = !(d.Zu == (s : Int)) from rfl]
 simp only [IsWith_eq, Z0]
 cases (decide (0 ≤ a) && decide (a < 16))
 ·rfl
 ·cases (dOk d && !decide (val d = 0))
  ·rfl
  ·cases (d.Zu == (s : Int))
   ·rfl
   ·simp only [Bool.not_true, cond_false, Z0]
    cases isW a
    ·rfl
    ·cases (decide (0 ≤ w) && decide (w < 8)) <;> rfl
theorem Qry {k : Nat} (hk : 60 < k) {l : List Zd} (hl : l.length ≤ 1000) (hw : ∀ x ∈ l, LnW x) (s : Nat) : ∀ (n i : Nat), i ≤ l.length → l.length - i < n →
  iter (Zae.l4.once k) n (l, (s : Int), l, (l.length : Int), (i : Int)) = some (if (l.drop i).all (rlB s) then .inl (l, (s : Int)) else .inr 1) := by
 intro n
 induction n with
 | zero => intro i _ h; omega
 | succ n ih =>
  intro i hi hn
  by_cases hc : i < l.length
  ·have hm := Wkt Zd.zero (l := l) hc
   have hr := Qln hk (hw _ hm) s
   have hx : l.getD (Int.toNat (i : Int)) Zd.zero = l.getD i Zd.zero := by rw [Int.toNat_natCast]
   rw [Wgx Zd.zero hc, List.all_cons]
   generalize l.getD i Zd.zero = x at *
   cases hb : rlB s x with
   | true =>
    rw [Bool.true_and, ← ih (i + 1) (by omega) (by omega)]
    refine Zdd ?_
    unfold Zae.l4.once
    dsimp only
    have hr' : Zbo.f k ⟨x.Zde, ⟨x.Zq.Wbe, (x.Zq.f_C.1, x.Zq.f_C.2), x.Zq.Zu⟩, x.Zdo⟩ (s : Int) = some (rlB s x) := hr
    rw [ct (by omega), Wbv (by omega) (by omega), cond_true, hx, hr', Z0, hb, Bool.not_true, cond_false, Wbt (by omega)]
    rfl
   | false =>
    rw [Bool.false_and, if_neg (by decide)]
    refine Zbq ?_
    unfold Zae.l4.once
    dsimp only
    have hr' : Zbo.f k ⟨x.Zde, ⟨x.Zq.Wbe, (x.Zq.f_C.1, x.Zq.f_C.2), x.Zq.Zu⟩, x.Zdo⟩ (s : Int) = some (rlB s x) := hr
    rw [ct (by omega), Wbv (by omega) (by omega), cond_true, hx, hr', Z0, hb, Bool.not_false, cond_true]
  ·rw [List.drop_eq_nil_of_le (by omega), List.all_nil, if_pos rfl]
   refine Zbq ?_
   unfold Zae.l4.once
   dsimp only
   rw [cf (by omega)]
def Wpo : Int → List Zd → Option Int
 | a, [] => some a
 | a, x :: r => if (a + val x.Zq).natAbs < 1000000000000000000000000000000 then Wpo (a + val x.Zq) r else none
theorem rl_DV {s : Nat} {x : Zd} (hw : LnW x) (h : rlB s x = true) : x.Zq = DV (val x.Zq) s ∧ Sm (val x.Zq) ∧ val x.Zq ≠ 0 ∧ s ≤ 9 := by
 unfold rlB at h
 simp only [Bool.and_eq_true, Bool.not_eq_true', decide_eq_false_iff_not, beq_iff_eq] at h
 obtain ⟨_, ⟨h1, h2⟩, h3, _⟩ := h
 obtain ⟨g1, g2, g3, g4⟩ := dOk_DV hw h1
 have hs : x.Zq.Zu.toNat = s := by omega
 rw [hs] at g1 g3
 exact ⟨g1, g2, h2, g3⟩
def sums (s : Nat) (r : Option Int) : ((Bool × Int × Int × Int) ⊕ Int) := match r with
 | some S => .inl ((DV S s).Wbe, (DV S s).f_C.1, (DV S s).f_C.2, (DV S s).Zu)
 | none => .inr 3
theorem Quj {k : Nat} (hk : 60 < k) {l : List Zd} (hl : l.length ≤ 1000) (hw : ∀ x ∈ l, LnW x) {s : Nat} (hr : ∀ x ∈ l, rlB s x = true) : ∀ (n i : Nat) (a : Int), i ≤ l.length → l.length - i < n → Sm a →
  iter (Zae.l11.once k) n (l, (l.length : Int), (i : Int), (DV a s).Wbe, (DV a s).f_C.1, (DV a s).f_C.2, (DV a s).Zu) = some (sums s (Wpo a (l.drop i))) := by
 intro n
 induction n with
 | zero => intro i a _ h; omega
 | succ n ih =>
  intro i a hi hn ha
  by_cases hc : i < l.length
  ·have hm := Wkt Zd.zero (l := l) hc
   obtain ⟨g1, g2, g3, g4⟩ := rl_DV (hw _ hm) (hr _ hm)
   rw [Wgx Zd.zero hc]
   have hx : l.getD (Int.toNat (i : Int)) Zd.zero = l.getD i Zd.zero := by rw [Int.toNat_natCast]
   have e1 : Zel.f k ⟨(DV a s).Wbe, ((DV a s).f_C.1, (DV a s).f_C.2), (DV a s).Zu⟩ ⟨(l.getD i Zd.zero).Zq.Wbe, ((l.getD i Zd.zero).Zq.f_C.1, (l.getD i Zd.zero).Zq.f_C.2), (l.getD i Zd.zero).Zq.Zu⟩ = some (mkD (a + val (l.getD i Zd.zero).Zq) s) := by
    have := Add_DV hk (i := a) (j := val (l.getD i Zd.zero).Zq) (s := s) (t := s) ha g2 g4 g4
    rw [← g1, Nat.max_self, Nat.sub_self, Int.pow_zero, Int.mul_one, Int.mul_one] at this
    exact this
   unfold Wpo
   by_cases hf : (a + val (l.getD i Zd.zero).Zq).natAbs < 1000000000000000000000000000000
   ·rw [if_pos hf, ← ih (i + 1) _ (by omega) (by omega) hf]
    refine Zdd ?_
    unfold Zae.l11.once
    dsimp only
    unfold mkD at e1
    rw [if_pos hf] at e1
    rw [ct (by omega), Wbv (by omega) (by omega), cond_true, hx, e1, Z0, Wbt (by omega)]
    rfl
   ·rw [if_neg hf]
    refine Zbq ?_
    unfold Zae.l11.once
    dsimp only
    unfold mkD at e1
    rw [if_neg hf] at e1
    rw [ct (by omega), Wbv (by omega) (by omega), cond_true, hx, e1, Z0]
    rfl
  ·rw [List.drop_eq_nil_of_le (by omega)]
   refine Zbq ?_
   unfold Zae.l11.once
   dsimp only
   rw [cf (by omega)]
   rfl
theorem runS_Sm : ∀ (l : List Zd) (a S : Int), Sm a → Wpo a l = some S → Sm S := by
 intro l
 induction l with
 | nil => intro a S ha h; unfold Wpo at h; cases h; exact ha
 | cons x r ih =>
  intro a S ha h
  unfold Wpo at h
  split at h
  ·exact ih _ _ (by assumption) h
  ·cases h
def Wfb (s : Nat) (l : List Zd) : Int := if l.length = 0 ∨ 8 < l.length then 1 else if l.all (rlB s) then (match Wpo 0 l with | none => 3 | some S => if S = 0 then 0 else 9) else 1
theorem ERight_eq {k : Nat} (hk : 60 < k) {l : List Zd} (hl : l.length ≤ 1000 ∧ l.length < k) (hw : ∀ x ∈ l, LnW x) {s : Nat} (hs : s ≤ 9) : Zae.f k l (s : Int) = some (Wfb s l) := by
 unfold Zae.f Wfb
 have hj : (cond ((List.length l : Int) == 0) (some (l, (s : Int), true)) (some (l, (s : Int), decide ((List.length l : Int) > 8))) : Option (List Zd × Int × Bool)) = some (l, (s : Int), decide (l.length = 0 ∨ 8 < l.length)) := by
  by_cases h : l.length = 0
  ·rw [show ((List.length l : Int) == 0) = true by rw [h]; rfl, cond_true, decide_eq_true (.inl h)]
  ·rw [show ((List.length l : Int) == 0) = false by rw [Bool.eq_false_iff]; intro hh; rw [beq_iff_eq] at hh; omega, cond_false]
   congr 3
   rw [decide_eq_decide]; omega
 rw [hj, Z0]
 dsimp only
 by_cases h : l.length = 0 ∨ 8 < l.length
 ·rw [ct h, if_pos h]
 ·rw [cf h, if_neg h]
  have h4 := Qry hk hl.1 hw s k 0 (by omega) (by omega)
  rw [List.drop_zero] at h4
  have h4' : iter (Zae.l4.once k) k (l, (s : Int), l, (l.length : Int), 0) = _ := h4
  rw [h4', Z0]
  by_cases ha : l.all (rlB s) = true
  ·rw [if_pos ha, if_pos ha]
   dsimp only
   rw [Of_DV k (by omega), cl_of hs, Z0]
   have h5 := Quj hk hl.1 hw (s := s) (fun x hx => List.all_eq_true.1 ha x hx) k 0 0 (by omega) (by omega) (by unfold Sm; decide)
   rw [List.drop_zero] at h5
   have h5' : iter (Zae.l11.once k) k (l, (l.length : Int), 0, (DV 0 s).Wbe, (DV 0 s).f_C.1, (DV 0 s).f_C.2, (DV 0 s).Zu) = _ := h5
   rw [h5', Z0]
   unfold sums
   cases hr : Wpo 0 l with
   | none => rfl
   | some S =>
    dsimp only
    have hS := runS_Sm l 0 S (by unfold Sm; decide) hr
    have sg : Zcs.f k ⟨(DV S s).Wbe, ((DV S s).f_C.1, (DV S s).f_C.2), (DV S s).Zu⟩ = _ := Wls hk hS hs
    rw [sg, Z0]
    by_cases h0 : S = 0
    ·rw [if_pos h0, if_pos h0]; rfl
    ·rw [if_neg h0, if_neg h0]
     split <;> rfl
  ·rw [if_neg ha, if_neg ha]
def turn (s : Nat) (x : Zd) : Zd := ⟨x.Zde, DV (-(val x.Zq)) s, x.Zdo⟩
theorem Quy {k : Nat} (hk : 60 < k) {l : List Zd} (hl : l.length ≤ 1000 ∧ l.length < k) {s : Nat} (hs : s ≤ 9) (hr : ∀ x ∈ l, x.Zq = DV (val x.Zq) s ∧ Sm (val x.Zq)) : Zax.f k l = some (l.map (turn s)) := by
 unfold Zax.f
 have h := Wnc (once := Zax.l3.once k) (fun i => ((l.take i).map (turn s), l, (l.length : Int), (i : Int))) l.length (by
  intro i hi
  have hm := Wkt Zd.zero (l := l) hi
  obtain ⟨g1, g2⟩ := hr _ hm
  have hx : l.getD (Int.toNat (i : Int)) Zd.zero = l.getD i Zd.zero := by rw [Int.toNat_natCast]
  have e1 : Whn.f k ⟨(l.getD i Zd.zero).Zq.Wbe, ((l.getD i Zd.zero).Zq.f_C.1, (l.getD i Zd.zero).Zq.f_C.2), (l.getD i Zd.zero).Zq.Zu⟩ = some (DV (-(val (l.getD i Zd.zero).Zq)) s) := by
   have := Neg_DV hk (i := val (l.getD i Zd.zero).Zq) (s := s) g2 hs
   rw [← g1] at this
   exact this
  unfold Zax.l3.once
  dsimp only
  rw [ct (by omega), Wbv (by omega) (by omega), cond_true, hx, e1, Z0, Zfb (by simp; omega), cond_true, Wbt (by omega)]
  have ht : (l.take (i + 1)).map (turn s) = (l.take i).map (turn s) ++ [turn s (l.getD i Zd.zero)] := by
   rw [List.take_add_one, List.map_append, List.getD_eq_getElem?_getD, Z3 hi]
   rfl
  rw [ht]
  rfl) (l.map (turn s)) (by
  unfold Zax.l3.once
  dsimp only
  rw [cf (by omega), List.take_length]) k 0 (by omega) (by omega)
 have h' : iter (Zax.l3.once k) k ([], l, (l.length : Int), 0) = some (l.map (turn s)) := h
 rw [h', Z0]
end Go.Proofs.Ytbchcjlllddlpaa.Pure
namespace Go.Proofs.Ytbchcjlllddlpaa.Pure
set_option linter.unusedVariables false
set_option linter.unusedSimpArgs false
open Go Go.Ev Go.Lm Go.Pu Go.Dg
def T12 (t : Ze) : Prop := t.Zk.length = 12 ∧ t.Zj.length = 12
theorem pk {t : Ze} (h : T12 t) : (⟨pack 12 false t.Zk, pack 12 0 t.Zj⟩ : Ze) = t := by
 rw [Zck false h.1, Zck 0 h.2]
theorem pkB {b : Zf} (h : T12 b.f_t) : (⟨b.Zac, b.f_l, ⟨pack 12 false b.f_t.Zk, pack 12 0 b.f_t.Zj⟩⟩ : Zf) = b := by
 rw [pk h]
def opn (t : Ze) (p : Int) : Bool := decide (p ≥ 0) && (decide (p < 12) && !(t.Zk.getD p.toNat false))
theorem Wsh (k : Nat) {t : Ze} (h : T12 t) (p : Int) : Zca.f k t p = some (opn t p) := by
 unfold Zca.f Zeg.f opn
 by_cases h0 : p ≥ 0
 ·rw [ct h0, decide_eq_true h0, Z0]
  by_cases h1 : p < 12
  ·rw [ct h1, decide_eq_true h1, Wbv (by omega) (by omega), Wen (by omega), cond_true, cond_true, Zck false h.1]
   rfl
  ·rw [cf h1, decide_eq_false h1]; rfl
 ·rw [cf h0, decide_eq_false h0]; rfl
noncomputable def Whz (b : Zf) (x : Za) : Int × Int × Zf := if opn b.f_t x.Zad then (if b.f_l.length = 40 then (0, 5, b) else ((b.f_l.length : Int), 0, ⟨b.Zac, b.f_l ++ [x], b.f_t⟩)) else (0, 8, b)
theorem Badd_eq (k : Nat) {b : Zf} (h : T12 b.f_t) (hl : b.f_l.length ≤ 40) {x : Za} (hx : x.Zay.length ≤ 1000) : Zcl.f k b x = some (Whz b x) := by
 unfold Zcl.f Whz Zm.f
 rw [pkB h, pk h, Wsh k h, Z0]
 cases opn b.f_t x.Zad
 ·rw [if_neg (by decide)]; rfl
 ·rw [Bool.not_true, cond_false, if_pos rfl]
  by_cases h40 : b.f_l.length = 40
  ·rw [if_pos h40, show ((b.f_l.length : Int) == 40) = true by rw [h40]; rfl, cond_true]
  ·rw [if_neg h40, show ((b.f_l.length : Int) == 40) = false by rw [Bool.eq_false_iff]; intro hh; rw [beq_iff_eq] at hh; omega, cond_false, Zfb (by simp; omega), cond_true, Z0, Zfb (by simp; omega), cond_true, List.nil_append, Wbt (by simp; omega), List.length_append, List.length_singleton]
   rw [show (((b.f_l.length + 1 : Nat) : Int) - 1) = (b.f_l.length : Int) by omega]
theorem Qnn {b : Zf} (h : T12 b.f_t) (x : Za) : T12 (Whz b x).2.2.f_t := by
 unfold Whz; split <;> (try split) <;> exact h
noncomputable def Wkp (s : Nat) (b : Zf) (p : Int) (l : List Zd) : Int × Int × Zf := if Wfb s l = 0 then Whz b ⟨p, l, -1⟩ else (0, Wfb s l, b)
theorem Bpost_eq {k : Nat} (hk : 1000 < k) {b : Zf} (h : T12 b.f_t) (hl : b.f_l.length ≤ 40) {s : Nat} (hs : s ≤ 9) (hb : b.Zac = (s : Int)) (p : Int) {l : List Zd} (hn : l.length ≤ 1000) (hw : ∀ x ∈ l, LnW x) :
  Zcd.f k b p l = some (Wkp s b p l) := by
 unfold Zcd.f Wkp
 rw [hb, ERight_eq (k := k) (by omega) ⟨hn, by omega⟩ hw hs, Z0, ← hb, pkB h]
 by_cases h0 : Wfb s l = 0
 ·rw [if_pos h0, show (Wfb s l != 0) = false by rw [h0]; rfl, cond_false, Badd_eq k h hl (x := ⟨p, l, -1⟩) hn, Z0, pkB (Qnn h _)]
 ·rw [if_neg h0, show (Wfb s l != 0) = true by rw [bne_iff_ne]; exact h0, cond_true]
def Wnh (l : List Za) (n : Int) : Bool := l.any fun x => x.Wbm == n
theorem Index_eq {k : Nat} {l : List Za} (hl : l.length ≤ 1000) (m : Int) : ∀ (n i : Nat), i ≤ l.length → l.length - i < n →
  ∃ r, iter (Zc.l2.once k) n (l, m, (l.length : Int), (i : Int)) = some r ∧ (match r with | .inl () => (l.drop i).any (fun x => x.Wbm == m) = false | .inr j => j ≥ 0 ∧ (l.drop i).any (fun x => x.Wbm == m) = true) := by
 intro n
 induction n with
 | zero => intro i _ h; omega
 | succ n ih =>
  intro i hi hn
  by_cases hc : i < l.length
  ·have hx : l.getD (Int.toNat (i : Int)) Za.zero = l.getD i Za.zero := by rw [Int.toNat_natCast]
   rw [Wgx Za.zero hc]
   by_cases hb : ((l.getD i Za.zero).Wbm == m) = true
   ·refine ⟨.inr (i : Int), Zbq ?_, by omega, by rw [List.any_cons, hb, Bool.true_or]⟩
    unfold Zc.l2.once Zbk.f
    dsimp only
    rw [ct (by omega), Wbv (by omega) (by omega), cond_true, hx, Z0, hb, cond_true]
   ·have hb : ((l.getD i Za.zero).Wbm == m) = false := by simpa using hb
    obtain ⟨r, r1, r2⟩ := ih (i + 1) (by omega) (by omega)
    refine ⟨r, ?_, by rw [List.any_cons, hb, Bool.false_or]; exact r2⟩
    rw [← r1]
    refine Zdd ?_
    unfold Zc.l2.once Zbk.f
    dsimp only
    rw [ct (by omega), Wbv (by omega) (by omega), cond_true, hx, Z0, hb, cond_false, Wbt (by omega)]
    rfl
  ·refine ⟨.inl (), Zbq ?_, by rw [List.drop_eq_nil_of_le (by omega)]; rfl⟩
   unfold Zc.l2.once
   dsimp only
   rw [cf (by omega)]
theorem Qsi {k : Nat} (hk : 1000 < k) {l : List Za} (hl : l.length ≤ 1000) (m : Int) : Zg.f k l m = some (Wnh l m) := by
 unfold Zg.f Zc.f Wnh
 obtain ⟨r, r1, r2⟩ := Index_eq (k := k) hl m k 0 (by omega) (by omega)
 have r1' : iter (Zc.l2.once k) k (l, m, (l.length : Int), 0) = some r := r1
 rw [List.drop_zero] at r2
 rw [r1', Z0]
 cases r with
 | inl u =>
  have e : (l.any fun x => x.Wbm == m) = false := r2
  rw [e]; rfl
 | inr j =>
  have e : j ≥ 0 ∧ (l.any fun x => x.Wbm == m) = true := r2
  rw [e.2]
  show some (decide (j ≥ 0)) = some true
  rw [decide_eq_true e.1]
noncomputable def Won (s : Nat) (b : Zf) (n p : Int) : Int × Int × Zf :=
 if n < 0 ∨ n ≥ b.f_l.length then (0, 10, b) else if (b.f_l.getD n.toNat Za.zero).Wbm ≥ 0 ∨ Wnh b.f_l n = true then (0, 13, b) else Whz b ⟨p, (b.f_l.getD n.toNat Za.zero).Zay.map (turn s), n⟩
def LsOk (s : Nat) (l : List Zd) : Prop := l.length ≤ 8 ∧ ∀ x ∈ l, x.Zq = DV (val x.Zq) s ∧ Sm (val x.Zq)
theorem Brev_eq {k : Nat} (hk : 1000 < k) {b : Zf} (h : T12 b.f_t) (hl : b.f_l.length ≤ 40) {s : Nat} (hs : s ≤ 9) (n p : Int) (he : ∀ x ∈ b.f_l, LsOk s x.Zay) :
  Zaz.f k b n p = some (Won s b n p) := by
 unfold Zaz.f Won
 have hj : (cond (decide (n < 0)) (some (p, true, b.Zac, b.f_l, (⟨pack 12 false b.f_t.Zk, pack 12 0 b.f_t.Zj⟩ : Ze), n)) (some (p, decide (n ≥ (List.length b.f_l : Int)), b.Zac, b.f_l, (⟨pack 12 false b.f_t.Zk, pack 12 0 b.f_t.Zj⟩ : Ze), n)) : Option (Int × Bool × Int × List Za × Ze × Int)) = some (p, decide (n < 0 ∨ n ≥ b.f_l.length), b.Zac, b.f_l, b.f_t, n) := by
  rw [pk h]
  by_cases h0 : n < 0
  ·rw [ct h0, decide_eq_true (.inl h0)]
  ·rw [cf h0]
   congr 3
   rw [decide_eq_decide]; omega
 rw [hj, Z0]
 dsimp only
 rw [pkB h]
 by_cases h0 : n < 0 ∨ n ≥ b.f_l.length
 ·rw [ct h0, if_pos h0]
 ·rw [cf h0, if_neg h0]
  have hn : n.toNat < b.f_l.length := by omega
  have hm := Wkt Za.zero hn
  have hj2 : (cond (inb n (List.length b.f_l)) (cond (decide (((List.getD b.f_l (Int.toNat n) Za.zero).Wbm) ≥ 0)) (some (p, n, true, b.Zac, b.f_l, (⟨pack 12 false b.f_t.Zk, pack 12 0 b.f_t.Zj⟩ : Ze))) ((Zg.f k b.f_l n).bind fun t62 => (some (p, n, t62, b.Zac, b.f_l, (⟨pack 12 false b.f_t.Zk, pack 12 0 b.f_t.Zj⟩ : Ze))))) none : Option (Int × Int × Bool × Int × List Za × Ze)) = some (p, n, decide ((b.f_l.getD n.toNat Za.zero).Wbm ≥ 0 ∨ Wnh b.f_l n = true), b.Zac, b.f_l, b.f_t) := by
   rw [Wbv (by omega) (by omega), cond_true, pk h, Qsi hk (by omega), Z0]
   by_cases h1 : (b.f_l.getD n.toNat Za.zero).Wbm ≥ 0
   ·rw [ct h1, decide_eq_true (.inl h1)]
   ·rw [cf h1]
    congr 4
    cases hr : Wnh b.f_l n with
    | true => rw [decide_eq_true (.inr rfl)]
    | false => rw [decide_eq_false (by rintro (h2 | h2) <;> first | exact h1 h2 | cases h2)]
  rw [hj2, Z0]
  dsimp only
  rw [pkB h]
  by_cases h1 : (b.f_l.getD n.toNat Za.zero).Wbm ≥ 0 ∨ Wnh b.f_l n = true
  ·rw [ct h1, if_pos h1]
  ·rw [cf h1, if_neg h1, Wbv (by omega) (by omega), cond_true, Quy (k := k) (by omega) ⟨by have := (he _ hm).1; omega, by have := (he _ hm).1; omega⟩ hs (he _ hm).2, Z0, Badd_eq k h hl (x := ⟨p, (b.f_l.getD n.toNat Za.zero).Zay.map (turn s), n⟩) (by dsimp only; rw [List.length_map]; have := (he _ hm).1; omega), Z0, pkB (Qnn h _)]
theorem set_getD {α : Type} (l : List α) (i : Nat) (d : α) : l.set i (l.getD i d) = l := by
 by_cases h : i < l.length
 ·rw [List.getD_eq_getElem?_getD, Z3 h, Option.getD_some, List.set_getElem_self]
 ·exact List.set_eq_of_length_le (by omega)
theorem Wrj {k : Nat} (hk : 1000 < k) {b : Zf} (h : T12 b.f_t) (hl : b.f_l.length ≤ 40) (he : ∀ x ∈ b.f_l, x.Zay.length ≤ 1000) : Zaa.f k b = some (b.f_l, b) := by
 unfold Zaa.f Zl.f Zbh.f
 rw [Zfb (by simp; omega), cond_true, List.nil_append, Z0, decide_eq_true rfl, Bool.and_true, cond_true, Z0, pk h]
 have hi := Wnc (once := Zaa.l5.once k) (fun i => ((b.f_l.length : Int), (i : Int), b.f_l, b.Zac, b.f_l, b.f_t)) b.f_l.length (by
  intro i hi
  have hm := he _ (Wkt Za.zero hi)
  unfold Zaa.l5.once Zm.f Zbz.f
  dsimp only
  rw [ct (by omega), Wbv (by omega) (by omega), cond_true, Int.toNat_natCast, Wen hi, cond_true, Zfb (by simp only [List.length_nil, Nat.zero_add]; omega), cond_true, List.nil_append, Z0, decide_eq_true rfl, Bool.true_and, inS_t (by omega) (by omega) (by omega), cond_true, Z0, cond_true, cond_true, pk h, Int.toNat_natCast, List.take_length, Wbt (by omega)]
  have : (⟨(b.f_l.getD i Za.zero).Zad, (b.f_l.getD i Za.zero).Zay, (b.f_l.getD i Za.zero).Wbm⟩ : Za) = b.f_l.getD i Za.zero := rfl
  rw [this, set_getD]
  rfl) (b.f_l, b.Zac, b.f_l, b.f_t) (by
  unfold Zaa.l5.once
  dsimp only
  rw [cf (by omega), pk h]) k 0 (by omega) (by omega)
 have hi' : iter (Zaa.l5.once k) k ((b.f_l.length : Int), 0, b.f_l, b.Zac, b.f_l, b.f_t) = some (b.f_l, b.Zac, b.f_l, b.f_t) := hi
 rw [hi', Z0]
 dsimp only
 rw [pkB h]
theorem Qkz (k : Nat) {b : Zf} (h : T12 b.f_t) : Zbe.f k b = some (b.Zac, b) := by
 unfold Zbe.f
 rw [pkB h]
end Go.Proofs.Ytbchcjlllddlpaa.Pure
namespace Go.Proofs.Ytbchcjlllddlpaa.Pe
set_option linter.unusedVariables false
set_option linter.unusedSimpArgs false
open Go Go.Ev Go.Pu
def F12 : List Bool := [false, false, false, false, false, false, false, false, false, false, false, false]
def Z12 : List Int := [0, 0, 0, 0, 0, 0, 0, 0, 0, 0, 0, 0]
def cOk (C : List Bool) (p : Int) : Bool := decide (0 ≤ p) && (decide (p < 12) && (!C.getD p.toNat false && (!decide (p > 0) || C.getD (p - 1).toNat false)))
def rOk (C : List Bool) (p : Int) : Bool := decide (0 ≤ p) && (decide (p < 12) && (C.getD p.toNat false && (!decide (p + 1 < 12) || !C.getD (p + 1).toNat false)))
def clo (C : List Bool) (V : List Int) (p : Int) : List Bool × List Int × Int := if cOk C p = true then (C.set p.toNat true, V.set p.toNat (IntKind.wrap .i64 (V.getD p.toNat 0 + 1)), 0) else (F12, Z12, 8)
def reo (C : List Bool) (V : List Int) (p : Int) : List Bool × List Int × Int := if rOk C p = true then (C.set p.toNat false, V, 0) else (F12, Z12, 8)
def isO (C : List Bool) (p : Int) : Bool := decide (0 ≤ p) && (decide (p < 12) && !C.getD p.toNat false)
theorem Qni {C : List Bool} {V : List Int} (hC : C.length = 12) (hV : V.length = 12) (p : Int) : (clo C V p).1.length = 12 ∧ (clo C V p).2.1.length = 12 := by
 unfold clo
 split
 ·simp [hC, hV]
 ·exact ⟨rfl, rfl⟩
theorem Qlr {C : List Bool} {V : List Int} (hC : C.length = 12) (hV : V.length = 12) (p : Int) : (reo C V p).1.length = 12 ∧ (reo C V p).2.1.length = 12 := by
 unfold reo
 split
 ·simp [hC, hV]
 ·exact ⟨rfl, rfl⟩
theorem is_eq (k : Nat) (p : Int) : Zeg.f k p = some (decide (0 ≤ p) && decide (p < 12)) := by
 unfold Zeg.f
 by_cases h : p ≥ 0
 ·rw [ct h]; simp [h]
 ·rw [cf h]; simp; omega
theorem ris_eq (k : Nat) (p : Int) : Zdk.f k p = some (decide (0 ≤ p) && decide (p < 12)) := by
 unfold Zdk.f
 by_cases h : p ≥ 0
 ·rw [ct h]; simp [h]
 ·rw [cf h]; simp; omega
section
variable {C : List Bool} {V : List Int} (hC : C.length = 12) (hV : V.length = 12) (k : Nat) {p : Int} (hp : -1000 ≤ p ∧ p ≤ 1000)
include hC
theorem Wsh (p : Int) : Zca.f k ⟨C, V⟩ p = some (isO C p) := by
 unfold Zca.f isO
 rw [is_eq, Z0]
 simp only [Zck false hC]
 by_cases h : 0 ≤ p ∧ p < 12
 ·rw [decide_eq_true h.1, decide_eq_true h.2, Wbv h.1 (by omega), Wen (by omega)]; rfl
 ·by_cases h1 : 0 ≤ p
  ·rw [decide_eq_false (show ¬ p < 12 by omega)]; simp
  ·rw [decide_eq_false h1]; simp
theorem Qus (p : Int) : Zbp.f k ⟨C, V⟩ p = some (isO C p) := by
 unfold Zbp.f isO
 rw [ris_eq, Z0]
 simp only [Zck false hC]
 by_cases h : 0 ≤ p ∧ p < 12
 ·rw [decide_eq_true h.1, decide_eq_true h.2, Wbv h.1 (by omega), Wen (by omega)]; rfl
 ·by_cases h1 : 0 ≤ p
  ·rw [decide_eq_false (show ¬ p < 12 by omega)]; simp
  ·rw [decide_eq_false h1]; simp
include hV hp
theorem Close_eq : Zdc.f k ⟨C, V⟩ p = some (⟨(clo C V p).1, (clo C V p).2.1⟩, (clo C V p).2.2) := by
 unfold Zdc.f
 simp only [Zck false hC, Zck 0 hV]
 rw [Wsh hC, Z0, Wbt (by omega)]
 unfold clo
 by_cases h0 : isO C p = true
 ·rw [h0, show (!true) = false by rfl, cond_false]
  have hb : 0 ≤ p ∧ p < 12 ∧ C.getD p.toNat false = false := by
   unfold isO at h0
   simp only [Bool.and_eq_true, decide_eq_true_eq, Bool.not_eq_true'] at h0
   exact h0
  by_cases h1 : p > 0
  ·rw [ct h1, Wbv (by omega) (by omega), cond_true, Wen (by omega), cond_true, Z0]
   dsimp only
   cases h2 : C.getD (p - 1).toNat false with
   | true =>
    have hc : cOk C p = true := by unfold cOk; rw [hb.2.2, h2, decide_eq_true hb.1, decide_eq_true hb.2.1]; simp
    rw [if_pos hc, show (!true) = false by rfl, cond_false, Wbv hb.1 (by omega), Wen (by omega)]
    simp only [cond_true, Zck false hC, Zck 0 hV, Zff]
   | false =>
    have hc : ¬ cOk C p = true := by unfold cOk; rw [h2, decide_eq_true h1]; simp
    rw [if_neg hc]
    rfl
  ·rw [cf h1, Z0]
   have hc : cOk C p = true := by unfold cOk; rw [hb.2.2, decide_eq_true hb.1, decide_eq_true hb.2.1, decide_eq_false h1]; simp
   rw [if_pos hc]
   dsimp only
   rw [cond_false, Wbv hb.1 (by omega), Wen (by omega)]
   simp only [cond_true, Zck false hC, Zck 0 hV, Zff]
 ·rw [Bool.not_eq_true] at h0
  have hc : ¬ cOk C p = true := by
   intro h
   unfold cOk at h
   unfold isO at h0
   simp only [Bool.and_eq_true] at h
   rw [h.1, h.2.1, h.2.2.1] at h0
   cases h0
  rw [h0, if_neg hc]
  rfl
theorem RClose_eq : Zbj.f k ⟨C, V⟩ p = some (⟨(clo C V p).1, (clo C V p).2.1⟩, (clo C V p).2.2) := by
 unfold Zbj.f
 simp only [Zck false hC, Zck 0 hV]
 rw [ris_eq, Z0, Wbt (by omega)]
 unfold clo
 by_cases hb : 0 ≤ p ∧ p < 12
 ·rw [decide_eq_true hb.1, decide_eq_true hb.2, Bool.true_and, show (!true) = false by rfl, cond_false, Wbv hb.1 (by omega), Wen (by omega), cond_true, cond_true]
  cases h0 : C.getD p.toNat false with
  | true =>
   have hc : ¬ cOk C p = true := by unfold cOk; rw [h0]; simp
   rw [if_neg hc]
   rfl
  | false =>
   rw [cond_false]
   by_cases h1 : p > 0
   ·rw [ct h1, Wbv (by omega) (by omega), cond_true, Wen (by omega), cond_true, Z0]
    dsimp only
    cases h2 : C.getD (p - 1).toNat false with
    | true =>
     have hc : cOk C p = true := by unfold cOk; rw [h0, h2, decide_eq_true hb.1, decide_eq_true hb.2]; simp
     rw [if_pos hc, show (!true) = false by rfl, cond_false, Wbv hb.1 (by omega), Wen (by omega)]
     simp only [cond_true, Zck false hC, Zck 0 hV, Zff]
    | false =>
     have hc : ¬ cOk C p = true := by unfold cOk; rw [h2, decide_eq_true h1]; simp
     rw [if_neg hc]
     rfl
   ·rw [cf h1, Z0]
    have hc : cOk C p = true := by unfold cOk; rw [h0, decide_eq_true hb.1, decide_eq_true hb.2, decide_eq_false h1]; simp
    rw [if_pos hc]
    dsimp only
    rw [cond_false, Wbv hb.1 (by omega), Wen (by omega)]
    simp only [cond_true, Zck false hC, Zck 0 hV, Zff]
 ·have h : (decide (0 ≤ p) && decide (p < 12)) = false := by rw [Bool.eq_false_iff]; intro h; simp at h; exact hb h
  have hc : ¬ cOk C p = true := by
   intro h'
   unfold cOk at h'
   simp only [Bool.and_eq_true, decide_eq_true_eq] at h'
   exact hb ⟨h'.1, h'.2.1⟩
  rw [h, if_neg hc]
  rfl
theorem Reopen_eq : Zcr.f k ⟨C, V⟩ p = some (⟨(reo C V p).1, (reo C V p).2.1⟩, (reo C V p).2.2) := by
 unfold Zcr.f
 simp only [Zck false hC, Zck 0 hV]
 rw [is_eq, Z0, Wbt (by omega)]
 unfold reo
 by_cases hb : 0 ≤ p ∧ p < 12
 ·rw [decide_eq_true hb.1, decide_eq_true hb.2, Bool.true_and, show (!true) = false by rfl, cond_false, Wbv hb.1 (by omega), Wen (by omega), cond_true, cond_true]
  cases h0 : C.getD p.toNat false with
  | false =>
   have hc : ¬ rOk C p = true := by unfold rOk; rw [h0]; simp
   rw [if_neg hc]
   rfl
  | true =>
   rw [show (!true) = false by rfl, cond_false, is_eq, Z0, decide_eq_true (show 0 ≤ p + 1 by omega), Bool.true_and]
   by_cases h1 : p + 1 < 12
   ·rw [decide_eq_true h1, cond_true, Wbv (by omega) (by omega), cond_true, Wen (by omega), cond_true, Z0]
    dsimp only
    cases h2 : C.getD (p + 1).toNat false with
    | false =>
     have hc : rOk C p = true := by unfold rOk; rw [h0, h2, decide_eq_true hb.1, decide_eq_true hb.2]; simp
     rw [if_pos hc, cond_false, Wbv hb.1 (by omega), Wen (by omega)]
     simp only [cond_true, Zck false hC, Zck 0 hV, Zff]
    | true =>
     have hc : ¬ rOk C p = true := by unfold rOk; rw [h2, decide_eq_true h1]; simp
     rw [if_neg hc]
     rfl
   ·rw [decide_eq_false h1, cond_false, Z0]
    have hc : rOk C p = true := by unfold rOk; rw [h0, decide_eq_true hb.1, decide_eq_true hb.2, decide_eq_false h1]; simp
    rw [if_pos hc]
    dsimp only
    rw [cond_false, Wbv hb.1 (by omega), Wen (by omega)]
    simp only [cond_true, Zck false hC, Zck 0 hV, Zff]
 ·have h : (decide (0 ≤ p) && decide (p < 12)) = false := by rw [Bool.eq_false_iff]; intro h; simp at h; exact hb h
  have hc : ¬ rOk C p = true := by
   intro h'
   unfold rOk at h'
   simp only [Bool.and_eq_true, decide_eq_true_eq] at h'
   exact hb ⟨h'.1, h'.2.1⟩
  rw [h, if_neg hc]
  rfl
theorem Qun : Zbg.f k ⟨C, V⟩ p = some (⟨(reo C V p).1, (reo C V p).2.1⟩, (reo C V p).2.2) := by
 unfold Zbg.f
 simp only [Zck false hC, Zck 0 hV]
 rw [ris_eq, Z0, Wbt (by omega)]
 unfold reo
 by_cases hb : 0 ≤ p ∧ p < 12
 ·rw [decide_eq_true hb.1, decide_eq_true hb.2, Bool.true_and, show (!true) = false by rfl, cond_false, Wbv hb.1 (by omega), Wen (by omega), cond_true, cond_true]
  cases h0 : C.getD p.toNat false with
  | false =>
   have hc : ¬ rOk C p = true := by unfold rOk; rw [h0]; simp
   rw [if_neg hc]
   rfl
  | true =>
   rw [show (!true) = false by rfl, cond_false]
   by_cases h1 : p + 1 < 12
   ·rw [ct h1, Wbv (by omega) (by omega), cond_true, Wen (by omega), cond_true, Z0]
    dsimp only
    cases h2 : C.getD (p + 1).toNat false with
    | false =>
     have hc : rOk C p = true := by unfold rOk; rw [h0, h2, decide_eq_true hb.1, decide_eq_true hb.2]; simp
     rw [if_pos hc, cond_false, Wbv hb.1 (by omega), Wen (by omega)]
     simp only [cond_true, Zck false hC, Zck 0 hV, Zff]
    | true =>
     have hc : ¬ rOk C p = true := by unfold rOk; rw [h2, decide_eq_true h1]; simp
     rw [if_neg hc]
     rfl
   ·rw [cf h1, Z0]
    have hc : rOk C p = true := by unfold rOk; rw [h0, decide_eq_true hb.1, decide_eq_true hb.2, decide_eq_false h1]; simp
    rw [if_pos hc]
    dsimp only
    rw [cond_false, Wbv hb.1 (by omega), Wen (by omega)]
    simp only [cond_true, Zck false hC, Zck 0 hV, Zff]
 ·have h : (decide (0 ≤ p) && decide (p < 12)) = false := by rw [Bool.eq_false_iff]; intro h; simp at h; exact hb h
  have hc : ¬ rOk C p = true := by
   intro h'
   unfold rOk at h'
   simp only [Bool.and_eq_true, decide_eq_true_eq] at h'
   exact hb ⟨h'.1, h'.2.1⟩
  rw [h, if_neg hc]
  rfl
end
end Go.Proofs.Ytbchcjlllddlpaa.Pe
namespace Go.Proofs.Ytbchcjlllddlpaa.Pure
set_option linter.unusedVariables false
set_option linter.unusedSimpArgs false
open Go Go.Ev Go.Lm Go.Pu Go.Dg
theorem bof {α β : Type} {o : Option α} {v : α} {f : α → Option β} {r : Option β} (h : o = some v) (h' : f v = r) : o.bind f = r := by rw [h]; exact h'
noncomputable def rof (b : Zf) : Zx := ⟨b.Zac, b.f_l, ⟨b.f_t.Zk, b.f_t.Zj⟩⟩
theorem pkR {C : List Bool} {V : List Int} (hC : C.length = 12) (hV : V.length = 12) : (⟨pack 12 false C, pack 12 0 V⟩ : Zh) = ⟨C, V⟩ := by
 rw [Zck false hC, Zck 0 hV]
theorem Rput_eq (k : Nat) {b : Zf} (h : T12 b.f_t) (hl : b.f_l.length ≤ 40) (x : Za) : Zbl.f k (rof b) x = some ((Whz b x).1, (Whz b x).2.1, rof (Whz b x).2.2) := by
 unfold Zbl.f rof
 simp only [pkR h.1 h.2]
 refine bof (v := opn b.f_t x.Zad) (Pe.Qus h.1 k x.Zad) ?_
 unfold Whz
 cases opn b.f_t x.Zad with
 | false => rfl
 | true =>
  rw [Bool.not_true, cond_false, if_pos rfl]
  by_cases h40 : b.f_l.length = 40
  ·rw [if_pos h40, ct (by omega)]
  ·rw [if_neg h40, cf (by omega), Zfb (by simp; omega), cond_true, Wbt (by simp; omega), List.length_append]
   dsimp only [List.length_cons, List.length_nil]
   rw [show ((b.f_l.length + (0 + 1) : Nat) : Int) - 1 = (b.f_l.length : Int) by omega]
theorem RKind_eq (k : Nat) (a : Int) : ∃ v, Zda.f k a = some v ∧ (v == 0) = !(decide (0 ≤ a) && decide (a < 16)) := by
 unfold Zda.f
 by_cases h : a < 0
 ·exact ⟨0, by rw [ct h]; rfl, by rw [decide_eq_false (show ¬ 0 ≤ a by omega)]; rfl⟩
 ·rw [cf h]
  by_cases h2 : a ≥ 16
  ·exact ⟨0, by rw [decide_eq_true h2]; rfl, by rw [decide_eq_false (show ¬ a < 16 by omega)]; simp⟩
  ·rw [decide_eq_false h2, decide_eq_true (show 0 ≤ a by omega), decide_eq_true (show a < 16 by omega), Z0]
   dsimp only
   rw [cond_false]
   by_cases h3 : a < 4
   ·exact ⟨1, ct h3, rfl⟩
   ·rw [cf h3]
    by_cases h4 : a < 7
    ·exact ⟨2, ct h4, rfl⟩
    ·rw [cf h4]
     by_cases h5 : a < 9
     ·exact ⟨3, ct h5, rfl⟩
     ·exact ⟨4, cf h5, rfl⟩
theorem Qur (k : Nat) (a : Int) : Zbw.f k a = some (isW a) := by
 unfold Zbw.f isW
 cases a == 3 <;> rfl
theorem Zec {α : Type} {l : List α} {i : Nat} (d : α) (h : i < l.length) : l.getD i d ∈ l := by
 rw [List.getD_eq_getElem?_getD, Z3 h]
 exact List.getElem_mem h
theorem line_step {k : Nat} (hk : 602 < k) {l : List Zd} (hl : l.length ≤ 1000) (hw : ∀ x ∈ l, LnW x) (s : Nat) {i : Nat} (hi : i < l.length) :
  Zo.l4.once k (l, (s : Int), (i : Int)) = cond (rlB s (l.getD i Zd.zero)) (some (.inl (l, (s : Int), ((i + 1 : Nat) : Int)))) (some (.inr (.inr 1))) := by
 have hx := hw _ (Zec Zd.zero hi)
 have hwr := Wbt (show -9223372036854775808 ≤ (i : Int) + 1 ∧ (i : Int) + 1 < 9223372036854775808 by omega)
 unfold Zo.l4.once
 dsimp only
 rw [ct (show (i : Int) < (l.length : Int) by omega), Wbv (by omega) (by omega), cond_true, Int.toNat_natCast]
 generalize l.getD i Zd.zero = x at hx ⊢
 refine bof (v := (l, (s : Int), (i : Int), !rlB s x)) ?_ ?_
 ·obtain ⟨a, d, w⟩ := x
  have hd : W2 d.f_C := hx
  unfold rlB
  dsimp only
  obtain ⟨v, v1, v2⟩ := RKind_eq k a
  refine bof v1 ?_
  rw [v2]
  cases hk0 : decide (0 ≤ a) && decide (a < 16) with
  | false => rfl
  | true =>
   rw [Bool.not_true, cond_false, Bool.true_and]
   refine bof ((Wnz hk hd).trans (Qkv (by omega) hd)) ?_
   cases hok : dOk d with
   | false => rfl
   | true =>
    rw [Bool.not_true, cond_false, Bool.true_and]
    have hs := (Wyi hk hd).trans (Qrv (by omega) hd)
    rw [hok, if_pos rfl] at hs
    by_cases h1 : d.Zu = (s : Int)
    ·rw [show (d.Zu != (s : Int)) = false by simp [h1], cond_false]
     refine bof hs ?_
     rw [Qdc, show (d.Zu == (s : Int)) = true by simp [h1], Bool.true_and]
     by_cases h0 : val d = 0
     ·rw [decide_eq_true h0]; rfl
     ·rw [decide_eq_false h0, cond_false, Bool.not_false, Bool.true_and]
      by_cases h2 : w < -1
      ·rw [ct h2, decide_eq_false (show ¬ 0 ≤ w by omega), show (w == -1) = false by rw [beq_eq_false_iff_ne]; omega]
       cases isW a <;> rfl
      ·rw [cf h2]
       by_cases h3 : w ≥ 8
       ·rw [ct h3, decide_eq_false (show ¬ w < 8 by omega), Bool.and_false, show (w == -1) = false by rw [beq_eq_false_iff_ne]; omega]
        cases isW a <;> rfl
       ·rw [cf h3]
        refine bof (Qur k a) ?_
        by_cases h4 : w = -1
        ·subst h4
         cases isW a <;> rfl
        ·rw [show (w == -1) = false by rw [beq_eq_false_iff_ne]; exact h4, decide_eq_true (show 0 ≤ w by omega), decide_eq_true (show w < 8 by omega)]
         cases isW a <;> rfl
    ·rw [show (d.Zu != (s : Int)) = true by simp [h1], cond_true, show (d.Zu == (s : Int)) = false by simp [h1]]
     simp
 ·dsimp only
  cases rlB s x with
  | true => rw [Bool.not_true, cond_false, hwr]; rfl
  | false => rfl
theorem Qti {k : Nat} (hk : 602 < k) {l : List Zd} (hl : l.length ≤ 1000) (hw : ∀ x ∈ l, LnW x) (s : Nat) : ∀ (n i : Nat), i ≤ l.length → l.length - i < n →
  iter (Zo.l4.once k) n (l, (s : Int), (i : Int)) = some (cond ((l.drop i).all (rlB s)) (.inl l) (.inr 1)) := by
 intro n
 induction n with
 | zero => intro i _ h; omega
 | succ n ih =>
  intro i hi hn
  by_cases hc : i < l.length
  ·have st := line_step hk hl hw s hc
   rw [Wgx Zd.zero hc, List.all_cons]
   cases hb : rlB s (l.getD i Zd.zero) with
   | true =>
    rw [hb, cond_true] at st
    rw [Zdd st, Bool.true_and]
    exact ih (i + 1) (by omega) (by omega)
   | false =>
    rw [hb, cond_false] at st
    rw [Zbq st]
    rfl
  ·rw [List.drop_eq_nil_of_le (by omega)]
   refine Zbq ?_
   unfold Zo.l4.once
   dsimp only
   rw [cf (show ¬ (i : Int) < (l.length : Int) by omega)]
   rfl
theorem sum_iter {k : Nat} (hk : 602 < k) {l : List Zd} (hl : l.length ≤ 1000) (hw : ∀ x ∈ l, LnW x) {s : Nat} (hr : ∀ x ∈ l, rlB s x = true) (hs : s ≤ 9) : ∀ (n i : Nat) (a : Int), i ≤ l.length → l.length - i < n → Sm a →
  iter (Zo.l11.once k) n (l, (i : Int), (DV a s).Wbe, (DV a s).f_C.1, (DV a s).f_C.2, (DV a s).Zu) = some (match Wpo a (l.drop i) with
   | some S => .inl ((DV S s).Wbe, (DV S s).f_C.1, (DV S s).f_C.2, (DV S s).Zu)
   | none => .inr 3) := by
 intro n
 induction n with
 | zero => intro i a _ h; omega
 | succ n ih =>
  intro i a hi hn ha
  by_cases hc : i < l.length
  ·have hm := Zec Zd.zero hc
   obtain ⟨e1, e2, e3, _⟩ := rl_DV (hw _ hm) (hr _ hm)
   have hwr := Wbt (show -9223372036854775808 ≤ (i : Int) + 1 ∧ (i : Int) + 1 < 9223372036854775808 by omega)
   rw [Wgx Zd.zero hc]
   unfold Wpo
   have hadd := RAdd_DV hk ha e2 hs hs
   rw [Nat.max_self, Nat.sub_self, Int.pow_zero, Int.mul_one, Int.mul_one] at hadd
   rw [← e1] at hadd
   have st : Zo.l11.once k (l, (i : Int), (DV a s).Wbe, (DV a s).f_C.1, (DV a s).f_C.2, (DV a s).Zu) = (if (a + val (l.getD i Zd.zero).Zq).natAbs < 1000000000000000000000000000000 then some (.inl (l, ((i + 1 : Nat) : Int), (DV (a + val (l.getD i Zd.zero).Zq) s).Wbe, (DV (a + val (l.getD i Zd.zero).Zq) s).f_C.1, (DV (a + val (l.getD i Zd.zero).Zq) s).f_C.2, (DV (a + val (l.getD i Zd.zero).Zq) s).Zu)) else some (.inr (.inr 3))) := by
    unfold Zo.l11.once
    dsimp only
    rw [ct (show (i : Int) < (l.length : Int) by omega), Wbv (by omega) (by omega), cond_true, Int.toNat_natCast]
    refine bof hadd ?_
    unfold mkD
    split
    ·dsimp only
     rw [show ((0 : Int) != 0) = false from rfl, cond_false, hwr]
     rfl
    ·rfl
   by_cases hb : (a + val (l.getD i Zd.zero).Zq).natAbs < 1000000000000000000000000000000
   ·rw [if_pos hb] at st ⊢
    rw [Zdd st]
    exact ih (i + 1) _ (by omega) (by omega) hb
   ·rw [if_neg hb] at st ⊢
    rw [Zbq st]
  ·rw [List.drop_eq_nil_of_le (by omega)]
   refine Zbq ?_
   unfold Zo.l11.once Wpo
   dsimp only
   rw [cf (show ¬ (i : Int) < (l.length : Int) by omega)]
theorem Qul {k : Nat} (hk : 1002 < k) {l : List Zd} (hl : l.length ≤ 1000) (hw : ∀ x ∈ l, LnW x) {s : Nat} (hs : s ≤ 9) : Zo.f k l (s : Int) = some (Wfb s l) := by
 unfold Zo.f Wfb
 refine bof (v := (l, (s : Int), decide (l.length = 0 ∨ 8 < l.length))) ?_ ?_
 ·by_cases h : (l.length : Int) < 1
  ·rw [ct h, decide_eq_true (.inl (by omega))]
  ·rw [cf h]
   refine congrArg some ?_
   rw [show decide ((l.length : Int) > 8) = decide (l.length = 0 ∨ 8 < l.length) from decide_eq_decide.2 ⟨fun h' => .inr (by omega), fun h' => by omega⟩]
 dsimp only
 by_cases h0 : l.length = 0 ∨ 8 < l.length
 ·rw [decide_eq_true h0, cond_true, if_pos h0]
 ·rw [decide_eq_false h0, cond_false, if_neg h0]
  refine bof (Qti (k := k) (by omega) hl hw s k 0 (Nat.zero_le _) (by omega)) ?_
  rw [List.drop_zero]
  cases ha : l.all (rlB s) with
  | false => rfl
  | true =>
   have hr : ∀ x ∈ l, rlB s x = true := List.all_eq_true.1 ha
   have h1 : 0 < l.length := by omega
   have hm := Zec Zd.zero h1
   obtain ⟨e1, e2, e3, _⟩ := rl_DV (hw _ hm) (hr _ hm)
   rw [cond_true, if_pos rfl]
   dsimp only
   rw [Wbv (by omega) (by omega), cond_true]
   have si := sum_iter (k := k) (by omega) hl hw hr hs k 1 (val (l.getD 0 Zd.zero).Zq) (by omega) (by omega) e2
   rw [← e1] at si
   have hrun : Wpo 0 l = Wpo (val (l.getD 0 Zd.zero).Zq) (l.drop 1) := by
    have hd := Wgx Zd.zero h1
    rw [List.drop_zero] at hd
    refine (congrArg (Wpo 0) hd).trans ?_
    show (if ((0 : Int) + val (l.getD 0 Zd.zero).Zq).natAbs < 1000000000000000000000000000000 then Wpo (0 + val (l.getD 0 Zd.zero).Zq) (l.drop 1) else none) = _
    rw [Int.zero_add, if_pos (show (val (l.getD 0 Zd.zero).Zq).natAbs < 1000000000000000000000000000000 from e2)]
   refine bof si ?_
   rw [← hrun]
   cases hq : Wpo 0 l with
   | none => rfl
   | some S =>
    have hS := runS_Sm l 0 S (by unfold Sm; decide) hq
    dsimp only
    refine bof (v := sgn S) ((Wyi (d := DV S s) (by omega) (Wjw hS)).trans (Wls (by omega) hS hs)) ?_
    by_cases hz : S = 0
    ·subst hz; rfl
    ·rw [if_neg hz, show (sgn S != 0) = true by
      have := Qdc S
      rw [decide_eq_false hz] at this
      rw [bne, this]; rfl]
     rfl
theorem Quk {k : Nat} (hk : 602 < k) {l : List Zd} (hl : l.length ≤ 1000 ∧ l.length < k) {s : Nat} (hs : s ≤ 9) (hr : ∀ x ∈ l, x.Zq = DV (val x.Zq) s ∧ Sm (val x.Zq)) : Zao.f k l = some (l.map (turn s)) := by
 unfold Zao.f
 have h := Wnc (once := Zao.l3.once k) (fun i => (l, (l.take i).map (turn s), (i : Int))) l.length (by
  intro i hi
  have hm := Zec Zd.zero hi
  obtain ⟨e1, e2⟩ := hr _ hm
  have hwr := Wbt (show -9223372036854775808 ≤ (i : Int) + 1 ∧ (i : Int) + 1 < 9223372036854775808 by omega)
  have hn := Qns (k := k) hk e2 hs
  rw [← e1] at hn
  unfold Zao.l3.once
  dsimp only
  rw [ct (show (i : Int) < (l.length : Int) by omega), Wbv (by omega) (by omega), cond_true, Int.toNat_natCast]
  refine bof hn ?_
  rw [Zfb (by simp; omega), cond_true, hwr]
  rw [List.take_add_one, List.map_append, Z3 hi]
  rw [List.getD_eq_getElem?_getD, Z3 hi]
  rfl) (l.map (turn s)) (by
  unfold Zao.l3.once
  dsimp only
  rw [cf (by omega), List.take_length]) k 0 (Nat.zero_le _) (by omega)
 refine bof (v := l.map (turn s)) ?_ rfl
 exact h
theorem RPost_eq {k : Nat} (hk : 1002 < k) {b : Zf} (h : T12 b.f_t) (hl : b.f_l.length ≤ 40) {s : Nat} (hs : s ≤ 9) (hb : b.Zac = (s : Int)) (p : Int) {l : List Zd} (hn : l.length ≤ 1000) (hw : ∀ x ∈ l, LnW x) :
  Zch.f k (rof b) p l = some ((Wkp s b p l).1, (Wkp s b p l).2.1, rof (Wkp s b p l).2.2) := by
 unfold Zch.f Wkp
 have e := pkR h.1 h.2
 have hR : Zo.f k l (rof b).Zu = some (Wfb s l) := by
  show Zo.f k l b.Zac = _
  rw [hb]; exact Qul hk hn hw hs
 refine bof hR ?_
 by_cases h0 : Wfb s l = 0
 ·rw [if_pos h0, show (Wfb s l != 0) = false by rw [h0]; rfl, cond_false]
  refine bof (v := l) ?_ ?_
  ·unfold Zdp.f
   rw [Zfb (by simp; omega), cond_true, List.nil_append]
  ·have hT := Qnn h ⟨p, l, -1⟩
   have hp : Zbl.f k ⟨(rof b).Zu, (rof b).f_L, ⟨pack 12 false (rof b).f_T.Zk, pack 12 0 (rof b).f_T.Zj⟩⟩ ⟨p, l, -1⟩ = some ((Whz b ⟨p, l, -1⟩).1, (Whz b ⟨p, l, -1⟩).2.1, rof (Whz b ⟨p, l, -1⟩).2.2) := by
    show Zbl.f k ⟨b.Zac, b.f_l, ⟨pack 12 false b.f_t.Zk, pack 12 0 b.f_t.Zj⟩⟩ ⟨p, l, -1⟩ = _
    rw [e]; exact Rput_eq k h hl _
   refine bof hp ?_
   dsimp only
   show some (_, _, (⟨_, _, ⟨pack 12 false (Whz b ⟨p, l, -1⟩).2.2.f_t.Zk, pack 12 0 (Whz b ⟨p, l, -1⟩).2.2.f_t.Zj⟩⟩ : Zx)) = _
   rw [pkR hT.1 hT.2]
   rfl
 ·rw [if_neg h0, show (Wfb s l != 0) = true by rw [bne_iff_ne]; exact h0, cond_true]
  show some (_, _, (⟨_, _, ⟨pack 12 false b.f_t.Zk, pack 12 0 b.f_t.Zj⟩⟩ : Zx)) = _
  rw [e]
  rfl
end Go.Proofs.Ytbchcjlllddlpaa.Pure
namespace Go.Proofs.Ytbchcjlllddlpaa.Pure
set_option linter.unusedVariables false
set_option linter.unusedSimpArgs false
open Go Go.Ev Go.Lm Go.Pu Go.Dg
theorem RRev_eq {k : Nat} (hk : 1002 < k) {b : Zf} (h : T12 b.f_t) (hl : b.f_l.length ≤ 40) {s : Nat} (hs : s ≤ 9) (n p : Int) (he : ∀ x ∈ b.f_l, LsOk s x.Zay) :
  Zy.f k (rof b) n p = some ((Won s b n p).1, (Won s b n p).2.1, rof (Won s b n p).2.2) := by
 have e := pkR h.1 h.2
 unfold Zy.f rof Won
 simp only [e]
 refine bof (v := (n, p, decide (n < 0 ∨ n ≥ b.f_l.length), b.Zac, b.f_l, ⟨b.f_t.Zk, b.f_t.Zj⟩)) ?_ ?_
 ·by_cases h0 : n < 0
  ·rw [ct h0, decide_eq_true (.inl h0)]
  ·rw [cf h0]
   refine congrArg some ?_
   rw [show decide (n ≥ (b.f_l.length : Int)) = decide (n < 0 ∨ n ≥ b.f_l.length) from decide_eq_decide.2 ⟨fun h' => .inr h', fun h' => by omega⟩]
 dsimp only
 simp only [e]
 by_cases h0 : n < 0 ∨ n ≥ b.f_l.length
 ·rw [ct h0, if_pos h0]
 ·rw [cf h0, if_neg h0, Wbv (by omega) (by omega), cond_true]
  have hn : n.toNat < b.f_l.length := by omega
  have hm := Zec Za.zero hn
  have it := Wnc (once := Zy.l5.once k) (fun i => (n, p, decide ((b.f_l.getD n.toNat Za.zero).Wbm ≥ 0) || (b.f_l.take i).any (fun x => x.Wbm == n), (i : Int), b.Zac, b.f_l, (⟨b.f_t.Zk, b.f_t.Zj⟩ : Zh))) b.f_l.length (by
   intro i hi
   have hwr := Wbt (show -9223372036854775808 ≤ (i : Int) + 1 ∧ (i : Int) + 1 < 9223372036854775808 by omega)
   unfold Zy.l5.once
   dsimp only
   simp only [e]
   rw [ct (show (i : Int) < (b.f_l.length : Int) by omega)]
   have htk : (b.f_l.take (i + 1)).any (fun x => x.Wbm == n) = ((b.f_l.take i).any (fun x => x.Wbm == n) || ((b.f_l.getD i Za.zero).Wbm == n)) := by
    rw [List.take_add_one, List.any_append, Z3 hi, List.getD_eq_getElem?_getD, Z3 hi]
    simp
   refine bof (v := (n, p, decide ((b.f_l.getD n.toNat Za.zero).Wbm ≥ 0) || (b.f_l.take (i + 1)).any (fun x => x.Wbm == n), (i : Int), b.Zac, b.f_l, (⟨b.f_t.Zk, b.f_t.Zj⟩ : Zh))) ?_ ?_
   ·rw [htk, ← Bool.or_assoc]
    cases decide ((b.f_l.getD n.toNat Za.zero).Wbm ≥ 0) || (b.f_l.take i).any (fun x => x.Wbm == n) with
    | true => rfl
    | false =>
     rw [cond_false, Wbv (by omega) (by omega), cond_true, Int.toNat_natCast]
     rfl
   ·dsimp only
    simp only [e]
    rw [hwr]
    rfl) (n, p, decide ((b.f_l.getD n.toNat Za.zero).Wbm ≥ 0) || Wnh b.f_l n, b.Zac, b.f_l, (⟨b.f_t.Zk, b.f_t.Zj⟩ : Zh)) (by
   unfold Zy.l5.once
   dsimp only
   simp only [e]
   rw [cf (by omega), List.take_length]
   rfl) k 0 (Nat.zero_le _) (by omega)
  rw [List.take_zero, List.any_nil, Bool.or_false] at it
  refine bof it ?_
  dsimp only
  simp only [e]
  by_cases h1 : (b.f_l.getD n.toNat Za.zero).Wbm ≥ 0 ∨ Wnh b.f_l n = true
  ·rw [if_pos h1, show (decide ((b.f_l.getD n.toNat Za.zero).Wbm ≥ 0) || Wnh b.f_l n) = true by simpa using h1]
   rfl
  ·rw [if_neg h1, show (decide ((b.f_l.getD n.toNat Za.zero).Wbm ≥ 0) || Wnh b.f_l n) = false by
    rw [Bool.eq_false_iff]; intro hh; exact h1 (by simpa using hh)]
   rw [cond_false, Wbv (by omega) (by omega), cond_true]
   have hls := he _ hm
   refine bof (Quk (k := k) (by omega) ⟨by have := hls.1; omega, by have := hls.1; omega⟩ hs hls.2) ?_
   refine bof (Rput_eq k h hl _) ?_
   have hT := Qnn h ⟨p, (b.f_l.getD n.toNat Za.zero).Zay.map (turn s), n⟩
   show some (_, _, (⟨_, _, ⟨pack 12 false (Whz b ⟨p, (b.f_l.getD n.toNat Za.zero).Zay.map (turn s), n⟩).2.2.f_t.Zk, pack 12 0 (Whz b ⟨p, (b.f_l.getD n.toNat Za.zero).Zay.map (turn s), n⟩).2.2.f_t.Zj⟩⟩ : Zx)) = _
   rw [pkR hT.1 hT.2]
   rfl
noncomputable def Wec (b : Zf) (c : List Bool × List Int × Int) : Int × Zf := (c.2.2, cond (c.2.2 == 0) ⟨b.Zac, b.f_l, ⟨c.1, c.2.1⟩⟩ b)
theorem Qlb {b : Zf} (h : T12 b.f_t) {c : List Bool × List Int × Int} (hc : c.1.length = 12 ∧ c.2.1.length = 12) : T12 (Wec b c).2.f_t := by
 unfold Wec
 dsimp only
 cases c.2.2 == 0 with
 | true => exact hc
 | false => exact h
theorem Bclose2 (k : Nat) {b : Zf} (h : T12 b.f_t) {p : Int} (hp : -1000 ≤ p ∧ p ≤ 1000) : Zco.f k b p = some (Wec b (Pe.clo b.f_t.Zk b.f_t.Zj p)) := by
 have hl := Pe.Qni h.1 h.2 p
 have hT := Qlb h hl
 have ht : Zt.f k b () p = some (Wec b (Pe.clo b.f_t.Zk b.f_t.Zj p)) := by
  unfold Zt.f
  rw [pk h]
  refine bof (Pe.Close_eq h.1 h.2 k hp) ?_
  dsimp only
  rw [Zck false hl.1, Zck 0 hl.2]
  unfold Wec
  cases (Pe.clo b.f_t.Zk b.f_t.Zj p).2.2 == 0 <;> rfl
 unfold Zco.f
 rw [pkB h]
 refine bof ht ?_
 rw [pkB hT]
theorem Breopen2 (k : Nat) {b : Zf} (h : T12 b.f_t) {p : Int} (hp : -1000 ≤ p ∧ p ≤ 1000) : Zci.f k b p = some (Wec b (Pe.reo b.f_t.Zk b.f_t.Zj p)) := by
 have hl := Pe.Qlr h.1 h.2 p
 have hT := Qlb h hl
 have ht : Zs.f k b () p = some (Wec b (Pe.reo b.f_t.Zk b.f_t.Zj p)) := by
  unfold Zs.f
  rw [pk h]
  refine bof (Pe.Reopen_eq h.1 h.2 k hp) ?_
  dsimp only
  rw [Zck false hl.1, Zck 0 hl.2]
  unfold Wec
  cases (Pe.reo b.f_t.Zk b.f_t.Zj p).2.2 == 0 <;> rfl
 unfold Zci.f
 rw [pkB h]
 refine bof ht ?_
 rw [pkB hT]
theorem RBclose (k : Nat) {b : Zf} (h : T12 b.f_t) {p : Int} (hp : -1000 ≤ p ∧ p ≤ 1000) : Zbx.f k (rof b) p = some ((Wec b (Pe.clo b.f_t.Zk b.f_t.Zj p)).1, rof (Wec b (Pe.clo b.f_t.Zk b.f_t.Zj p)).2) := by
 have hl := Pe.Qni h.1 h.2 p
 unfold Zbx.f rof
 simp only [pkR h.1 h.2]
 refine bof (Pe.RClose_eq h.1 h.2 k hp) ?_
 dsimp only
 rw [Zck false hl.1, Zck 0 hl.2]
 unfold Wec
 cases (Pe.clo b.f_t.Zk b.f_t.Zj p).2.2 == 0 <;> rfl
theorem RBreopen (k : Nat) {b : Zf} (h : T12 b.f_t) {p : Int} (hp : -1000 ≤ p ∧ p ≤ 1000) : Zbs.f k (rof b) p = some ((Wec b (Pe.reo b.f_t.Zk b.f_t.Zj p)).1, rof (Wec b (Pe.reo b.f_t.Zk b.f_t.Zj p)).2) := by
 have hl := Pe.Qlr h.1 h.2 p
 unfold Zbs.f rof
 simp only [pkR h.1 h.2]
 refine bof (Pe.Qun h.1 h.2 k hp) ?_
 dsimp only
 rw [Zck false hl.1, Zck 0 hl.2]
 unfold Wec
 cases (Pe.reo b.f_t.Zk b.f_t.Zj p).2.2 == 0 <;> rfl
structure Wla (s : Nat) (b : Zf) : Prop where
 T : T12 b.f_t
 len : b.f_l.length ≤ 40
 sc : b.Zac = (s : Int)
 ls : ∀ x ∈ b.f_l, LsOk s x.Zay
theorem Wla.add {s : Nat} {b : Zf} (h : Wla s b) {x : Za} (hx : LsOk s x.Zay) : Wla s (Whz b x).2.2 := by
 unfold Whz
 split
 ·split
  ·exact h
  ·rename_i h40
   have := h.len
   refine ⟨h.T, by simp; omega, h.sc, fun y hy => ?_⟩
   rcases List.mem_append.1 hy with hy | hy
   ·exact h.ls y hy
   ·have : y = x := by simpa using hy
    rw [this]; exact hx
 ·exact h
theorem Quw {s : Nat} {l : List Zd} (hw : ∀ x ∈ l, LnW x) (h : Wfb s l = 0) : LsOk s l := by
 unfold Wfb at h
 split at h
 ·cases h
 ·rename_i h0
  split at h
  ·rename_i ha
   refine ⟨by omega, fun x hx => ?_⟩
   obtain ⟨e1, e2, _, _⟩ := rl_DV (hw x hx) (List.all_eq_true.1 ha x hx)
   exact ⟨e1, e2⟩
  ·cases h
theorem Wla.post {s : Nat} {b : Zf} (h : Wla s b) (p : Int) {l : List Zd} (hw : ∀ x ∈ l, LnW x) : Wla s (Wkp s b p l).2.2 := by
 unfold Wkp
 split
 ·rename_i h0
  exact h.add (Quw hw h0)
 ·exact h
theorem Qsb {s : Nat} {l : List Zd} (h : LsOk s l) : LsOk s (l.map (turn s)) := by
 refine ⟨by rw [List.length_map]; exact h.1, fun x hx => ?_⟩
 obtain ⟨y, hy, rfl⟩ := List.mem_map.1 hx
 obtain ⟨_, h2⟩ := h.2 y hy
 have : val (turn s y).Zq = -(val y.Zq) := by unfold turn; rw [Wgh]
 rw [this]
 exact ⟨rfl, by unfold Sm at *; omega⟩
theorem Wla.rev {s : Nat} {b : Zf} (h : Wla s b) (n p : Int) : Wla s (Won s b n p).2.2 := by
 unfold Won
 split
 ·exact h
 ·rename_i h0
  split
  ·exact h
  ·exact h.add (Qsb (h.ls _ (Zec Za.zero (by omega))))
theorem Wla.turn {s : Nat} {b : Zf} (h : Wla s b) {c : List Bool × List Int × Int} (hc : c.1.length = 12 ∧ c.2.1.length = 12) : Wla s (Wec b c).2 := by
 refine ⟨Qlb h.T hc, ?_, ?_, ?_⟩ <;> unfold Wec <;> dsimp only <;> cases c.2.2 == 0
 ·exact h.len
 ·exact h.len
 ·exact h.sc
 ·exact h.sc
 ·exact h.ls
 ·exact h.ls
end Go.Proofs.Ytbchcjlllddlpaa.Pure
namespace Go.Proofs.Ytbchcjlllddlpaa.Pure
set_option linter.unusedVariables false
set_option linter.unusedSimpArgs false
open Go Go.Ev Go.Lm Go.Pu Go.Dg
noncomputable def Wkc (k : Nat) (s : Nat) (L : List Int) : List Zd := (Zv.f k L (s : Int) 0 4).getD []
theorem Wuk {k : Nat} (hk : 1002 < k) {s : Nat} (hs : s ≤ 4) {L : List Int} (hL : L.length ≤ 9223372036854775807) :
  Zv.f k L (s : Int) 0 4 = some (Wkc k s L) ∧ (Wkc k s L).length ≤ 1000 ∧ ∀ x ∈ Wkc k s L, LnW x := by
 obtain ⟨y, hy, y1, y2⟩ := HLines_ok (k := k) (by omega) L hL (by omega : s ≤ 9) (b := 0) (by decide) (e := 4) (by decide)
 have : Wkc k s L = y := by unfold Wkc; rw [hy]; rfl
 rw [this]
 exact ⟨hy, by omega, y2⟩
noncomputable def Wdv (k : Nat) (s : Nat) (b : Zf) (x : Zp) : Zf :=
 cond (pick x.Zdr 8 == 0) (Wec b (Pe.clo b.f_t.Zk b.f_t.Zj (pick x.f_B 3))).2
  (cond (pick x.Zdr 8 == 1) (Won s b (pick x.f_N 5) (pick x.f_B 3)).2.2
   (cond (pick x.Zdr 8 == 2) (Wec b (Pe.reo b.f_t.Zk b.f_t.Zj (pick x.f_B 3))).2 (Wkp s b (pick x.f_B 3) (Wkc k s x.f_L)).2.2))
def Qcx (z : Zp) : Prop := z.f_L.length ≤ 9223372036854775807
theorem Wla.step {k : Nat} (hk : 1002 < k) {s : Nat} (hs : s ≤ 4) {b : Zf} (h : Wla s b) {x : Zp} (hx : Qcx x) : Wla s (Wdv k s b x) := by
 unfold Wdv
 cases pick x.Zdr 8 == 0 with
 | true => exact h.turn (Pe.Qni h.T.1 h.T.2 _)
 | false =>
  rw [cond_false]
  cases pick x.Zdr 8 == 1 with
  | true => exact h.rev _ _
  | false =>
   rw [cond_false]
   cases pick x.Zdr 8 == 2 with
   | true => exact h.turn (Pe.Qlr h.T.1 h.T.2 _)
   | false => exact h.post _ (Wuk hk hs hx).2.2
theorem Wrw {l : List Zp} {i : Nat} (hi : i < l.length) : l.getD i Zp.zero ∈ l := by
 rw [List.getD_eq_getElem?_getD, Z3 hi]
 exact List.getElem_mem hi
theorem bk_step {k : Nat} (hk : 1002 < k) {l : List Zp} (hw : ∀ z ∈ l, Qcx z) {s : Nat} (hs : s ≤ 4) {i : Nat} (hi : i < l.length) (h14 : i < 14) {b : Zf} (h : Wla s b) (r : Zx) (hr : r.f_T.Zk.length = 12 ∧ r.f_T.Zj.length = 12) (hrs : r.Zu = (s : Int)) :
  Zal.l6.once k (l, (i : Int), b.Zac, b.f_l, b.f_t, r.Zu, r.f_L, r.f_T) = some (.inl (l, ((i + 1 : Nat) : Int), (Wdv k s b (l.getD i Zp.zero)).Zac, (Wdv k s b (l.getD i Zp.zero)).f_l, (Wdv k s b (l.getD i Zp.zero)).f_t, r.Zu, r.f_L, r.f_T)) := by
 have e1 := pk h.T
 have e2 : (⟨pack 12 false r.f_T.Zk, pack 12 0 r.f_T.Zj⟩ : Zh) = r.f_T := pkR hr.1 hr.2
 have hx : Qcx (l.getD i Zp.zero) := hw _ (Wrw hi)
 have hI := h.step hk hs hx
 have e3 := pk hI.T
 have hwr := Wbt (show -9223372036854775808 ≤ (i : Int) + 1 ∧ (i : Int) + 1 < 9223372036854775808 by omega)
 unfold Zal.l6.once
 dsimp only
 simp only [e1, e2]
 rw [ct (show (i : Int) < (l.length : Int) by omega), Z0]
 dsimp only
 rw [ct (show (i : Int) < 14 by omega), Wbv (by omega) (by omega), cond_true, Int.toNat_natCast]
 generalize l.getD i Zp.zero = x at hx hI e3 ⊢
 refine bof (v := (l, (i : Int), (Wdv k s b x).Zac, (Wdv k s b x).f_l, (Wdv k s b x).f_t, r.Zu, r.f_L, r.f_T)) ?_ ?_
 ·refine bof (Zdu k x.Zdr (by decide) (by decide)) ?_
  have bp := Zfe x.f_B (m := 3) (by decide)
  have bn := Zfe x.f_N (m := 5) (by decide)
  have pB := Zdu k x.f_B (m := 3) (by decide) (by decide)
  have pN := Zdu k x.f_N (m := 5) (by decide) (by decide)
  unfold Wdv at hI e3 ⊢
  cases h0 : pick x.Zdr 8 == 0 with
  | true =>
   rw [h0] at hI e3
   simp only [cond_true] at hI e3 ⊢
   refine bof pB (bof (Bclose2 k h.T (by omega)) ?_)
   simp only [e2, e3]
  | false =>
   rw [h0] at hI e3
   simp only [cond_false] at hI e3 ⊢
   cases h1 : pick x.Zdr 8 == 1 with
   | true =>
    rw [h1] at hI e3
    simp only [cond_true] at hI e3 ⊢
    refine bof pN (bof pB (bof (Brev_eq (k := k) (by omega) h.T h.len (by omega : s ≤ 9) _ _ h.ls) ?_))
    simp only [e2, e3]
   | false =>
    rw [h1] at hI e3
    simp only [cond_false] at hI e3 ⊢
    cases h2 : pick x.Zdr 8 == 2 with
    | true =>
     rw [h2] at hI e3
     simp only [cond_true] at hI e3 ⊢
     refine bof pB (bof (Breopen2 k h.T (by omega)) ?_)
     simp only [e2, e3]
    | false =>
     rw [h2] at hI e3
     simp only [cond_false] at hI e3 ⊢
     obtain ⟨y0, y1, y2⟩ := Wuk hk hs hx
     refine bof pB (bof ((congrArg (fun z => Zv.f k x.f_L z 0 4) hrs).trans y0) (bof (Bpost_eq (k := k) (by omega) h.T h.len (by omega : s ≤ 9) h.sc _ y1 y2) ?_))
     simp only [e2, e3]
 ·dsimp only
  simp only [e2, e3, hwr]
  rfl
theorem rk_step {k : Nat} (hk : 1002 < k) {l : List Zp} (hw : ∀ z ∈ l, Qcx z) {s : Nat} (hs : s ≤ 4) {i : Nat} (hi : i < l.length) (h14 : i < 14) {b : Zf} (h : Wla s b) :
  Zau.l3.once k (l, (i : Int), (rof b).Zu, (rof b).f_L, (rof b).f_T) = some (.inl (l, ((i + 1 : Nat) : Int), (rof (Wdv k s b (l.getD i Zp.zero))).Zu, (rof (Wdv k s b (l.getD i Zp.zero))).f_L, (rof (Wdv k s b (l.getD i Zp.zero))).f_T)) := by
 have e1 : (⟨pack 12 false (rof b).f_T.Zk, pack 12 0 (rof b).f_T.Zj⟩ : Zh) = (rof b).f_T := pkR h.T.1 h.T.2
 have hx : Qcx (l.getD i Zp.zero) := hw _ (Wrw hi)
 have hI := h.step hk hs hx
 have e3 : (⟨pack 12 false (rof (Wdv k s b (l.getD i Zp.zero))).f_T.Zk, pack 12 0 (rof (Wdv k s b (l.getD i Zp.zero))).f_T.Zj⟩ : Zh) = (rof (Wdv k s b (l.getD i Zp.zero))).f_T := pkR hI.T.1 hI.T.2
 have hwr := Wbt (show -9223372036854775808 ≤ (i : Int) + 1 ∧ (i : Int) + 1 < 9223372036854775808 by omega)
 unfold Zau.l3.once
 dsimp only
 simp only [e1]
 rw [ct (show (i : Int) < (l.length : Int) by omega), Z0]
 dsimp only
 rw [ct (show (i : Int) < 14 by omega), Wbv (by omega) (by omega), cond_true, Int.toNat_natCast]
 generalize l.getD i Zp.zero = x at hx hI e3 ⊢
 refine bof (v := (l, (i : Int), (rof (Wdv k s b x)).Zu, (rof (Wdv k s b x)).f_L, (rof (Wdv k s b x)).f_T)) ?_ ?_
 ·refine bof (Zdu k x.Zdr (by decide) (by decide)) ?_
  have bp := Zfe x.f_B (m := 3) (by decide)
  have bn := Zfe x.f_N (m := 5) (by decide)
  have pB := Zdu k x.f_B (m := 3) (by decide) (by decide)
  have pN := Zdu k x.f_N (m := 5) (by decide) (by decide)
  unfold Wdv at hI e3 ⊢
  cases h0 : pick x.Zdr 8 == 0 with
  | true =>
   rw [h0] at hI e3
   simp only [cond_true] at hI e3 ⊢
   refine bof pB (bof (RBclose k h.T (by omega)) ?_)
   simp only [e3]
  | false =>
   rw [h0] at hI e3
   simp only [cond_false] at hI e3 ⊢
   cases h1 : pick x.Zdr 8 == 1 with
   | true =>
    rw [h1] at hI e3
    simp only [cond_true] at hI e3 ⊢
    refine bof pN (bof pB (bof (RRev_eq hk h.T h.len (by omega : s ≤ 9) _ _ h.ls) ?_))
    simp only [e3]
   | false =>
    rw [h1] at hI e3
    simp only [cond_false] at hI e3 ⊢
    cases h2 : pick x.Zdr 8 == 2 with
    | true =>
     rw [h2] at hI e3
     simp only [cond_true] at hI e3 ⊢
     refine bof pB (bof (RBreopen k h.T (by omega)) ?_)
     simp only [e3]
    | false =>
     rw [h2] at hI e3
     simp only [cond_false] at hI e3 ⊢
     obtain ⟨y0, y1, y2⟩ := Wuk hk hs hx
     refine bof pB (bof ((congrArg (fun z => Zv.f k x.f_L z 0 4) h.sc).trans y0) (bof (RPost_eq hk h.T h.len (by omega : s ≤ 9) h.sc _ y1 y2) ?_))
     simp only [e3]
 ·dsimp only
  simp only [e3, hwr]
  rfl
def b0 (s : Nat) : Zf := ⟨(s : Int), [], ⟨[false, false, false, false, false, false, false, false, false, false, false, false], [0, 0, 0, 0, 0, 0, 0, 0, 0, 0, 0, 0]⟩⟩
theorem b0_inv (s : Nat) : Wla s (b0 s) := ⟨⟨rfl, rfl⟩, Nat.zero_le _, rfl, fun x hx => (List.not_mem_nil hx).elim⟩
noncomputable def bkR (k s : Nat) (l : List Zp) : Nat → Zf
 | 0 => b0 s
 | i + 1 => Wdv k s (bkR k s l i) (l.getD i Zp.zero)
theorem Qdp {k : Nat} (hk : 1002 < k) {s : Nat} (hs : s ≤ 4) {l : List Zp} (hw : ∀ z ∈ l, Qcx z) : ∀ i, i ≤ l.length → Wla s (bkR k s l i)
 | 0, _ => b0_inv s
 | i + 1, hi => (Qdp hk hs hw i (by omega)).step hk hs (hw _ (Wrw (by omega)))
noncomputable def bkN (k s : Nat) (l : List Zp) : Zf := bkR k s l (min l.length 14)
theorem bkN_inv {k : Nat} (hk : 1002 < k) {s : Nat} (hs : s ≤ 4) {l : List Zp} (hw : ∀ z ∈ l, Qcx z) : Wla s (bkN k s l) := Qdp hk hs hw _ (Nat.min_le_left _ _)
theorem HBook_eq {k : Nat} (hk : 1002 < k) {s : Nat} (hs : s ≤ 4) {l : List Zp} (hw : ∀ z ∈ l, Qcx z) : Zau.f k l (s : Int) = some (rof (bkN k s l)) := by
 unfold Zau.f
 refine bof (v := rof (b0 s)) ?_ ?_
 ·unfold Zcz.f Zcg.f
  rw [Z0]
  have : (if (if (s : Int) < 4 then (s : Int) else 4) > 0 then (if (s : Int) < 4 then (s : Int) else 4) else 0) = (s : Int) := by
   split <;> split <;> omega
  rw [this]
  rfl
 ·have hI := fun i (h : i ≤ l.length) => Qdp hk hs hw i h
  have hN := hI (min l.length 14) (Nat.min_le_left _ _)
  have it := Wnc (once := Zau.l3.once k) (fun i => (l, (i : Int), (rof (bkR k s l i)).Zu, (rof (bkR k s l i)).f_L, (rof (bkR k s l i)).f_T)) (min l.length 14)
   (fun i hi => rk_step hk hw hs (by omega) (by omega) (hI i (by omega))) ((rof (bkN k s l)).Zu, (rof (bkN k s l)).f_L, (rof (bkN k s l)).f_T) (by
    have e1 : (⟨pack 12 false (rof (bkR k s l (min l.length 14))).f_T.Zk, pack 12 0 (rof (bkR k s l (min l.length 14))).f_T.Zj⟩ : Zh) = (rof (bkR k s l (min l.length 14))).f_T := pkR hN.T.1 hN.T.2
    unfold Zau.l3.once
    dsimp only
    simp only [e1]
    by_cases h : ((min l.length 14 : Nat) : Int) < (l.length : Int)
    ·rw [ct h, Z0]
     dsimp only
     rw [cf (show ¬ ((min l.length 14 : Nat) : Int) < 14 by omega)]
     simp only [e1]
     rfl
    ·rw [cf h, Z0]
     dsimp only
     rw [cond_false]
     simp only [e1]
     rfl) k 0 (Nat.zero_le _) (by omega)
  refine bof it ?_
  have e2 : (⟨pack 12 false (rof (bkN k s l)).f_T.Zk, pack 12 0 (rof (bkN k s l)).f_T.Zj⟩ : Zh) = (rof (bkN k s l)).f_T := pkR hN.T.1 hN.T.2
  dsimp only
  rw [e2]
theorem books_eq {k : Nat} (hk : 1002 < k) {s : Nat} (hs : s ≤ 4) {l : List Zp} (hw : ∀ z ∈ l, Qcx z) : Zal.f k l (s : Int) = some (bkN k s l, rof (bkN k s l)) := by
 have hI := fun i (h : i ≤ l.length) => Qdp hk hs hw i h
 have hN := hI (min l.length 14) (Nat.min_le_left _ _)
 have e2 : (⟨pack 12 false (rof (bkN k s l)).f_T.Zk, pack 12 0 (rof (bkN k s l)).f_T.Zj⟩ : Zh) = (rof (bkN k s l)).f_T := pkR hN.T.1 hN.T.2
 have e3 : (⟨pack 12 false (bkN k s l).f_t.Zk, pack 12 0 (bkN k s l).f_t.Zj⟩ : Ze) = (bkN k s l).f_t := pk hN.T
 unfold Zal.f
 refine bof (v := b0 s) ?_ (bof (HBook_eq hk hs hw) ?_)
 ·unfold Zen.f
  have : (if (if 4 < (s : Int) then 4 else (s : Int)) > 0 then (if 4 < (s : Int) then 4 else (s : Int)) else 0) = (s : Int) := by
   split <;> split <;> omega
  rw [this]
  rfl
 ·simp only [e2]
  have it := Wnc (once := Zal.l6.once k) (fun i => (l, (i : Int), (bkR k s l i).Zac, (bkR k s l i).f_l, (bkR k s l i).f_t, (rof (bkN k s l)).Zu, (rof (bkN k s l)).f_L, (rof (bkN k s l)).f_T)) (min l.length 14)
   (fun i hi => bk_step hk hw hs (by omega) (by omega) (hI i (by omega)) (rof (bkN k s l)) ⟨hN.T.1, hN.T.2⟩ hN.sc) ((bkN k s l).Zac, (bkN k s l).f_l, (bkN k s l).f_t, (rof (bkN k s l)).Zu, (rof (bkN k s l)).f_L, (rof (bkN k s l)).f_T) (by
    have e1 : (⟨pack 12 false (bkR k s l (min l.length 14)).f_t.Zk, pack 12 0 (bkR k s l (min l.length 14)).f_t.Zj⟩ : Ze) = (bkR k s l (min l.length 14)).f_t := pk hN.T
    unfold Zal.l6.once
    dsimp only
    simp only [e1, e2]
    by_cases h : ((min l.length 14 : Nat) : Int) < (l.length : Int)
    ·rw [ct h, Z0]
     dsimp only
     rw [cf (show ¬ ((min l.length 14 : Nat) : Int) < 14 by omega)]
     simp only [e1, e2]
     rfl
    ·rw [cf h, Z0]
     dsimp only
     rw [cond_false]
     simp only [e1, e2]
     rfl) k 0 (Nat.zero_le _) (by omega)
  have hp : (⟨pack 12 false (b0 s).f_t.Zk, pack 12 0 (b0 s).f_t.Zj⟩ : Ze) = (b0 s).f_t := pk (b0_inv s).T
  refine bof (v := ((bkN k s l).Zac, (bkN k s l).f_l, (bkN k s l).f_t, (rof (bkN k s l)).Zu, (rof (bkN k s l)).f_L, (rof (bkN k s l)).f_T)) ?_ ?_
  ·simp only [hp]
   exact it
  ·dsimp only
   simp only [e2, e3]
end Go.Proofs.Ytbchcjlllddlpaa.Pure
namespace Go.Proofs.Ytbchcjlllddlpaa.Pure
set_option linter.unusedVariables false
set_option linter.unusedSimpArgs false
open Go Go.Ev Go.Lm Go.Pu Go.Dg
abbrev KZ := Int × Int
def ltZ (a b : KZ) : Bool := decide (a.1 < b.1) || (a.1 == b.1 && decide (a.2 < b.2))
theorem Qdi {a b : KZ} : ltZ a b = true ↔ a.1 < b.1 ∨ (a.1 = b.1 ∧ a.2 < b.2) := by unfold ltZ; simp
theorem Wwy {a b : KZ} (h : ltZ a b = true) : a ≠ b := by
 rintro rfl
 rw [Qdi] at h
 omega
theorem ltZ_trans {a b c : KZ} (h : ltZ a b = true) (h' : ltZ b c = true) : ltZ a c = true := by
 rw [Qdi] at *
 omega
theorem ltZ_total {a b : KZ} (h : ltZ a b = false) (h' : b ≠ a) : ltZ b a = true := by
 rw [Qdi]
 have h1 : ¬ (a.1 < b.1 ∨ (a.1 = b.1 ∧ a.2 < b.2)) := fun hh => by rw [Qdi.2 hh] at h; cases h
 by_cases e1 : b.1 = a.1
 ·by_cases e2 : b.2 = a.2
  ·exact absurd (Prod.ext e1 e2) h'
  ·omega
 ·omega
theorem Wru {a b : KZ} : Zcx a b = true ↔ a = b := by
 unfold Zcx
 rw [Bool.and_eq_true, beq_iff_eq, beq_iff_eq]
 exact ⟨fun h => Prod.ext h.1 h.2, fun h => by rw [h]; exact ⟨rfl, rfl⟩⟩
def Ris (l : List (KZ × Int)) : Prop := l.Pairwise fun a b => ltZ a.1 b.1 = true
def SmL (l : List (KZ × Int)) : Prop := ∀ p ∈ l, Sm p.2
instance (v : Int) : Decidable (Sm v) := by unfold Sm; exact inferInstance
def Woo (k : KZ) (v : Int) : List (KZ × Int) → Option (List (KZ × Int))
 | [] => some [(k, v)]
 | x :: r => if x.1 = k then (if Sm (x.2 + v) then some ((k, x.2 + v) :: r) else none) else if ltZ k x.1 = true then some ((k, v) :: x :: r) else (Woo k v r).map (x :: ·)
def Wfd (k : KZ) : List (KZ × Int) → Option Int
 | [] => none
 | x :: r => if x.1 = k then some x.2 else Wfd k r
theorem Wxe : ∀ {l : List (KZ × Int)} {k : KZ} {v : Int}, Wfd k l = some v → (k, v) ∈ l
 | [], k, v, h => by cases h
 | x :: r, k, v, h => by
  unfold Wfd at h
  split at h
  ·rename_i e
   cases h
   rw [← e]
   exact List.mem_cons_self
  ·exact List.mem_cons_of_mem _ (Wxe h)
theorem Qaj : ∀ {l : List (KZ × Int)} {k : KZ}, Wfd k l = none → ∀ p ∈ l, p.1 ≠ k
 | [], k, h, p, hp => (List.not_mem_nil hp).elim
 | x :: r, k, h, p, hp => by
  unfold Wfd at h
  split at h
  ·cases h
  ·rename_i e
   rcases List.mem_cons.1 hp with rfl | hp
   ·exact e
   ·exact Qaj h p hp
theorem Qtq {k : KZ} {l : List (KZ × Int)} (h : ∀ p ∈ l, ltZ k p.1 = true) : Wfd k l = none := by
 induction l with
 | nil => rfl
 | cons x r ih =>
  unfold Wfd
  rw [if_neg (fun e => Wwy (h x List.mem_cons_self) e.symm), ih fun p hp => h p (List.mem_cons_of_mem _ hp)]
theorem Wro {k : KZ} {v : Int} (hv : Sm v) : ∀ {l : List (KZ × Int)}, Ris l → SmL l → match Woo k v l with
  | some z => Ris z ∧ SmL z ∧ z.length ≤ l.length + 1 ∧ (∀ p ∈ z, p.1 = k ∨ p.1 ∈ l.map (·.1)) ∧ (match Wfd k l with
   | some u => Sm (u + v) ∧ z = l.map fun p => if p.1 = k then (k, u + v) else p
   | none => z.Perm ((k, v) :: l))
  | none => ∃ u, Wfd k l = some u ∧ ¬ Sm (u + v)
 | [], _, _ => ⟨List.pairwise_singleton _ _, fun p hp => by rw [List.mem_singleton.1 hp]; exact hv, Nat.le_refl _, fun p hp => .inl (by rw [List.mem_singleton.1 hp]), .refl _⟩
 | x :: r, hr, hs => by
  have hr' := List.pairwise_cons.1 hr
  have hsr : SmL r := fun p hp => hs p (List.mem_cons_of_mem _ hp)
  unfold Woo Wfd
  by_cases e : x.1 = k
  ·rw [if_pos e, if_pos e]
   by_cases hm : Sm (x.2 + v)
   ·rw [if_pos hm]
    have hmap : ∀ p ∈ r, (if p.1 = k then (k, x.2 + v) else p) = p := fun p hp => by
     have := hr'.1 p hp
     rw [if_neg (fun e' => Wwy this (by rw [e, e']))]
    refine ⟨List.pairwise_cons.2 ⟨fun p hp => by have := hr'.1 p hp; rw [e] at this; exact this, hr'.2⟩, fun p hp => ?_, by simp, fun p hp => ?_, hm, ?_⟩
    ·rcases List.mem_cons.1 hp with rfl | hp
     ·exact hm
     ·exact hsr p hp
    ·rcases List.mem_cons.1 hp with rfl | hp
     ·exact .inl rfl
     ·exact .inr (List.mem_map.2 ⟨p, List.mem_cons_of_mem _ hp, rfl⟩)
    ·rw [List.map_cons, if_pos e, (List.map_congr_left hmap).trans (List.map_id _)]
   ·rw [if_neg hm]
    exact ⟨x.2, rfl, hm⟩
  ·rw [if_neg e, if_neg e]
   by_cases hl : ltZ k x.1 = true
   ·rw [if_pos hl]
    have hab : ∀ p ∈ r, ltZ k p.1 = true := fun p hp => ltZ_trans hl (hr'.1 p hp)
    rw [Qtq hab]
    refine ⟨List.pairwise_cons.2 ⟨fun p hp => ?_, hr⟩, fun p hp => ?_, by simp, fun p hp => ?_, .refl _⟩
    ·rcases List.mem_cons.1 hp with rfl | hp
     ·exact hl
     ·exact hab p hp
    ·rcases List.mem_cons.1 hp with rfl | hp
     ·exact hv
     ·exact hs p hp
    ·rcases List.mem_cons.1 hp with rfl | hp
     ·exact .inl rfl
     ·exact .inr (List.mem_map.2 ⟨p, hp, rfl⟩)
   ·rw [if_neg hl]
    have hxk : ltZ x.1 k = true := ltZ_total (by simpa using hl) e
    have ih := Wro (k := k) hv hr'.2 hsr
    cases hz : Woo k v r with
    | none =>
     rw [hz] at ih
     exact ih
    | some z =>
     rw [hz] at ih
     obtain ⟨h1, h2, h3, h4, h5⟩ := ih
     refine ⟨List.pairwise_cons.2 ⟨fun p hp => ?_, h1⟩, fun p hp => ?_, by simp; omega, fun p hp => ?_, ?_⟩
     ·rcases h4 p hp with h | h
      ·rw [h]; exact hxk
      ·obtain ⟨q, hq, e'⟩ := List.mem_map.1 h
       rw [← e']
       exact hr'.1 q hq
     ·rcases List.mem_cons.1 hp with rfl | hp
      ·exact hs _ List.mem_cons_self
      ·exact h2 p hp
     ·rcases List.mem_cons.1 hp with rfl | hp
      ·exact .inr (List.mem_map.2 ⟨_, List.mem_cons_self, rfl⟩)
      ·rcases h4 p hp with h | h
       ·exact .inl h
       ·exact .inr (by rw [List.map_cons]; exact List.mem_cons_of_mem _ h)
     ·cases hg : Wfd k r with
      | some u =>
       rw [hg] at h5
       refine ⟨h5.1, ?_⟩
       rw [List.map_cons, if_neg e, h5.2]
      | none =>
       rw [hg] at h5
       exact (List.Perm.cons x h5).trans (.swap _ _ _)
def mkz (s : Nat) (p : KZ × Int) : KZ × Zi := (p.1, DV p.2 s)
theorem Ris.nd {l : List (KZ × Int)} (h : Ris l) : (l.map (·.1)).Nodup := by
 unfold List.Nodup
 rw [List.pairwise_map]
 exact h.imp fun h => Wwy h
theorem mkz_keys (s : Nat) (l : List (KZ × Int)) : (l.map (mkz s)).map (·.1) = l.map (·.1) := by
 rw [List.map_map]
 rfl
theorem mget_nd {k : KZ} {d : Zi} : ∀ {M : List (KZ × Zi)}, (M.map (·.1)).Nodup → (k, d) ∈ M → Wpq (Zcx k) M = some d
 | [], _, h => by cases h
 | x :: r, hn, h => by
  rw [List.map_cons, List.nodup_cons] at hn
  unfold Wpq
  rcases List.mem_cons.1 h with e | h
  ·subst e
   rw [Wru.2 rfl]
   rfl
  ·have : Zcx k x.1 = false := by
    rw [Bool.eq_false_iff]
    intro hk
    exact hn.1 (List.mem_map.2 ⟨_, h, Wru.1 hk⟩)
   rw [this]
   exact mget_nd hn.2 h
theorem mget_no {k : KZ} : ∀ {M : List (KZ × Zi)}, (∀ p ∈ M, p.1 ≠ k) → Wpq (Zcx k) M = none
 | [], _ => rfl
 | x :: r, h => by
  unfold Wpq
  have : Zcx k x.1 = false := by
   rw [Bool.eq_false_iff]
   intro hk
   exact h x List.mem_cons_self (Wru.1 hk).symm
  rw [this]
  exact mget_no fun p hp => h p (List.mem_cons_of_mem _ hp)
theorem mput_no {k : KZ} {d : Zi} : ∀ {M : List (KZ × Zi)}, (∀ p ∈ M, p.1 ≠ k) → Woy (Zcx k) k d M = M ++ [(k, d)]
 | [], _ => rfl
 | x :: r, h => by
  unfold Woy
  have : Zcx k x.1 = false := by
   rw [Bool.eq_false_iff]
   intro hk
   exact h x List.mem_cons_self (Wru.1 hk).symm
  rw [this, cond_false, mput_no fun p hp => h p (List.mem_cons_of_mem _ hp)]
  rfl
theorem mput_nd {k : KZ} {d u : Zi} : ∀ {M : List (KZ × Zi)}, (M.map (·.1)).Nodup → (k, u) ∈ M → Woy (Zcx k) k d M = M.map fun p => if p.1 = k then (k, d) else p
 | [], _, h => by cases h
 | x :: r, hn, h => by
  rw [List.map_cons, List.nodup_cons] at hn
  unfold Woy
  by_cases e : x.1 = k
  ·rw [Wru.2 e.symm, cond_true, List.map_cons, if_pos e, e]
   congr 1
   refine ((List.map_congr_left fun p hp => ?_).trans (List.map_id r)).symm
   exact if_neg fun e' => hn.1 (List.mem_map.2 ⟨p, hp, by rw [e, e']⟩)
  ·have hk : Zcx k x.1 = false := by
    rw [Bool.eq_false_iff]
    intro hk
    exact e (Wru.1 hk).symm
   rw [hk, cond_false, List.map_cons, if_neg e]
   rcases List.mem_cons.1 h with e' | h
   ·exact absurd (congrArg Prod.fst e').symm e
   ·rw [mput_nd hn.2 h]
structure MZ (s : Nat) (M : List (KZ × Zi)) (l : List (KZ × Int)) : Prop where
 perm : M.Perm (l.map (mkz s))
 ris : Ris l
 sm : SmL l
theorem MZ.nil (s : Nat) : MZ s [] [] := ⟨.refl _, List.Pairwise.nil, fun p hp => (List.not_mem_nil hp).elim⟩
theorem MZ.nd {s : Nat} {M : List (KZ × Zi)} {l : List (KZ × Int)} (h : MZ s M l) : (M.map (·.1)).Nodup := by
 have := h.perm.map (·.1)
 rw [mkz_keys] at this
 exact this.nodup_iff.2 h.ris.nd
theorem MZ.get {s : Nat} {M : List (KZ × Zi)} {l : List (KZ × Int)} (h : MZ s M l) (k : KZ) : Wpq (Zcx k) M = (Wfd k l).map fun v => DV v s := by
 cases hg : Wfd k l with
 | some v => exact mget_nd h.nd (h.perm.mem_iff.2 (List.mem_map.2 ⟨_, Wxe hg, rfl⟩))
 | none =>
  refine mget_no fun p hp => ?_
  obtain ⟨q, hq, rfl⟩ := List.mem_map.1 (h.perm.mem_iff.1 hp)
  exact Qaj hg q hq
theorem MZ.put {s : Nat} {M : List (KZ × Zi)} {l z : List (KZ × Int)} (h : MZ s M l) {k : KZ} {v : Int} (hv : Sm v) (hz : Woo k v l = some z) : MZ s (Woy (Zcx k) k (DV ((Wfd k l).getD 0 + v) s) M) z := by
 have sp := Wro (k := k) hv h.ris h.sm
 rw [hz] at sp
 obtain ⟨h1, h2, h3, h4, h5⟩ := sp
 refine ⟨?_, h1, h2⟩
 cases hg : Wfd k l with
 | some u =>
  rw [hg] at h5
  obtain ⟨h6, h7⟩ := h5
  rw [mput_nd h.nd (h.perm.mem_iff.2 (List.mem_map.2 ⟨_, Wxe hg, rfl⟩)), h7]
  refine (h.perm.map _).trans (List.Perm.of_eq ?_)
  rw [List.map_map, List.map_map]
  refine List.map_congr_left fun p _ => ?_
  show (if p.1 = k then (k, DV (u + v) s) else mkz s p) = mkz s (if p.1 = k then (k, u + v) else p)
  split <;> rfl
 | none =>
  rw [hg] at h5
  rw [mput_no fun p hp => by
   obtain ⟨q, hq, rfl⟩ := List.mem_map.1 (h.perm.mem_iff.1 hp)
   exact Qaj hg q hq]
  refine (List.perm_append_comm.trans ((List.Perm.cons _ h.perm).trans ?_))
  show (mkz s (k, 0 + v) :: l.map (mkz s)).Perm (z.map (mkz s))
  rw [Int.zero_add]
  exact (h5.map (mkz s)).symm
def Wjr (l : List (KZ × Int)) : List (KZ × Int) := l.filter fun p => p.2 != 0
theorem Qgc {α : Type} {p : α → Option Bool} {q : α → Bool} : ∀ {l : List α}, (∀ x ∈ l, p x = some (q x)) → Wss p l = some (l.filter fun x => !q x)
 | [], _ => rfl
 | x :: r, h => by
  unfold Wss
  rw [h x List.mem_cons_self, Z0, Qgc fun y hy => h y (List.mem_cons_of_mem _ hy), Z0]
  cases hq : q x with
  | true => rw [List.filter_cons_of_neg (by simp [hq])]; rfl
  | false => rw [List.filter_cons_of_pos (by simp [hq])]; rfl
theorem Qiu {l : List (KZ × Int)} (h : Ris l) : Ris (Wjr l) := h.sublist List.filter_sublist
theorem someZ_sm {l : List (KZ × Int)} (h : SmL l) : SmL (Wjr l) := fun p hp => h p ((List.mem_filter.1 hp).1)
theorem w2_zero {v : Int} {s : Nat} : (val (DV v s) == 0) = (v == 0) := by rw [Wgh]
theorem MZ.some {s : Nat} {M : List (KZ × Zi)} {l : List (KZ × Int)} (h : MZ s M l) : MZ s (M.filter fun p => !(val p.2 == 0)) (Wjr l) := by
 refine ⟨(h.perm.filter _).trans (List.Perm.of_eq ?_), Qiu h.ris, someZ_sm h.sm⟩
 unfold Wjr
 rw [List.filter_map]
 congr 1
 refine List.filter_congr fun p _ => ?_
 show (!(val (DV p.2 s) == 0)) = (p.2 != 0)
 rw [w2_zero]
 rfl
theorem MZ.len {s : Nat} {M : List (KZ × Zi)} {l : List (KZ × Int)} (h : MZ s M l) : M.length = l.length := by rw [h.perm.length_eq, List.length_map]
end Go.Proofs.Ytbchcjlllddlpaa.Pure
namespace Go.Proofs.Ytbchcjlllddlpaa.Pure
set_option linter.unusedVariables false
set_option linter.unusedSimpArgs false
open Go Go.Ev Go.Lm Go.Pu Go.Dg
def Wlm (a : Int) : Int := if a < 0 ∨ a ≥ 16 then 0 else if a ≤ 3 then 1 else if a ≤ 6 then 2 else if a ≤ 8 then 3 else 4
theorem CK_eq (k : Nat) (a : Int) : Zct.f k a = some (Wlm a) := by
 unfold Zct.f Wlm
 by_cases h : a < 0
 ·rw [ct h, if_pos (.inl h)]; rfl
 ·rw [cf h, Z0]
  dsimp only
  by_cases h2 : a ≥ 16
  ·rw [ct h2, if_pos (.inr h2)]
  ·rw [cf h2, if_neg (by omega)]
   by_cases h3 : a ≤ 3
   ·rw [ct h3, if_pos h3]
   ·rw [cf h3, if_neg h3]
    by_cases h4 : a ≤ 6
    ·rw [ct h4, if_pos h4]
    ·rw [cf h4, if_neg h4]
     by_cases h5 : a ≤ 8
     ·rw [ct h5, if_pos h5]
     ·rw [cf h5, if_neg h5]
def kzL (o : Bool) (x : Zd) : KZ := if Wlm x.Zde = 4 ∧ o = false then (8, 0) else (x.Zde, IntKind.wrap .i64 (x.Zdo + 1))
theorem key_eq (k : Nat) (x : Zd) (o : Bool) : Zeq.f k x o = some (kzL o x) := by
 unfold Zeq.f kzL
 rw [CK_eq, Z0]
 by_cases h : Wlm x.Zde = 4
 ·rw [show (Wlm x.Zde == 4) = true by rw [h]; rfl, cond_true, Z0]
  cases o
  ·rw [if_pos ⟨h, rfl⟩]; rfl
  ·rw [if_neg (by simp)]; rfl
 ·rw [show (Wlm x.Zde == 4) = false by simpa using h, cond_false, Z0, if_neg (fun hh => h hh.1)]
  rfl
theorem Qsj {k : Nat} (hk : 60 < k) {i j : Int} {s : Nat} (hi : Sm i) (hj : Sm j) (hs : s ≤ 9) : Zel.f k (DV i s) (DV j s) = some (mkD (i + j) s) := by
 have h := Add_DV hk hi hj hs hs
 rw [Nat.max_self, Nat.sub_self, Int.pow_zero, Int.mul_one, Int.mul_one] at h
 exact h
theorem Sm0 : Sm 0 := by unfold Sm; decide
theorem putZ_val {k : KZ} {v : Int} {l : List (KZ × Int)} (hv : Sm v) (hr : Ris l) (hs : SmL l) : (Woo k v l).isSome = decide (Sm ((Wfd k l).getD 0 + v)) := by
 have h := Wro (k := k) hv hr hs
 cases hz : Woo k v l with
 | some z =>
  rw [hz] at h
  obtain ⟨_, _, _, _, h5⟩ := h
  cases hg : Wfd k l with
  | some u => rw [hg] at h5; rw [decide_eq_true (show Sm ((some u).getD 0 + v) from h5.1)]; rfl
  | none => rw [decide_eq_true (show Sm ((none : Option Int).getD 0 + v) by rw [Option.getD_none, Int.zero_add]; exact hv)]; rfl
 | none =>
  rw [hz] at h
  obtain ⟨u, hu, hn⟩ := h
  rw [hu, decide_eq_false (show ¬ Sm ((some u).getD 0 + v) from hn)]
  rfl
def Wiu (o : Bool) : List Zd → List (KZ × Int) → Option (List (KZ × Int))
 | [], z => some z
 | x :: r, z => (Woo (kzL o x) (val x.Zq) z).bind (Wiu o r)
def entZ (p : Int) (t : Ze) : List Za → List (KZ × Int) → Option (List (KZ × Int))
 | [], z => some z
 | x :: r, z => if x.Zad > p then entZ p t r z else (Wiu (opn t x.Zad) x.Zay z).bind (entZ p t r)
theorem line_in {k : Nat} (hk : 1002 < k) {s : Nat} (hs : s ≤ 4) {bt t : Ze} (hb : T12 bt) (ht : T12 t) {ls : List Zd} (hl : ls.length ≤ 1000) (hw : ∀ x ∈ ls, x.Zq = DV (val x.Zq) s ∧ Sm (val x.Zq))
  {M : List (KZ × Zi)} {z : List (KZ × Int)} (hM : MZ s M z) {j : Nat} (hj : j < ls.length) (p : Int) (es : List Za) (n i : Int) (bl : List Za) (per : Int) (ls2 : List Zd) (of : Int) :
  Zar.l11.once k (p, es, n, i, ls, (ls.length : Int), (j : Int), (s : Int), bl, bt, M, t, per, ls2, of) = some (match Woo (kzL (opn t per) (ls.getD j Zd.zero)) (val (ls.getD j Zd.zero).Zq) z with
   | some z' => .inl (p, es, n, i, ls, (ls.length : Int), ((j + 1 : Nat) : Int), (s : Int), bl, bt, Woy (Zcx (kzL (opn t per) (ls.getD j Zd.zero))) (kzL (opn t per) (ls.getD j Zd.zero)) (DV ((Wfd (kzL (opn t per) (ls.getD j Zd.zero)) z).getD 0 + val (ls.getD j Zd.zero).Zq) s) M, t, per, ls2, of)
   | none => .inr (.inr ([], 3, ⟨(s : Int), bl, bt⟩))) := by
 have hx := hw _ (Zec Zd.zero hj)
 have hwr := Wbt (show -9223372036854775808 ≤ (j : Int) + 1 ∧ (j : Int) + 1 < 9223372036854775808 by omega)
 have e1 := pk hb
 have e2 := pk ht
 unfold Zar.l11.once
 dsimp only
 simp only [e1, e2]
 rw [ct (show (j : Int) < (ls.length : Int) by omega), Wbv (by omega) (by omega), cond_true, Int.toNat_natCast]
 generalize ls.getD j Zd.zero = x at hx ⊢
 obtain ⟨hx1, hx2⟩ := hx
 refine bof (Wsh k ht per) (bof (key_eq k x _) ?_)
 generalize kzL (opn t per) x = key
 have hg : Wpq (Zcx (key.1, key.2)) M = (Wfd key z).map fun v => DV v s := hM.get key
 have hu : Sm ((Wfd key z).getD 0) := by
  cases hgz : Wfd key z with
  | none => exact Sm0
  | some u => exact hM.sm _ (Wxe hgz)
 have hv := putZ_val (k := key) hx2 hM.ris hM.sm
 rw [hg, Z0, Z0]
 refine bof (v := (p, es, n, i, ls, (ls.length : Int), (j : Int), (s : Int), bl, bt, M, t, per, ls2, of, x.Zde, x.Zq.Wbe, x.Zq.f_C.1, x.Zq.f_C.2, x.Zq.Zu, x.Zdo, key.1, key.2, (DV ((Wfd key z).getD 0) s).Wbe, (DV ((Wfd key z).getD 0) s).f_C.1, (DV ((Wfd key z).getD 0) s).f_C.2, (DV ((Wfd key z).getD 0) s).Zu)) ?_ ?_
 ·cases Wfd key z with
  | none =>
   have ho : Wgo.f k 0 (s : Int) = some (DV 0 s) := by
    have := Of_DV k (n := 0) (by omega) (s : Int)
    rwa [cl_of (by omega)] at this
   rw [Option.map_none, Option.isSome_none, Bool.not_false, cond_true]
   refine bof (v := ((s : Int), (⟨(s : Int), bl, bt⟩ : Zf))) ?_ ?_
   ·unfold Zbe.f
    simp only [e1]
   ·refine bof ho ?_
    simp only [e1]
    rfl
  | some u => rfl
 ·dsimp only
  have ha : Zel.f k (⟨(DV ((Wfd key z).getD 0) s).Wbe, ((DV ((Wfd key z).getD 0) s).f_C.1, (DV ((Wfd key z).getD 0) s).f_C.2), (DV ((Wfd key z).getD 0) s).Zu⟩ : Zi) (⟨x.Zq.Wbe, (x.Zq.f_C.1, x.Zq.f_C.2), x.Zq.Zu⟩ : Zi) = some (mkD ((Wfd key z).getD 0 + val x.Zq) s) := by
   show Zel.f k (DV ((Wfd key z).getD 0) s) x.Zq = _
   rw [hx1, Wgh]
   exact Qsj (by omega) hu hx2 (by omega)
  refine bof ha ?_
  simp only [e1, e2, hwr]
  cases hp : Woo key (val x.Zq) z with
  | some z' =>
   rw [hp] at hv
   have hS : Sm ((Wfd key z).getD 0 + val x.Zq) := of_decide_eq_true hv.symm
   have hm : mkD ((Wfd key z).getD 0 + val x.Zq) s = (DV ((Wfd key z).getD 0 + val x.Zq) s, 0) := if_pos hS
   rw [hm]
   rfl
  | none =>
   rw [hp] at hv
   have hS : ¬ Sm ((Wfd key z).getD 0 + val x.Zq) := of_decide_eq_false hv.symm
   have hm : mkD ((Wfd key z).getD 0 + val x.Zq) s = (nil0, 3) := if_neg hS
   rw [hm]
   rfl
theorem lines_in {k : Nat} (hk : 1002 < k) {s : Nat} (hs : s ≤ 4) {bt t : Ze} (hb : T12 bt) (ht : T12 t) {ls : List Zd} (hl : ls.length ≤ 1000) (hw : ∀ x ∈ ls, x.Zq = DV (val x.Zq) s ∧ Sm (val x.Zq))
  (p : Int) (es : List Za) (n i : Int) (bl : List Za) (per : Int) (ls2 : List Zd) (of : Int) : ∀ (m j : Nat) (M : List (KZ × Zi)) (z : List (KZ × Int)), MZ s M z → j ≤ ls.length → ls.length - j < m →
  ∃ r, iter (Zar.l11.once k) m (p, es, n, i, ls, (ls.length : Int), (j : Int), (s : Int), bl, bt, M, t, per, ls2, of) = some r ∧ (match Wiu (opn t per) (ls.drop j) z with
   | some z' => ∃ M', r = .inl (p, es, n, i, (s : Int), bl, bt, M', t) ∧ MZ s M' z'
   | none => r = .inr ([], 3, ⟨(s : Int), bl, bt⟩)) := by
 intro m
 induction m with
 | zero => intro j M z _ _ h; omega
 | succ m ih =>
  intro j M z hM hj hm
  by_cases hc : j < ls.length
  ·have st := line_in hk hs hb ht hl hw hM hc p es n i bl per ls2 of
   have hx := hw _ (Zec Zd.zero hc)
   rw [Wgx Zd.zero hc]
   unfold Wiu
   cases hp : Woo (kzL (opn t per) (ls.getD j Zd.zero)) (val (ls.getD j Zd.zero).Zq) z with
   | some z' =>
    rw [hp] at st
    rw [Zdd st, Z0]
    exact ih (j + 1) _ z' (hM.put hx.2 hp) (by omega) (by omega)
   | none =>
    rw [hp] at st
    exact ⟨_, Zbq st, rfl⟩
  ·rw [List.drop_eq_nil_of_le (by omega)]
   refine ⟨_, Zbq ?_, M, rfl, hM⟩
   unfold Zar.l11.once
   dsimp only
   rw [cf (by omega), pk hb, pk ht]
theorem ents_in {k : Nat} (hk : 1002 < k) {s : Nat} (hs : s ≤ 4) {bt t : Ze} (hb : T12 bt) (ht : T12 t) {es : List Za} (hl : es.length ≤ 1000) (hw : ∀ x ∈ es, LsOk s x.Zay) (p : Int) (bl : List Za) :
  ∀ (m i : Nat) (M : List (KZ × Zi)) (z : List (KZ × Int)), MZ s M z → i ≤ es.length → es.length - i < m →
  ∃ r, iter (Zar.l7.once k) m (p, es, (es.length : Int), (i : Int), (s : Int), bl, bt, M, t) = some r ∧ (match entZ p t (es.drop i) z with
   | some z' => ∃ M', r = .inl (M', (s : Int), bl, bt) ∧ MZ s M' z'
   | none => r = .inr ([], 3, ⟨(s : Int), bl, bt⟩)) := by
 intro m
 induction m with
 | zero => intro i M z _ _ h; omega
 | succ m ih =>
  intro i M z hM hi hm
  have e1 := pk hb
  have e2 := pk ht
  by_cases hc : i < es.length
  ·have hx := hw _ (Zec Za.zero hc)
   have hwr := Wbt (show -9223372036854775808 ≤ (i : Int) + 1 ∧ (i : Int) + 1 < 9223372036854775808 by omega)
   rw [Wgx Za.zero hc]
   unfold entZ
   have st : Zar.l7.once k (p, es, (es.length : Int), (i : Int), (s : Int), bl, bt, M, t) = cond (decide ((es.getD i Za.zero).Zad > p)) (some (.inl (p, es, (es.length : Int), ((i + 1 : Nat) : Int), (s : Int), bl, bt, M, t)))
     ((iter (Zar.l11.once k) k (p, es, (es.length : Int), (i : Int), (es.getD i Za.zero).Zay, ((es.getD i Za.zero).Zay.length : Int), 0, (s : Int), bl, bt, M, t, (es.getD i Za.zero).Zad, (es.getD i Za.zero).Zay, (es.getD i Za.zero).Wbm)).bind fun | .inl y => (some (.inl (y.1, y.2.1, y.2.2.1, IntKind.wrap .i64 (y.2.2.2.1 + 1), y.2.2.2.2.1, y.2.2.2.2.2.1, (⟨pack 12 false y.2.2.2.2.2.2.1.Zk, pack 12 0 y.2.2.2.2.2.2.1.Zj⟩ : Ze), y.2.2.2.2.2.2.2.1, (⟨pack 12 false y.2.2.2.2.2.2.2.2.Zk, pack 12 0 y.2.2.2.2.2.2.2.2.Zj⟩ : Ze)))) | .inr y => (some (.inr (.inr (y.1, y.2.1, (⟨y.2.2.Zac, y.2.2.f_l, (⟨pack 12 false y.2.2.f_t.Zk, pack 12 0 y.2.2.f_t.Zj⟩ : Ze)⟩ : Zf)))))) := by
    unfold Zar.l7.once
    dsimp only
    simp only [e1, e2]
    rw [ct (show (i : Int) < (es.length : Int) by omega), Wbv (by omega) (by omega), cond_true, Int.toNat_natCast, hwr]
    rfl
   generalize es.getD i Za.zero = x at hx st ⊢
   by_cases hp : x.Zad > p
   ·rw [ct hp] at st
    rw [if_pos hp, Zdd st]
    exact ih (i + 1) M z hM (by omega) (by omega)
   ·rw [cf hp] at st
    rw [if_neg hp]
    obtain ⟨r, hr, hr2⟩ := lines_in hk hs hb ht (ls := x.Zay) (by have := hx.1; omega) hx.2 p es (es.length : Int) (i : Int) bl x.Zad x.Zay x.Wbm k 0 M z hM (Nat.zero_le _) (by have := hx.1; omega)
    rw [List.drop_zero] at hr2
    have hr' : iter (Zar.l11.once k) k (p, es, (es.length : Int), (i : Int), x.Zay, (x.Zay.length : Int), 0, (s : Int), bl, bt, M, t, x.Zad, x.Zay, x.Wbm) = some r := hr
    rw [hr', Z0] at st
    cases hq : Wiu (opn t x.Zad) x.Zay z with
    | some z' =>
     rw [hq] at hr2
     obtain ⟨M', rfl, hM'⟩ := hr2
     dsimp only at st
     rw [e1, e2, hwr] at st
     rw [Zdd st, Z0]
     exact ih (i + 1) M' z' hM' (by omega) (by omega)
    | none =>
     rw [hq] at hr2
     subst hr2
     dsimp only at st
     rw [e1] at st
     exact ⟨_, Zbq st, rfl⟩
  ·rw [List.drop_eq_nil_of_le (by omega)]
   refine ⟨_, Zbq ?_, M, rfl, hM⟩
   unfold Zar.l7.once
   dsimp only
   rw [cf (by omega), e1]
theorem Qsm {k : Nat} (hk : 1002 < k) {s : Nat} (hs : s ≤ 4) {M : List (KZ × Zi)} {z : List (KZ × Int)} (hM : MZ s M z) : Wss (fun p => (Zem.f k p.1 p.2).bind fun y => some y) M = some (M.filter fun p => !(val p.2 == 0)) := by
 refine Qgc fun p hp => ?_
 obtain ⟨q, hq, rfl⟩ := List.mem_map.1 (hM.perm.mem_iff.1 hp)
 have h := Wls (k := k) (by omega) (hM.sm q hq) (by omega : s ≤ 9)
 have h' : Zem.f k (mkz s q).1 (mkz s q).2 = some (sgn q.2 == 0) := by
  unfold Zem.f
  exact bof h rfl
 rw [h', Z0, Qdc]
 show some (decide (q.2 = 0)) = some (val (DV q.2 s) == 0)
 rw [Wgh]
 rfl
theorem Trial_eq {k : Nat} (hk : 1002 < k) {s : Nat} (hs : s ≤ 4) {b : Zf} (h : Wla s b) (p : Int) : ∃ M e, Zar.f k b p = some (M, e, b) ∧
  (if p < 0 ∨ p ≥ 12 then M = [] ∧ e = 8 else match entZ p b.f_t b.f_l [] with
   | some z => e = 0 ∧ MZ s M (Wjr z)
   | none => M = [] ∧ e = 3) := by
 have e1 := pk h.T
 have e2 : (⟨b.Zac, b.f_l, ⟨pack 12 false b.f_t.Zk, pack 12 0 b.f_t.Zj⟩⟩ : Zf) = b := pkB h.T
 unfold Zar.f
 simp only [e1]
 by_cases hp : p < 0
 ·refine ⟨[], 8, ?_, by rw [if_pos (.inl hp)]; exact ⟨rfl, rfl⟩⟩
  rw [ct hp, Z0]
  dsimp only
  rw [cond_true, e1]
 ·rw [cf hp, Z0]
  dsimp only
  by_cases hp2 : p ≥ 12
  ·refine ⟨[], 8, ?_, by rw [if_pos (.inr hp2)]; exact ⟨rfl, rfl⟩⟩
   rw [ct hp2, e1]
  ·rw [cf hp2]
   simp only [if_neg (show ¬ (p < 0 ∨ p ≥ 12) by omega)]
   have hE := Wrj (k := k) (by omega) h.T h.len (fun x hx => by have := (h.ls x hx).1; omega)
   obtain ⟨r, hr, hr2⟩ := ents_in hk hs h.T h.T (es := b.f_l) (by have := h.len; omega) h.ls p b.f_l k 0 [] [] (MZ.nil s) (Nat.zero_le _) (by have := h.len; omega)
   rw [List.drop_zero] at hr2
   have hr' : iter (Zar.l7.once k) k (p, b.f_l, (b.f_l.length : Int), 0, b.Zac, b.f_l, b.f_t, [], b.f_t) = some r := by rw [h.sc]; exact hr
   have hP : Zbd.f k (⟨b.Zac, b.f_l, ⟨pack 12 false b.f_t.Zk, pack 12 0 b.f_t.Zj⟩⟩ : Zf) = some (b.f_t, b) := by
    rw [e2]
    unfold Zbd.f
    rw [e1]
   have hE' : Zaa.f k (⟨b.Zac, b.f_l, ⟨pack 12 false b.f_t.Zk, pack 12 0 b.f_t.Zj⟩⟩ : Zf) = some (b.f_l, b) := by rw [e2]; exact hE
   cases hz : entZ p b.f_t b.f_l [] with
   | some z =>
    rw [hz] at hr2
    obtain ⟨M, rfl, hM⟩ := hr2
    refine ⟨M.filter fun p => !(val p.2 == 0), 0, ?_, rfl, hM.some⟩
    refine bof hP (bof hE' (bof (v := .inl (M, (s : Int), b.f_l, b.f_t)) (by simp only [e1]; exact hr') ?_))
    dsimp only
    refine bof (Qsm hk hs hM) ?_
    rw [← h.sc, e2]
   | none =>
    rw [hz] at hr2
    subst hr2
    refine ⟨[], 3, ?_, rfl, rfl⟩
    refine bof hP (bof hE' (bof (v := .inr ([], 3, ⟨(s : Int), b.f_l, b.f_t⟩)) (by simp only [e1]; exact hr') ?_))
    dsimp only
    rw [← h.sc, e2]
end Go.Proofs.Ytbchcjlllddlpaa.Pure
namespace Go.Proofs.Ytbchcjlllddlpaa.Pure
set_option linter.unusedVariables false
set_option linter.unusedSimpArgs false
open Go Go.Ev Go.Lm Go.Pu Go.Dg
end Go.Proofs.Ytbchcjlllddlpaa.Pure
namespace Go.Proofs.Ytbchcjlllddlpaa.Pure
set_option linter.unusedVariables false
set_option linter.unusedSimpArgs false
open Go Go.Ev Go.Lm Go.Pu Go.Dg
def FlowW (x : Zd) : Prop := Wlm x.Zde = 4 → x.Zdo = -1
def EInv (b : Zf) : Prop := ∀ x ∈ b.f_l, (0 ≤ x.Zad ∧ x.Zad < 12) ∧ ∀ y ∈ x.Zay, FlowW y
theorem opn_p {t : Ze} {p : Int} (h : opn t p = true) : 0 ≤ p ∧ p < 12 := by
 unfold opn at h
 simp only [Bool.and_eq_true, decide_eq_true_eq] at h
 exact ⟨h.1, h.2.1⟩
theorem EInv.add {b : Zf} (h : EInv b) {x : Za} (hx : ∀ y ∈ x.Zay, FlowW y) : EInv (Whz b x).2.2 := by
 unfold Whz
 split
 ·rename_i ho
  split
  ·exact h
  ·intro y hy
   rcases List.mem_append.1 hy with hy | hy
   ·exact h y hy
   ·have : y = x := by simpa using hy
    rw [this]
    exact ⟨opn_p ho, hx⟩
 ·exact h
theorem FlowW_rl {s : Nat} {x : Zd} (h : rlB s x = true) : FlowW x := by
 intro hk
 unfold rlB at h
 simp only [Bool.and_eq_true] at h
 have hw := h.2.2.2
 have hi : isW x.Zde = false := by
  unfold Wlm at hk
  unfold isW
  rw [Bool.eq_false_iff]
  intro hh
  rw [Bool.or_eq_true, beq_iff_eq, beq_iff_eq] at hh
  rcases hh with e | e <;> rw [e] at hk <;> simp at hk
 rw [hi] at hw
 simpa using hw
theorem EInv.step {k : Nat} {s : Nat} {b : Zf} (h : EInv b) (x : Zp) : EInv (Wdv k s b x) := by
 have turn : ∀ c, EInv (Wec b c).2 := fun c => by
  unfold Wec
  dsimp only
  cases c.2.2 == 0 <;> exact h
 unfold Wdv
 cases pick x.Zdr 8 == 0 with
 | true => exact turn _
 | false =>
  rw [cond_false]
  cases pick x.Zdr 8 == 1 with
  | true =>
   rw [cond_true]
   unfold Won
   split
   ·exact h
   ·rename_i h0
    split
    ·exact h
    ·refine h.add fun y hy => ?_
     obtain ⟨z, hz, rfl⟩ := List.mem_map.1 hy
     exact (h _ (Zec Za.zero (by omega))).2 z hz
  | false =>
   rw [cond_false]
   cases pick x.Zdr 8 == 2 with
   | true => exact turn _
   | false =>
    rw [cond_false]
    unfold Wkp
    split
    ·rename_i h0
     refine h.add fun y hy => ?_
     unfold Wfb at h0
     split at h0
     ·cases h0
     ·split at h0
      ·rename_i ha
       exact FlowW_rl (List.all_eq_true.1 ha y hy)
      ·cases h0
    ·exact h
theorem bkN_E (k s : Nat) (l : List Zp) : EInv (bkN k s l) := by
 unfold bkN
 generalize min l.length 14 = n
 induction n with
 | zero => exact fun x hx => (List.not_mem_nil hx).elim
 | succ n ih => exact ih.step _
theorem putZ_len {key : KZ} {v : Int} (hv : Sm v) {z z' : List (KZ × Int)} (hr : Ris z) (hs : SmL z) (h : Woo key v z = some z') : Ris z' ∧ SmL z' ∧ z'.length ≤ z.length + 1 := by
 have := Wro (k := key) hv hr hs
 rw [h] at this
 exact ⟨this.1, this.2.1, this.2.2.1⟩
theorem Qfx {o : Bool} : ∀ {ls : List Zd} {z z' : List (KZ × Int)}, (∀ x ∈ ls, Sm (val x.Zq)) → Ris z → SmL z → Wiu o ls z = some z' → Ris z' ∧ SmL z' ∧ z'.length ≤ z.length + ls.length
 | [], z, z', _, hr, hz, h => by cases h; exact ⟨hr, hz, Nat.le_refl _⟩
 | x :: r, z, z', hw, hr, hz, h => by
  unfold Wiu at h
  obtain ⟨z1, h1, h2⟩ := Option.bind_eq_some_iff.1 h
  obtain ⟨g1, g2, g3⟩ := putZ_len (hw x List.mem_cons_self) hr hz h1
  obtain ⟨f1, f2, f3⟩ := Qfx (fun y hy => hw y (List.mem_cons_of_mem _ hy)) g1 g2 h2
  exact ⟨f1, f2, by rw [List.length_cons]; omega⟩
theorem Qhh {p : Int} {t : Ze} {s : Nat} : ∀ {es : List Za} {z z' : List (KZ × Int)}, (∀ x ∈ es, LsOk s x.Zay) → Ris z → SmL z → entZ p t es z = some z' → Ris z' ∧ SmL z' ∧ z'.length ≤ z.length + 8 * es.length
 | [], z, z', _, hr, hz, h => by cases h; exact ⟨hr, hz, Nat.le_refl _⟩
 | x :: r, z, z', hw, hr, hz, h => by
  unfold entZ at h
  rw [List.length_cons]
  split at h
  ·obtain ⟨g1, g2, g3⟩ := Qhh (fun y hy => hw y (List.mem_cons_of_mem _ hy)) hr hz h
   exact ⟨g1, g2, by omega⟩
  ·obtain ⟨z1, h1, h2⟩ := Option.bind_eq_some_iff.1 h
   have hx := hw x List.mem_cons_self
   obtain ⟨f1, f2, f3⟩ := Qfx (fun y hy => (hx.2 y hy).2) hr hz h1
   obtain ⟨g1, g2, g3⟩ := Qhh (fun y hy => hw y (List.mem_cons_of_mem _ hy)) f1 f2 h2
   have := hx.1
   exact ⟨g1, g2, by omega⟩
end Go.Proofs.Ytbchcjlllddlpaa.Pure
namespace Go.Proofs.Ytbchcjlllddlpaa.Pure
set_option linter.unusedVariables false
set_option linter.unusedSimpArgs false
open Go Go.Ev Go.Lm Go.Pu Go.Dg
end Go.Proofs.Ytbchcjlllddlpaa.Pure
namespace Go.Proofs.Ytbchcjlllddlpaa.Pure
set_option linter.unusedVariables false
set_option linter.unusedSimpArgs false
open Go Go.Ev Go.Lm Go.Pu Go.Dg
end Go.Proofs.Ytbchcjlllddlpaa.Pure
