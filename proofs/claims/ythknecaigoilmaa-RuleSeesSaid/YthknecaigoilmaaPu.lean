/- Tools for the plain laws: loops, words of 64 bits, tests. No conditions. -/
import Derived.Test.YthknecaigoilmaaEvLaw
import Derived.Laws.BitsLemmas
import Derived.ChangeShapes
namespace Go.Pu
set_option linter.unusedVariables false
set_option linter.unusedSimpArgs false
open Go Go.Ev

theorem iter_step {X Y : Type} {once : X → Option (X ⊕ Y)} {n : Nat} {x x' : X} (h : once x = some (.inl x')) : iter once (n + 1) x = iter once n x' := by
  simp only [iter, h, Option.bind_some]
theorem iter_stop {X Y : Type} {once : X → Option (X ⊕ Y)} {n : Nat} {x : X} {y : Y} (h : once x = some (.inr y)) : iter once (n + 1) x = some y := by
  simp only [iter, h, Option.bind_some]
/-- A loop, by what stays true and what falls. -/
theorem iter_rule {X Y : Type} {once : X → Option (X ⊕ Y)} (Inv : X → Prop) (m : X → Nat) (Q : Y → Prop)
    (h : ∀ x, Inv x → (∃ x', once x = some (.inl x') ∧ Inv x' ∧ m x' < m x) ∨ ∃ y, once x = some (.inr y) ∧ Q y) :
    ∀ (n : Nat) (x : X), Inv x → m x < n → ∃ y, iter once n x = some y ∧ Q y := by
  intro n
  induction n with
  | zero => intro x _ h; omega
  | succ n ih =>
    intro x hx hm
    rcases h x hx with ⟨x', h1, h2, h3⟩ | ⟨y, h1, h2⟩
    · rw [iter_step h1]
      exact ih x' h2 (by omega)
    · exact ⟨y, iter_stop h1, h2⟩
/-- A loop that steps through numbered states. -/
theorem iter_seq {X Y : Type} {once : X → Option (X ⊕ Y)} (s : Nat → X) (N : Nat) (h : ∀ i, i < N → once (s i) = some (.inl (s (i + 1)))) (y : Y) (hy : once (s N) = some (.inr y)) :
    ∀ n i, i ≤ N → N - i < n → iter once n (s i) = some y := by
  intro n
  induction n with
  | zero => intro i _ h; omega
  | succ n ih =>
    intro i hi hn
    by_cases e : i = N
    · subst e; exact iter_stop hy
    · rw [iter_step (h i (by omega))]
      exact ih (i + 1) (by omega) (by omega)
theorem iter_mono {X Y : Type} {once once' : X → Option (X ⊕ Y)} (h : ∀ x r, once x = some r → once' x = some r) : ∀ (n m : Nat) (x : X) (y : Y), n ≤ m → iter once n x = some y → iter once' m x = some y := by
  intro n
  induction n with
  | zero => intro m x y _ hx; cases hx
  | succ n ih =>
    intro m x y hm hx
    obtain ⟨m, rfl⟩ : ∃ k, m = k + 1 := ⟨m - 1, by omega⟩
    simp only [iter] at hx ⊢
    obtain ⟨r, h1, h2⟩ := Option.bind_eq_some_iff.1 hx
    rw [h x r h1, Option.bind_some]
    cases r with
    | inl x' => exact ih m x' y (by omega) h2
    | inr y' => exact h2

theorem ct {α : Type} {p : Prop} [Decidable p] (h : p) {a b : α} : cond (decide p) a b = a := by rw [decide_eq_true h]; rfl
theorem cf {α : Type} {p : Prop} [Decidable p] (h : ¬ p) {a b : α} : cond (decide p) a b = b := by rw [decide_eq_false h]; rfl
theorem inb_t {i : Int} {n : Nat} (h : 0 ≤ i) (h' : i < n) : inb i n = true := by unfold inb; simp [h, h']
theorem blt_t {i n : Nat} (h : i < n) : Nat.blt i n = true := Nat.ble_eq_true_of_le h
theorem wrapi {n : Int} (h : -9223372036854775808 ≤ n ∧ n < 9223372036854775808) : IntKind.wrap .i64 n = n := by rw [IntKind.wrap_i64]; omega
theorem wrapu {n : Int} (h : 0 ≤ n ∧ n < 18446744073709551616) : IntKind.wrap .u64 n = n := by
  have : IntKind.wrap .u64 n = n % 18446744073709551616 := by simp [IntKind.wrap, IntKind.bits, IntKind.signed]
  rw [this]; omega
theorem wrap64 (n : Int) : IntKind.u64.wrap n = n % 18446744073709551616 := by simp [IntKind.wrap, IntKind.bits, IntKind.signed]
theorem wrap32 (n : Int) : IntKind.u32.wrap n = n % 4294967296 := by simp [IntKind.wrap, IntKind.bits, IntKind.signed]
theorem wf64 {n : Int} (h : (Lit.int .u64 n).wf = true) : 0 ≤ n ∧ n < 18446744073709551616 := by
  simp [Lit.wf, IntKind.min, IntKind.max, IntKind.bits, IntKind.signed] at h
  omega
theorem wfi64 {n : Int} (h : (Lit.int .i64 n).wf = true) : -9223372036854775808 ≤ n ∧ n < 9223372036854775808 := by
  simp [Lit.wf, IntKind.min, IntKind.max, IntKind.bits, IntKind.signed] at h
  omega
theorem and64 {a b : Nat} (ha : a < 18446744073709551616) (hb : b < 18446744073709551616) : bits .and .u64 a b = ((a &&& b : Nat) : Int) :=
  (bits_nat .u64 64 (by decide) (fun n h0 h1 => by rw [wrap64]; omega) a b ha hb).1
theorem or64 {a b : Nat} (ha : a < 18446744073709551616) (hb : b < 18446744073709551616) : bits .or .u64 a b = ((a ||| b : Nat) : Int) :=
  (bits_nat .u64 64 (by decide) (fun n h0 h1 => by rw [wrap64]; omega) a b ha hb).2
theorem and_lt {a b : Nat} (ha : a < 18446744073709551616) : a &&& b < 18446744073709551616 := Nat.lt_of_le_of_lt Nat.and_le_left ha
theorem or_lt {a b : Nat} (ha : a < 18446744073709551616) (hb : b < 18446744073709551616) : a ||| b < 18446744073709551616 := Nat.or_lt_two_pow (n := 64) ha hb
theorem fdivp (n k : Nat) : Int.fdiv (n : Int) (2 ^ k) = ((n / 2 ^ k : Nat) : Int) := by
  rw [show ((2 : Int) ^ k) = ((2 ^ k : Nat) : Int) by simp, Int.fdiv_eq_ediv_of_nonneg _ (Int.natCast_nonneg _)]
  exact (Int.natCast_ediv _ _).symm
/-- One of 0 to m - 1. -/
def pick (n m : Int) : Int := if Int.tmod n m < 0 then Int.tmod n m + m else Int.tmod n m
theorem pick_bd (n : Int) {m : Int} (h : 0 < m) : 0 ≤ pick n m ∧ pick n m < m := by
  unfold pick
  have h1 : -m < Int.tmod n m := Int.lt_tmod_of_pos n h
  have h2 := Int.tmod_lt_of_pos n h
  split <;> omega
end Go.Pu
