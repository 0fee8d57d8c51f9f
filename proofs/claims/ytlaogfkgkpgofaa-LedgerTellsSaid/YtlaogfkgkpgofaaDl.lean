/- What the calls on numbers of two words compute, told by whole numbers. No conditions but that each word is below 2^64. -/
import Derived.Test.YtlaogfkgkpgofaaFs
import Derived.Test.YtlaogfkgkpgofaaLm
import Derived.Test.YtlaogfkgkpgofaaPu
namespace Go.Proofs.Ytlaogfkgkpgofaa.Pure
open Go Go.Ev Go.Lm Go.Pu

def Wd (n : Int) : Prop := 0 ≤ n ∧ n < 18446744073709551616
def W2 (x : Int × Int) : Prop := Wd x.1 ∧ Wd x.2
def N2 (x : Int × Int) : Int := x.1 + 18446744073709551616 * x.2

theorem N2_inj {x y : Int × Int} (hx : W2 x) (hy : W2 y) (h : N2 x = N2 y) : x = y := by
  obtain ⟨⟨a, b⟩, c, d⟩ := hx
  obtain ⟨⟨e, f⟩, g, i⟩ := hy
  unfold N2 at h
  exact Prod.ext (by omega) (by omega)
theorem N2_bd {x : Int × Int} (hx : W2 x) : 0 ≤ N2 x ∧ N2 x < 340282366920938463463374607431768211456 := by
  obtain ⟨⟨a, b⟩, c, d⟩ := hx
  unfold N2
  omega

theorem plus_eq (k : Nat) {a b c : Int} (ha : Wd a) (hb : Wd b) (hc : 0 ≤ c ∧ c ≤ 1) : limb_plus.f k a b c = some ((a + b + c) % 18446744073709551616, (a + b + c) / 18446744073709551616) := by
  unfold limb_plus.f
  have : IntKind.wrap .u64 (IntKind.wrap .u64 (a + b) + c) = (a + b + c) % 18446744073709551616 := by rw [wrap64, wrap64]; omega
  rw [this, carry ha hb hc]
theorem less_eq (k : Nat) {a b c : Int} (ha : Wd a) (hb : Wd b) (hc : 0 ≤ c ∧ c ≤ 1) : limb_less.f k a b c = some ((a - b - c) % 18446744073709551616, -((a - b - c) / 18446744073709551616)) := by
  unfold limb_less.f
  have : IntKind.wrap .u64 (IntKind.wrap .u64 (a - b) - c) = (a - b - c) % 18446744073709551616 := by rw [wrap64, wrap64]; omega
  rw [this, borrow ha hb hc]

/-- A sum: the number, where it fits. -/
theorem Add_eq (k : Nat) {x y : Int × Int} (hx : W2 x) (hy : W2 y) : ∃ z b, limb_Add.f k x y = some (z, b) ∧ W2 z ∧
    (b = true → N2 z = N2 x + N2 y) ∧ (b = false → z = (0, 0)) ∧ (b = true ↔ N2 x + N2 y < 340282366920938463463374607431768211456) := by
  unfold limb_Add.f
  obtain ⟨hx1, hx2⟩ := hx
  obtain ⟨hy1, hy2⟩ := hy
  rw [plus_eq k hx1 hy1 (by omega), Option.bind_some, plus_eq k hx2 hy2 (by obtain ⟨_, _⟩ := hx1; obtain ⟨_, _⟩ := hy1; constructor <;> omega), Option.bind_some]
  obtain ⟨a, b⟩ := x
  obtain ⟨c, d⟩ := y
  obtain ⟨h1, h2⟩ := hx1
  obtain ⟨h3, h4⟩ := hy1
  obtain ⟨h5, h6⟩ := hx2
  obtain ⟨h7, h8⟩ := hy2
  dsimp only at *
  by_cases h : (b + d + (a + c + 0) / 18446744073709551616) / 18446744073709551616 > 0
  · refine ⟨(0, 0), false, (by rw [decide_eq_true h]; rfl), ⟨⟨by decide, by decide⟩, by decide, by decide⟩, fun h => (by cases h), fun _ => rfl, ?_⟩
    unfold N2
    dsimp only
    constructor
    · intro h; cases h
    · intro h'; omega
  · refine ⟨((a + c + 0) % 18446744073709551616, (b + d + (a + c + 0) / 18446744073709551616) % 18446744073709551616), true, (by rw [decide_eq_false h]; rfl), ⟨⟨(by dsimp only; omega), (by dsimp only; omega)⟩, (by dsimp only; omega), (by dsimp only; omega)⟩, fun _ => ?_, fun h => (by cases h), ?_⟩
    · unfold N2
      dsimp only
      omega
    · unfold N2
      dsimp only
      constructor
      · intro _; omega
      · intro _; rfl
theorem Sub_eq (k : Nat) {x y : Int × Int} (hx : W2 x) (hy : W2 y) : ∃ z b, limb_Sub.f k x y = some (z, b) ∧ W2 z ∧
    (b = true → N2 z = N2 x - N2 y) ∧ (b = false → z = (0, 0)) ∧ (b = true ↔ N2 y ≤ N2 x) := by
  unfold limb_Sub.f
  obtain ⟨hx1, hx2⟩ := hx
  obtain ⟨hy1, hy2⟩ := hy
  rw [less_eq k hx1 hy1 (by omega), Option.bind_some, less_eq k hx2 hy2 (by obtain ⟨_, _⟩ := hx1; obtain ⟨_, _⟩ := hy1; constructor <;> omega), Option.bind_some]
  obtain ⟨a, b⟩ := x
  obtain ⟨c, d⟩ := y
  obtain ⟨h1, h2⟩ := hx1
  obtain ⟨h3, h4⟩ := hy1
  obtain ⟨h5, h6⟩ := hx2
  obtain ⟨h7, h8⟩ := hy2
  dsimp only at *
  by_cases h : -((b - d - -((a - c - 0) / 18446744073709551616)) / 18446744073709551616) > 0
  · refine ⟨(0, 0), false, (by rw [decide_eq_true h]; rfl), ⟨⟨by decide, by decide⟩, by decide, by decide⟩, fun h => (by cases h), fun _ => rfl, ?_⟩
    unfold N2
    dsimp only
    constructor
    · intro h; cases h
    · intro h'; omega
  · refine ⟨((a - c - 0) % 18446744073709551616, (b - d - -((a - c - 0) / 18446744073709551616)) % 18446744073709551616), true, (by rw [decide_eq_false h]; rfl), ⟨⟨(by dsimp only; omega), (by dsimp only; omega)⟩, (by dsimp only; omega), (by dsimp only; omega)⟩, fun _ => ?_, fun h => (by cases h), ?_⟩
    · unfold N2
      dsimp only
      omega
    · unfold N2
      dsimp only
      constructor
      · intro _; omega
      · intro _; rfl
/-- Which is the greater. -/
theorem Cmp_eq (k : Nat) {x y : Int × Int} (hx : W2 x) (hy : W2 y) : limb_Cmp.f (k + 3) x y = some (if N2 x < N2 y then -1 else if N2 x = N2 y then 0 else 1) := by
  obtain ⟨a, b⟩ := x
  obtain ⟨c, d⟩ := y
  obtain ⟨⟨h1, h2⟩, h5, h6⟩ := hx
  obtain ⟨⟨h3, h4⟩, h7, h8⟩ := hy
  dsimp only at *
  have o1 : limb_Cmp.l2.once (k + 3) (1, [a, b], [c, d]) = cond (b != d) (cond (decide (b < d)) (some (.inr (.inr (-1)))) (some (.inr (.inr 1)))) (some (.inl (0, [a, b], [c, d]))) := by kernel_rfl
  have o2 : limb_Cmp.l2.once (k + 3) (0, [a, b], [c, d]) = cond (a != c) (cond (decide (a < c)) (some (.inr (.inr (-1)))) (some (.inr (.inr 1)))) (some (.inl (-1, [a, b], [c, d]))) := by kernel_rfl
  have o3 : limb_Cmp.l2.once (k + 3) (-1, [a, b], [c, d]) = some (.inr (.inl ())) := by kernel_rfl
  unfold limb_Cmp.f N2
  dsimp only
  by_cases e1 : b = d
  · subst e1
    rw [show (b != b) = false by simp, cond_false] at o1
    rw [iter_step o1]
    by_cases e2 : a = c
    · subst e2
      rw [show (a != a) = false by simp, cond_false] at o2
      rw [iter_step o2, iter_stop o3]
      simp
    · rw [show (a != c) = true by simp [e2], cond_true] at o2
      by_cases e3 : a < c
      · rw [decide_eq_true e3, cond_true] at o2
        rw [iter_stop o2, if_pos (by omega)]; rfl
      · rw [decide_eq_false e3, cond_false] at o2
        rw [iter_stop o2, if_neg (by omega), if_neg (by omega)]; rfl
  · rw [show (b != d) = true by simp [e1], cond_true] at o1
    by_cases e3 : b < d
    · rw [decide_eq_true e3, cond_true] at o1
      rw [iter_stop o1, if_pos (by omega)]; rfl
    · rw [decide_eq_false e3, cond_false] at o1
      rw [iter_stop o1, if_neg (by omega), if_neg (by omega)]; rfl
end Go.Proofs.Ytlaogfkgkpgofaa.Pure
