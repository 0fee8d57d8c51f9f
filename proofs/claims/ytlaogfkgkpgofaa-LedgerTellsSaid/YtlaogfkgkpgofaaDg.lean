/- Numbers as lists of decimal digits, the lowest first. No conditions. -/
import Derived.Test.YtlaogfkgkpgofaaPu
namespace Go.Dg
set_option linter.unusedVariables false
set_option linter.unusedSimpArgs false
open Go Go.Ev Go.Pu
def V10 : List Int → Int
  | [] => 0
  | d :: t => d + 10 * V10 t
def D10 (l : List Int) : Prop := ∀ z ∈ l, 0 ≤ z ∧ z < 10
def dig (n : Nat) : List Int := if h : n = 0 then [] else ((n % 10 : Nat) : Int) :: dig (n / 10)
termination_by n
decreasing_by omega
theorem dig_0 : dig 0 = [] := by rw [dig]; rfl
theorem dig_pos {n : Nat} (h : n ≠ 0) : dig n = ((n % 10 : Nat) : Int) :: dig (n / 10) := by rw [dig, dif_neg h]
theorem D10_nil : D10 [] := fun z h => by cases h
theorem D10_cons {d : Int} {l : List Int} (h0 : 0 ≤ d) (h1 : d < 10) (h : D10 l) : D10 (d :: l) := by
  intro z hz
  rcases List.mem_cons.1 hz with rfl | hz
  · exact ⟨h0, h1⟩
  · exact h z hz
theorem D10_tail {d : Int} {l : List Int} (h : D10 (d :: l)) : D10 l := fun z hz => h z (List.mem_cons_of_mem _ hz)
theorem D10_head {d : Int} {l : List Int} (h : D10 (d :: l)) : 0 ≤ d ∧ d < 10 := h d List.mem_cons_self
theorem D10_append {a b : List Int} (h : D10 a) (h' : D10 b) : D10 (a ++ b) := by
  intro z hz
  rcases List.mem_append.1 hz with hz | hz
  · exact h z hz
  · exact h' z hz
theorem D10_left {a b : List Int} (h : D10 (a ++ b)) : D10 a := fun z hz => h z (List.mem_append_left _ hz)
theorem D10_getD {l : List Int} (h : D10 l) (i : Nat) : 0 ≤ l.getD i 0 ∧ l.getD i 0 < 10 := by
  rw [List.getD_eq_getElem?_getD]
  by_cases hi : i < l.length
  · rw [List.getElem?_eq_getElem hi, Option.getD_some]; exact h _ (List.getElem_mem hi)
  · rw [List.getElem?_eq_none (by omega)]; exact ⟨by decide, by decide⟩
theorem D10_set {l : List Int} (h : D10 l) (i : Nat) {d : Int} (h0 : 0 ≤ d) (h1 : d < 10) : D10 (l.set i d) := by
  intro z hz
  rcases List.mem_or_eq_of_mem_set hz with hz | rfl
  · exact h z hz
  · exact ⟨h0, h1⟩
theorem D10_replicate (n : Nat) : D10 (List.replicate n 0) := by
  intro z hz
  rw [(List.mem_replicate.1 hz).2]; exact ⟨by decide, by decide⟩
theorem D10_dig (n : Nat) : D10 (dig n) := by
  induction n using Nat.strongRecOn with
  | ind n ih =>
    by_cases h : n = 0
    · subst h; rw [dig_0]; exact D10_nil
    · rw [dig_pos h]; exact D10_cons (by omega) (by omega) (ih _ (by omega))
theorem V10_dig (n : Nat) : V10 (dig n) = n := by
  induction n using Nat.strongRecOn with
  | ind n ih =>
    by_cases h : n = 0
    · subst h; rw [dig_0]; rfl
    · rw [dig_pos h, V10, ih _ (by omega)]; omega
theorem V10_nonneg {l : List Int} (h : D10 l) : 0 ≤ V10 l := by
  induction l with
  | nil => exact Int.le_refl _
  | cons d t ih =>
    have := ih (D10_tail h)
    have := D10_head h
    rw [V10]; omega
theorem V10_append (a b : List Int) : V10 (a ++ b) = V10 a + 10 ^ a.length * V10 b := by
  induction a with
  | nil => simp [V10]
  | cons d t ih => rw [List.cons_append, V10, ih, V10, List.length_cons]; grind
theorem V10_lt {l : List Int} (h : D10 l) : V10 l < 10 ^ l.length := by
  induction l with
  | nil => simp [V10]
  | cons d t ih =>
    have h1 := ih (D10_tail h)
    have h2 := D10_head h
    rw [V10, List.length_cons, Int.pow_succ]; omega
theorem V10_replicate (n : Nat) : V10 (List.replicate n 0) = 0 := by
  induction n with
  | zero => rfl
  | succ n ih => rw [List.replicate_succ, V10, ih]; rfl
theorem V10_set {l : List Int} {i : Nat} (h : i < l.length) (v : Int) : V10 (l.set i v) = V10 l + (v - l.getD i 0) * 10 ^ i := by
  induction l generalizing i with
  | nil => simp at h
  | cons d t ih =>
    cases i with
    | zero => rw [List.set_cons_zero, V10, V10, List.getD_cons_zero]; simp; omega
    | succ i =>
      rw [List.set_cons_succ, V10, V10, ih (by simp at h; omega), List.getD_cons_succ]; grind
/-- What lies from a place on. -/
theorem V10_drop (l : List Int) (i : Nat) : V10 (l.drop i) = l.getD i 0 + 10 * V10 (l.drop (i + 1)) := by
  by_cases h : i < l.length
  · rw [List.drop_eq_getElem_cons h, V10, List.getD_eq_getElem?_getD, List.getElem?_eq_getElem h]; rfl
  · rw [List.drop_eq_nil_of_le (by omega), List.drop_eq_nil_of_le (by omega), List.getD_eq_getElem?_getD, List.getElem?_eq_none (by omega)]; rfl
theorem V10_drop_all {l : List Int} {i : Nat} (h : l.length ≤ i) : V10 (l.drop i) = 0 := by rw [List.drop_eq_nil_of_le h]; rfl
theorem D10_drop {l : List Int} (h : D10 l) (i : Nat) : D10 (l.drop i) := fun z hz => h z (List.mem_of_mem_drop hz)
theorem D10_take {l : List Int} (h : D10 l) (i : Nat) : D10 (l.take i) := fun z hz => h z (List.mem_of_mem_take hz)
theorem V10_split (l : List Int) {i : Nat} (h : i ≤ l.length) : V10 l = V10 (l.take i) + 10 ^ i * V10 (l.drop i) := by
  have := V10_append (l.take i) (l.drop i)
  rw [List.take_append_drop, List.length_take, Nat.min_eq_left h] at this
  exact this
theorem V10_take_lt {l : List Int} (h : D10 l) {i : Nat} (hi : i ≤ l.length) : V10 (l.take i) < 10 ^ i := by
  have := V10_lt (D10_take h i)
  rw [List.length_take, Nat.min_eq_left hi] at this
  exact this
theorem dig_len {n m : Nat} (h : n < 10 ^ m) : (dig n).length ≤ m := by
  induction m generalizing n with
  | zero => rw [show n = 0 by simp at h; exact h, dig_0]; exact Nat.le_refl _
  | succ m ih =>
    by_cases h0 : n = 0
    · rw [h0, dig_0]; exact Nat.zero_le _
    · rw [dig_pos h0, List.length_cons]
      have := ih (n := n / 10) (by rw [Nat.pow_succ] at h; omega)
      omega
theorem dig_lt (n : Nat) : n < 10 ^ (dig n).length := by
  have h := V10_lt (D10_dig n)
  rw [V10_dig, show (10 : Int) ^ (dig n).length = ((10 ^ (dig n).length : Nat) : Int) by simp] at h
  omega
theorem dig_ge {n : Nat} (h : n ≠ 0) : 10 ^ ((dig n).length - 1) ≤ n := by
  induction n using Nat.strongRecOn with
  | ind n ih =>
    rw [dig_pos h, List.length_cons, Nat.add_sub_cancel]
    by_cases h1 : n / 10 = 0
    · rw [h1, dig_0]; simp; omega
    · have h2 := ih (n / 10) (by omega) h1
      have h3 : (dig (n / 10)).length = (dig (n / 10)).length - 1 + 1 := by rw [dig_pos h1, List.length_cons]; omega
      rw [h3, Nat.pow_succ]; omega
/-- A list of digits with no zero at its end is the number's own. -/
theorem dig_of {l : List Int} (h : D10 l) (hl : l.getLast? ≠ some 0) : l = dig (V10 l).toNat := by
  induction l with
  | nil => rw [V10]; exact dig_0.symm
  | cons d t ih =>
    have h0 := D10_head h
    have h1 := V10_nonneg (D10_tail h)
    have ht : t = dig (V10 t).toNat := by
      refine ih (D10_tail h) ?_
      intro hc
      cases t with
      | nil => cases hc
      | cons e u => exact hl (by rw [List.getLast?_cons_cons]; exact hc)
    have hne : (V10 (d :: t)).toNat ≠ 0 := by
      intro hz
      rw [V10] at hz
      have h2 : V10 t = 0 := by omega
      have h3 : d = 0 := by omega
      rw [h2] at ht
      rw [ht, h3] at hl
      exact hl (by rw [show (0 : Int).toNat = 0 from rfl, dig_0]; rfl)
    rw [dig_pos hne, V10]
    have e1 : (((d + 10 * V10 t).toNat % 10 : Nat) : Int) = d := by omega
    have e2 : (d + 10 * V10 t).toNat / 10 = (V10 t).toNat := by omega
    rw [e1, e2, ← ht]
theorem dig_len_lt {a b : Nat} (h : (dig a).length < (dig b).length) : a < b := by
  have hb : b ≠ 0 := by rintro rfl; rw [dig_0] at h; simp at h
  have h1 := dig_lt a
  have h2 := dig_ge hb
  have h3 := Nat.pow_le_pow_right (show 0 < 10 by decide) (show (dig a).length ≤ (dig b).length - 1 by omega)
  omega
theorem inS_t {a b : Int} {n : Nat} (h0 : 0 ≤ a) (h1 : a ≤ b) (h2 : b ≤ n) : inS a b n = true := by unfold inS; simp [h0, h1, h2]
theorem okLen_t {n b : Nat} (h : n * b ≤ 140737488355328) : okLen n b = true := by unfold okLen; simp [h]
end Go.Dg
