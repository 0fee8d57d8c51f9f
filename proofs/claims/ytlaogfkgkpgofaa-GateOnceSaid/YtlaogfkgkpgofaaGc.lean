/- The raw rules and keys of chapter 25's laws. No conditions but size. -/
import Derived.Test.YtlaogfkgkpgofaaGm
namespace Go.Proofs.Ytlaogfkgkpgofaa.Pure
set_option linter.unusedVariables false
set_option linter.unusedSimpArgs false
open Go Go.Ev Go.Lm Go.Pu Go.Dg
theorem getD_mem' {α : Type} {l : List α} {i : Nat} (d : α) (h : i < l.length) : l.getD i d ∈ l := by
  rw [List.getD_eq_getElem?_getD, List.getElem?_eq_getElem h]
  exact List.getElem_mem h
theorem HDec_ok {k : Nat} (hk : 602 < k) {n s b : Int} (hn : -9223372036854775808 ≤ n ∧ n < 9223372036854775808) : ∃ d, pyxhand_Dec.f k n s b = some d ∧ W2 d.f_C := by
  unfold pyxhand_Dec.f
  have W2_wrap : ∀ (a b : Int), W2 (IntKind.wrap .u64 a, IntKind.wrap .u64 b) := by
    intro a b
    rw [wrap64, wrap64]
    unfold W2 Wd
    dsimp only
    omega
  have of : ∀ (x y : Int), -9223372036854775808 ≤ x ∧ x < 9223372036854775808 → ∃ d, ((pyxref1_Of.f k x y).bind fun t7 => (some (⟨t7.f_Neg, (t7.f_C.1, t7.f_C.2), t7.f_Scale⟩ : Sapi_Dec))) = some d ∧ W2 d.f_C := by
    intro x y hx
    rw [ROf_DV hk hx, Option.bind_some]
    exact ⟨_, rfl, Sm_w2 (by unfold Sm; omega)⟩
  rw [Pick_eq k b (by decide) (by decide), Option.bind_some]
  cases (pick b 11 == 0)
  · rw [cond_false]
    cases (pick b 11 == 1)
    · rw [cond_false]
      cases (pick b 11 == 2)
      · rw [cond_false]
        cases (pick b 11 == 3)
        · rw [cond_false, Pick_eq k n (by decide) (by decide), Option.bind_some, Pick_eq k s (by decide) (by decide), Option.bind_some]
          have hb := pick_bd n (m := 2000000) (by decide)
          rw [wrapi (by omega)]
          exact of _ _ (by omega)
        · rw [cond_true, Pick_eq k s (by decide) (by decide), Option.bind_some]
          exact of _ _ hn
      · rw [cond_true, Pick_eq k n (by decide) (by decide), Option.bind_some, Pick_eq k s (by decide) (by decide), Option.bind_some]
        have hb := pick_bd n (m := 7) (by decide)
        rw [wrapi (by omega)]
        exact of _ _ (by omega)
    · rw [cond_true, Pick_eq k s (by decide) (by decide), Option.bind_some, Pick_eq k _ (by decide) (by decide), Option.bind_some]
      exact ⟨_, rfl, W2_wrap _ _⟩
  · rw [cond_true, Pick_eq k n (by decide) (by decide), Option.bind_some]
    exact ⟨_, rfl, W2_wrap _ _⟩
def KRange (k : Sgate_Key) : Prop := (0 ≤ k.f_Group ∧ k.f_Group < 2) ∧ (0 ≤ k.f_Line ∧ k.f_Line < 3) ∧ (0 ≤ k.f_Period ∧ k.f_Period < 2) ∧ (0 ≤ k.f_Version ∧ k.f_Version < 2)
theorem Key_ok (k : Nat) (x : Spyxlaw25_Raw) : ∃ key, pyxlaw25_key.f k x = some key ∧ KRange key := by
  unfold pyxlaw25_key.f
  rw [Pick_eq k _ (by decide) (by decide), Option.bind_some, Pick_eq k _ (by decide) (by decide), Option.bind_some, Pick_eq k _ (by decide) (by decide), Option.bind_some, Pick_eq k _ (by decide) (by decide), Option.bind_some]
  exact ⟨_, rfl, pick_bd _ (by decide), pick_bd _ (by decide), pick_bd _ (by decide), pick_bd _ (by decide)⟩
theorem Rule_ok {k : Nat} (hk : 602 < k) (x : Spyxlaw25_Raw) (hn : -9223372036854775808 ≤ x.f_N ∧ x.f_N < 9223372036854775808) : ∃ r, pyxlaw25_rule.f k x = some r ∧ W2 r.f_Unit.f_C ∧ (0 ≤ r.f_To.f_Set ∧ r.f_To.f_Set < 4) := by
  unfold pyxlaw25_rule.f
  have o1 : pyxref1_Of.f k 1 0 = some (DV 1 0) := ROf_DV hk (by omega) 0
  have o2 : pyxref1_Of.f k 25 0 = some (DV 25 0) := ROf_DV hk (by omega) 0
  have o3 : pyxref1_Of.f k 5 1 = some (DV 5 1) := ROf_DV hk (by omega) 1
  have o4 : pyxref1_Of.f k 1 2 = some (DV 1 2) := ROf_DV hk (by omega) 2
  have hp := pick_bd x.f_Unit (m := 4) (by decide)
  have ht := pick_bd x.f_To (m := 4) (by decide)
  rw [Pick_eq k _ (by decide) (by decide), Option.bind_some, Pick_eq k _ (by decide) (by decide), Option.bind_some, o1, Option.bind_some, o2, Option.bind_some, o3, Option.bind_some, o4, Option.bind_some, Pick_eq k _ (by decide) (by decide), Option.bind_some, inb_t (by omega) (by omega), cond_true, Pick_eq k _ (by decide) (by decide), Option.bind_some, Pick_eq k _ (by decide) (by decide), Option.bind_some, Pick_eq k _ (by decide) (by decide), Option.bind_some]
  have hw : IntKind.wrap .u64 (pick x.f_To 4) = pick x.f_To 4 := wrapu (by omega)
  have hu : W2 ([DV 1 0, DV 25 0, DV 5 1, DV 1 2].getD (Int.toNat (pick x.f_Unit 4)) Sapi_Dec.zero).f_C := by
    have hm := getD_mem' Sapi_Dec.zero (l := [DV 1 0, DV 25 0, DV 5 1, DV 1 2]) (i := Int.toNat (pick x.f_Unit 4)) (by simp; omega)
    generalize [DV 1 0, DV 25 0, DV 5 1, DV 1 2].getD (Int.toNat (pick x.f_Unit 4)) Sapi_Dec.zero = z at *
    simp only [List.mem_cons, List.not_mem_nil, or_false] at hm
    rcases hm with rfl | rfl | rfl | rfl <;> exact Sm_w2 (by unfold Sm; decide)
  rw [hw]
  cases (pick x.f_Bend 13 == 10)
  · rw [cond_false]
    cases (pick x.f_Bend 13 == 11)
    · rw [cond_false]
      cases (pick x.f_Bend 13 == 12)
      · rw [cond_false]
        exact ⟨_, rfl, hu, ht⟩
      · obtain ⟨d, d1, d2⟩ := HDec_ok hk (s := x.f_Scale) (b := IntKind.wrap .i64 (Int.tdiv x.f_Bend 13)) hn
        rw [cond_true, d1, Option.bind_some]
        exact ⟨_, rfl, d2, ht⟩
    · rw [cond_true]
      exact ⟨_, rfl, hu, ht⟩
  · rw [cond_true, Pick_eq k _ (by decide) (by decide), Option.bind_some]
    exact ⟨_, rfl, hu, ht⟩
end Go.Proofs.Ytlaogfkgkpgofaa.Pure
