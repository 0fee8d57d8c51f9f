/- One letting out of chapter 25's second law: what is let out is near. No conditions but size. -/
import Derived.Test.YtlaogfkgkpgofaaGi
import Derived.Test.YtlaogfkgkpgofaaDq
namespace Go.Proofs.Ytlaogfkgkpgofaa.Pure
set_option linter.unusedVariables false
set_option linter.unusedSimpArgs false
open Go Go.Ev Go.Lm Go.Pu Go.Dg
def keyOf (x : Spyxlaw25_Raw) : Sgate_Key := ⟨pick x.f_Group 2, pick x.f_Line 3, pick x.f_Period 2, pick x.f_Version 2⟩
theorem Key_eq (k : Nat) (x : Spyxlaw25_Raw) : pyxlaw25_key.f k x = some (keyOf x) := by
  unfold pyxlaw25_key.f keyOf
  rw [Pick_eq k _ (by decide) (by decide), Option.bind_some, Pick_eq k _ (by decide) (by decide), Option.bind_some, Pick_eq k _ (by decide) (by decide), Option.bind_some, Pick_eq k _ (by decide) (by decide), Option.bind_some]
theorem keyOf_range (x : Spyxlaw25_Raw) : KRange (keyOf x) := ⟨pick_bd _ (by decide), pick_bd _ (by decide), pick_bd _ (by decide), pick_bd _ (by decide)⟩
def isUnit (u t : Nat) : Prop := (u = 1 ∧ t = 0) ∨ (u = 25 ∧ t = 0) ∨ (u = 5 ∧ t = 1) ∨ (u = 1 ∧ t = 2)
theorem Rule0_ok {k : Nat} (hk : 602 < k) (x : Spyxlaw25_Raw) (hx : x.f_Bend = 0) : ∃ u t, isUnit u t ∧ ∃ to, pyxlaw25_rule.f k x = some ⟨3, 0, 0, -1, pick x.f_Group 2, pick x.f_Line 3, DV (u : Int) t, to⟩ ∧ (0 ≤ to.f_Set ∧ to.f_Set < 4) := by
  unfold pyxlaw25_rule.f
  have o1 : pyxref1_Of.f k 1 0 = some (DV 1 0) := ROf_DV hk (by omega) 0
  have o2 : pyxref1_Of.f k 25 0 = some (DV 25 0) := ROf_DV hk (by omega) 0
  have o3 : pyxref1_Of.f k 5 1 = some (DV 5 1) := ROf_DV hk (by omega) 1
  have o4 : pyxref1_Of.f k 1 2 = some (DV 1 2) := ROf_DV hk (by omega) 2
  have hp := pick_bd x.f_Unit (m := 4) (by decide)
  have ht := pick_bd x.f_To (m := 4) (by decide)
  have h0 : pick 0 13 = 0 := by decide
  rw [Pick_eq k _ (by decide) (by decide), Option.bind_some, Pick_eq k _ (by decide) (by decide), Option.bind_some, o1, Option.bind_some, o2, Option.bind_some, o3, Option.bind_some, o4, Option.bind_some, Pick_eq k _ (by decide) (by decide), Option.bind_some, inb_t (by omega) (by omega), cond_true, Pick_eq k _ (by decide) (by decide), Option.bind_some, Pick_eq k _ (by decide) (by decide), Option.bind_some, Pick_eq k _ (by decide) (by decide), Option.bind_some, hx, h0]
  have hw : IntKind.wrap .u64 (pick x.f_To 4) = pick x.f_To 4 := wrapu (by omega)
  rw [hw, show ((0 : Int) == 10) = false from rfl, show ((0 : Int) == 11) = false from rfl, show ((0 : Int) == 12) = false from rfl, cond_false, cond_false, cond_false]
  have hm := getD_mem' Sapi_Dec.zero (l := [DV 1 0, DV 25 0, DV 5 1, DV 1 2]) (i := Int.toNat (pick x.f_Unit 4)) (by simp; omega)
  have hu : ∃ u t, isUnit u t ∧ [DV 1 0, DV 25 0, DV 5 1, DV 1 2].getD (Int.toNat (pick x.f_Unit 4)) Sapi_Dec.zero = DV ((u : Nat) : Int) t := by
    generalize [DV 1 0, DV 25 0, DV 5 1, DV 1 2].getD (Int.toNat (pick x.f_Unit 4)) Sapi_Dec.zero = z at *
    simp only [List.mem_cons, List.not_mem_nil, or_false] at hm
    rcases hm with rfl | rfl | rfl | rfl
    · exact ⟨1, 0, .inl ⟨rfl, rfl⟩, rfl⟩
    · exact ⟨25, 0, .inr (.inl ⟨rfl, rfl⟩), rfl⟩
    · exact ⟨5, 1, .inr (.inr (.inl ⟨rfl, rfl⟩)), rfl⟩
    · exact ⟨1, 2, .inr (.inr (.inr ⟨rfl, rfl⟩)), rfl⟩
  obtain ⟨u, t, h1, h2⟩ := hu
  refine ⟨u, t, h1, ⟨pick x.f_To 4, pick (IntKind.wrap .i64 (Int.tdiv x.f_To 4)) 3⟩, ?_, ht⟩
  have h2' : ([(⟨(DV 1 0).f_Neg, ((DV 1 0).f_C.1, (DV 1 0).f_C.2), (DV 1 0).f_Scale⟩ : Sapi_Dec), ⟨(DV 25 0).f_Neg, ((DV 25 0).f_C.1, (DV 25 0).f_C.2), (DV 25 0).f_Scale⟩, ⟨(DV 5 1).f_Neg, ((DV 5 1).f_C.1, (DV 5 1).f_C.2), (DV 5 1).f_Scale⟩, ⟨(DV 1 2).f_Neg, ((DV 1 2).f_C.1, (DV 1 2).f_C.2), (DV 1 2).f_Scale⟩]).getD (Int.toNat (pick x.f_Unit 4)) Sapi_Dec.zero = DV (u : Int) t := h2
  rw [h2']
/-- The number that is let out. -/
def outV (n : Int) (s u t : Nat) : Int := if decide (n < 0) = true then -((tms n s u t * u : Nat) : Int) else ((tms n s u t * u : Nat) : Int)
theorem out_near {n : Int} {s u t : Nat} (hn : n.natAbs < 100000000) (hs : s ≤ 2) (hu : isUnit u t) : (outV n s u t).natAbs ≤ 1000000000000 ∧ 2 * (outV n s u t * 10 ^ (max t s - t) - n * 10 ^ (max t s - s)).natAbs ≤ u * 10 ^ (max t s - t) := by
  have hs' : s = 0 ∨ s = 1 ∨ s = 2 := by omega
  unfold outV tms hev
  rcases hu with ⟨rfl, rfl⟩ | ⟨rfl, rfl⟩ | ⟨rfl, rfl⟩ | ⟨rfl, rfl⟩ <;> rcases hs' with rfl | rfl | rfl <;> simp only [decide_eq_true_eq] <;> (simp only [show max 0 0 - 0 = 0 from rfl, show max 0 1 - 0 = 1 from rfl, show max 0 1 - 1 = 0 from rfl, show max 0 2 - 0 = 2 from rfl, show max 0 2 - 2 = 0 from rfl, show max 1 0 - 1 = 0 from rfl, show max 1 0 - 0 = 1 from rfl, show max 1 1 - 1 = 0 from rfl, show max 1 2 - 1 = 1 from rfl, show max 1 2 - 2 = 0 from rfl, show max 2 0 - 2 = 0 from rfl, show max 2 0 - 0 = 2 from rfl, show max 2 1 - 2 = 0 from rfl, show max 2 1 - 1 = 1 from rfl, show max 2 2 - 2 = 0 from rfl, Nat.pow_zero, Int.pow_zero, Nat.pow_one, show (10 : Nat) ^ 1 = 10 from rfl, show (10 : Nat) ^ 2 = 100 from rfl, show (10 : Int) ^ 1 = 10 from rfl, show (10 : Int) ^ 2 = 100 from rfl, Nat.mul_one, Nat.one_mul, Int.mul_one]) <;> split <;> split <;> omega
end Go.Proofs.Ytlaogfkgkpgofaa.Pure
