/- What the calls on periods compute, told by lists. No conditions but that the lists are of twelve. -/
import Derived.Test.YtlaogfkgkpgofaaFs
import Derived.Test.YtlaogfkgkpgofaaPu
namespace Go.Proofs.Ytlaogfkgkpgofaa.Pe
set_option linter.unusedVariables false
set_option linter.unusedSimpArgs false
open Go Go.Ev Go.Pu

def F12 : List Bool := [false, false, false, false, false, false, false, false, false, false, false, false]
def Z12 : List Int := [0, 0, 0, 0, 0, 0, 0, 0, 0, 0, 0, 0]
def cOk (C : List Bool) (p : Int) : Bool := decide (0 ≤ p) && (decide (p < 12) && (!C.getD p.toNat false && (!decide (p > 0) || C.getD (p - 1).toNat false)))
def rOk (C : List Bool) (p : Int) : Bool := decide (0 ≤ p) && (decide (p < 12) && (C.getD p.toNat false && (!decide (p + 1 < 12) || !C.getD (p + 1).toNat false)))
def clo (C : List Bool) (V : List Int) (p : Int) : List Bool × List Int × Int := if cOk C p = true then (C.set p.toNat true, V.set p.toNat (IntKind.wrap .i64 (V.getD p.toNat 0 + 1)), 0) else (F12, Z12, 8)
def reo (C : List Bool) (V : List Int) (p : Int) : List Bool × List Int × Int := if rOk C p = true then (C.set p.toNat false, V, 0) else (F12, Z12, 8)
def isO (C : List Bool) (p : Int) : Bool := decide (0 ≤ p) && (decide (p < 12) && !C.getD p.toNat false)

theorem clo_len {C : List Bool} {V : List Int} (hC : C.length = 12) (hV : V.length = 12) (p : Int) : (clo C V p).1.length = 12 ∧ (clo C V p).2.1.length = 12 := by
  unfold clo
  split
  · simp [hC, hV]
  · exact ⟨rfl, rfl⟩
theorem reo_len {C : List Bool} {V : List Int} (hC : C.length = 12) (hV : V.length = 12) (p : Int) : (reo C V p).1.length = 12 ∧ (reo C V p).2.1.length = 12 := by
  unfold reo
  split
  · simp [hC, hV]
  · exact ⟨rfl, rfl⟩

theorem is_eq (k : Nat) (p : Int) : period_is.f k p = some (decide (0 ≤ p) && decide (p < 12)) := by
  unfold period_is.f
  by_cases h : p ≥ 0
  · rw [ct h]; simp [h]
  · rw [cf h]; simp; omega
theorem ris_eq (k : Nat) (p : Int) : pyxref11_is.f k p = some (decide (0 ≤ p) && decide (p < 12)) := by
  unfold pyxref11_is.f
  by_cases h : p ≥ 0
  · rw [ct h]; simp [h]
  · rw [cf h]; simp; omega

section
variable {C : List Bool} {V : List Int} (hC : C.length = 12) (hV : V.length = 12) (k : Nat) {p : Int} (hp : -1000 ≤ p ∧ p ≤ 1000)
include hC
theorem IsOpen_eq (p : Int) : period_IsOpen.f k ⟨C, V⟩ p = some (isO C p) := by
  unfold period_IsOpen.f isO
  rw [is_eq, Option.bind_some]
  simp only [pack_eq false hC]
  by_cases h : 0 ≤ p ∧ p < 12
  · rw [decide_eq_true h.1, decide_eq_true h.2, inb_t h.1 (by omega), blt_t (by omega)]; rfl
  · by_cases h1 : 0 ≤ p
    · rw [decide_eq_false (show ¬ p < 12 by omega)]; simp
    · rw [decide_eq_false h1]; simp
theorem RIsOpen_eq (p : Int) : pyxref11_Table_IsOpen.f k ⟨C, V⟩ p = some (isO C p) := by
  unfold pyxref11_Table_IsOpen.f isO
  rw [ris_eq, Option.bind_some]
  simp only [pack_eq false hC]
  by_cases h : 0 ≤ p ∧ p < 12
  · rw [decide_eq_true h.1, decide_eq_true h.2, inb_t h.1 (by omega), blt_t (by omega)]; rfl
  · by_cases h1 : 0 ≤ p
    · rw [decide_eq_false (show ¬ p < 12 by omega)]; simp
    · rw [decide_eq_false h1]; simp
include hV hp
theorem Close_eq : period_Close.f k ⟨C, V⟩ p = some (⟨(clo C V p).1, (clo C V p).2.1⟩, (clo C V p).2.2) := by
  unfold period_Close.f
  simp only [pack_eq false hC, pack_eq 0 hV]
  rw [IsOpen_eq hC, Option.bind_some, wrapi (by omega)]
  unfold clo
  by_cases h0 : isO C p = true
  · rw [h0, show (!true) = false by rfl, cond_false]
    have hb : 0 ≤ p ∧ p < 12 ∧ C.getD p.toNat false = false := by
      unfold isO at h0
      simp only [Bool.and_eq_true, decide_eq_true_eq, Bool.not_eq_true'] at h0
      exact h0
    by_cases h1 : p > 0
    · rw [ct h1, inb_t (by omega) (by omega), cond_true, blt_t (by omega), cond_true, Option.bind_some]
      dsimp only
      cases h2 : C.getD (p - 1).toNat false with
      | true =>
        have hc : cOk C p = true := by unfold cOk; rw [hb.2.2, h2, decide_eq_true hb.1, decide_eq_true hb.2.1]; simp
        rw [if_pos hc, show (!true) = false by rfl, cond_false, inb_t hb.1 (by omega), blt_t (by omega)]
        simp only [cond_true, pack_eq false hC, pack_eq 0 hV, putAll_set]
      | false =>
        have hc : ¬ cOk C p = true := by unfold cOk; rw [h2, decide_eq_true h1]; simp
        rw [if_neg hc]
        rfl
    · rw [cf h1, Option.bind_some]
      have hc : cOk C p = true := by unfold cOk; rw [hb.2.2, decide_eq_true hb.1, decide_eq_true hb.2.1, decide_eq_false h1]; simp
      rw [if_pos hc]
      dsimp only
      rw [cond_false, inb_t hb.1 (by omega), blt_t (by omega)]
      simp only [cond_true, pack_eq false hC, pack_eq 0 hV, putAll_set]
  · rw [Bool.not_eq_true] at h0
    have hc : ¬ cOk C p = true := by
      intro h
      unfold cOk at h
      unfold isO at h0
      simp only [Bool.and_eq_true] at h
      rw [h.1, h.2.1, h.2.2.1] at h0
      cases h0
    rw [h0, if_neg hc]
    rfl
theorem RClose_eq : pyxref11_Table_Close.f k ⟨C, V⟩ p = some (⟨(clo C V p).1, (clo C V p).2.1⟩, (clo C V p).2.2) := by
  unfold pyxref11_Table_Close.f
  simp only [pack_eq false hC, pack_eq 0 hV]
  rw [ris_eq, Option.bind_some, wrapi (by omega)]
  unfold clo
  by_cases hb : 0 ≤ p ∧ p < 12
  · rw [decide_eq_true hb.1, decide_eq_true hb.2, Bool.true_and, show (!true) = false by rfl, cond_false, inb_t hb.1 (by omega), blt_t (by omega), cond_true, cond_true]
    cases h0 : C.getD p.toNat false with
    | true =>
      have hc : ¬ cOk C p = true := by unfold cOk; rw [h0]; simp
      rw [if_neg hc]
      rfl
    | false =>
      rw [cond_false]
      by_cases h1 : p > 0
      · rw [ct h1, inb_t (by omega) (by omega), cond_true, blt_t (by omega), cond_true, Option.bind_some]
        dsimp only
        cases h2 : C.getD (p - 1).toNat false with
        | true =>
          have hc : cOk C p = true := by unfold cOk; rw [h0, h2, decide_eq_true hb.1, decide_eq_true hb.2]; simp
          rw [if_pos hc, show (!true) = false by rfl, cond_false, inb_t hb.1 (by omega), blt_t (by omega)]
          simp only [cond_true, pack_eq false hC, pack_eq 0 hV, putAll_set]
        | false =>
          have hc : ¬ cOk C p = true := by unfold cOk; rw [h2, decide_eq_true h1]; simp
          rw [if_neg hc]
          rfl
      · rw [cf h1, Option.bind_some]
        have hc : cOk C p = true := by unfold cOk; rw [h0, decide_eq_true hb.1, decide_eq_true hb.2, decide_eq_false h1]; simp
        rw [if_pos hc]
        dsimp only
        rw [cond_false, inb_t hb.1 (by omega), blt_t (by omega)]
        simp only [cond_true, pack_eq false hC, pack_eq 0 hV, putAll_set]
  · have h : (decide (0 ≤ p) && decide (p < 12)) = false := by rw [Bool.eq_false_iff]; intro h; simp at h; exact hb h
    have hc : ¬ cOk C p = true := by
      intro h'
      unfold cOk at h'
      simp only [Bool.and_eq_true, decide_eq_true_eq] at h'
      exact hb ⟨h'.1, h'.2.1⟩
    rw [h, if_neg hc]
    rfl
theorem Reopen_eq : period_Reopen.f k ⟨C, V⟩ p = some (⟨(reo C V p).1, (reo C V p).2.1⟩, (reo C V p).2.2) := by
  unfold period_Reopen.f
  simp only [pack_eq false hC, pack_eq 0 hV]
  rw [is_eq, Option.bind_some, wrapi (by omega)]
  unfold reo
  by_cases hb : 0 ≤ p ∧ p < 12
  · rw [decide_eq_true hb.1, decide_eq_true hb.2, Bool.true_and, show (!true) = false by rfl, cond_false, inb_t hb.1 (by omega), blt_t (by omega), cond_true, cond_true]
    cases h0 : C.getD p.toNat false with
    | false =>
      have hc : ¬ rOk C p = true := by unfold rOk; rw [h0]; simp
      rw [if_neg hc]
      rfl
    | true =>
      rw [show (!true) = false by rfl, cond_false, is_eq, Option.bind_some, decide_eq_true (show 0 ≤ p + 1 by omega), Bool.true_and]
      by_cases h1 : p + 1 < 12
      · rw [decide_eq_true h1, cond_true, inb_t (by omega) (by omega), cond_true, blt_t (by omega), cond_true, Option.bind_some]
        dsimp only
        cases h2 : C.getD (p + 1).toNat false with
        | false =>
          have hc : rOk C p = true := by unfold rOk; rw [h0, h2, decide_eq_true hb.1, decide_eq_true hb.2]; simp
          rw [if_pos hc, cond_false, inb_t hb.1 (by omega), blt_t (by omega)]
          simp only [cond_true, pack_eq false hC, pack_eq 0 hV, putAll_set]
        | true =>
          have hc : ¬ rOk C p = true := by unfold rOk; rw [h2, decide_eq_true h1]; simp
          rw [if_neg hc]
          rfl
      · rw [decide_eq_false h1, cond_false, Option.bind_some]
        have hc : rOk C p = true := by unfold rOk; rw [h0, decide_eq_true hb.1, decide_eq_true hb.2, decide_eq_false h1]; simp
        rw [if_pos hc]
        dsimp only
        rw [cond_false, inb_t hb.1 (by omega), blt_t (by omega)]
        simp only [cond_true, pack_eq false hC, pack_eq 0 hV, putAll_set]
  · have h : (decide (0 ≤ p) && decide (p < 12)) = false := by rw [Bool.eq_false_iff]; intro h; simp at h; exact hb h
    have hc : ¬ rOk C p = true := by
      intro h'
      unfold rOk at h'
      simp only [Bool.and_eq_true, decide_eq_true_eq] at h'
      exact hb ⟨h'.1, h'.2.1⟩
    rw [h, if_neg hc]
    rfl
theorem RReopen_eq : pyxref11_Table_Reopen.f k ⟨C, V⟩ p = some (⟨(reo C V p).1, (reo C V p).2.1⟩, (reo C V p).2.2) := by
  unfold pyxref11_Table_Reopen.f
  simp only [pack_eq false hC, pack_eq 0 hV]
  rw [ris_eq, Option.bind_some, wrapi (by omega)]
  unfold reo
  by_cases hb : 0 ≤ p ∧ p < 12
  · rw [decide_eq_true hb.1, decide_eq_true hb.2, Bool.true_and, show (!true) = false by rfl, cond_false, inb_t hb.1 (by omega), blt_t (by omega), cond_true, cond_true]
    cases h0 : C.getD p.toNat false with
    | false =>
      have hc : ¬ rOk C p = true := by unfold rOk; rw [h0]; simp
      rw [if_neg hc]
      rfl
    | true =>
      rw [show (!true) = false by rfl, cond_false]
      by_cases h1 : p + 1 < 12
      · rw [ct h1, inb_t (by omega) (by omega), cond_true, blt_t (by omega), cond_true, Option.bind_some]
        dsimp only
        cases h2 : C.getD (p + 1).toNat false with
        | false =>
          have hc : rOk C p = true := by unfold rOk; rw [h0, h2, decide_eq_true hb.1, decide_eq_true hb.2]; simp
          rw [if_pos hc, cond_false, inb_t hb.1 (by omega), blt_t (by omega)]
          simp only [cond_true, pack_eq false hC, pack_eq 0 hV, putAll_set]
        | true =>
          have hc : ¬ rOk C p = true := by unfold rOk; rw [h2, decide_eq_true h1]; simp
          rw [if_neg hc]
          rfl
      · rw [cf h1, Option.bind_some]
        have hc : rOk C p = true := by unfold rOk; rw [h0, decide_eq_true hb.1, decide_eq_true hb.2, decide_eq_false h1]; simp
        rw [if_pos hc]
        dsimp only
        rw [cond_false, inb_t hb.1 (by omega), blt_t (by omega)]
        simp only [cond_true, pack_eq false hC, pack_eq 0 hV, putAll_set]
  · have h : (decide (0 ≤ p) && decide (p < 12)) = false := by rw [Bool.eq_false_iff]; intro h; simp at h; exact hb h
    have hc : ¬ rOk C p = true := by
      intro h'
      unfold rOk at h'
      simp only [Bool.and_eq_true, decide_eq_true_eq] at h'
      exact hb ⟨h'.1, h'.2.1⟩
    rw [h, if_neg hc]
    rfl
end
end Go.Proofs.Ytlaogfkgkpgofaa.Pe
