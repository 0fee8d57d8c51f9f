/- What the law PeriodBacks computes is true, whatever the numbers. No conditions but that each number is one of its type. -/
import Derived.Test.YtojkgadihooplaaPer
namespace Go.Proofs.Ytojkgadihooplaa.Pure
set_option linter.unusedVariables false
set_option linter.unusedSimpArgs false
open Go Go.Ev Go.Pu
/-- The first n, and no other one. -/
def Pre (n : Nat) (C : List Bool) : Prop := C.length = 12 ∧ ∀ j, j < 12 → C.getD j false = decide (j < n)
theorem getD_set' {α : Type} (l : List α) (i j : Nat) (v d : α) : (l.set i v).getD j d = if i = j ∧ j < l.length then v else l.getD j d := by
  simp only [List.getD_eq_getElem?_getD, List.getElem?_set]
  by_cases h : i = j
  · subst h
    by_cases h2 : i < l.length
    · simp [h2]
    · simp [h2]
  · simp [h]
theorem cOk_pre {n : Nat} (hn : n < 12) {C : List Bool} (h : Pre n C) (p : Int) : cOk C p = decide (p = (n : Int)) := by
  rw [Bool.eq_iff_iff]
  unfold cOk
  simp only [Bool.and_eq_true, decide_eq_true_eq, Bool.or_eq_true, Bool.not_eq_true', decide_eq_false_iff_not]
  constructor
  · rintro ⟨h1, h2, h3, h4⟩
    rw [h.2 _ (by omega), decide_eq_false_iff_not] at h3
    rcases h4 with h4 | h4
    · omega
    · rw [h.2 _ (by omega), decide_eq_true_eq] at h4
      omega
  · rintro rfl
    refine ⟨by omega, by omega, by rw [h.2 _ (by omega), decide_eq_false_iff_not]; omega, ?_⟩
    by_cases h0 : (n : Int) > 0
    · exact .inr (by rw [h.2 _ (by omega), decide_eq_true_eq]; omega)
    · exact .inl h0
theorem rOk_pre {n : Nat} (hn : n < 12) {C : List Bool} (h : Pre n C) (p : Int) : rOk C p = (decide ((n : Int) > 0) && decide (p = (n : Int) - 1)) := by
  rw [Bool.eq_iff_iff]
  unfold rOk
  simp only [Bool.and_eq_true, decide_eq_true_eq, Bool.or_eq_true, Bool.not_eq_true', decide_eq_false_iff_not]
  constructor
  · rintro ⟨h1, h2, h3, h4⟩
    rw [h.2 _ (by omega), decide_eq_true_eq] at h3
    rcases h4 with h4 | h4
    · omega
    · by_cases h5 : p + 1 < 12
      · rw [h.2 _ (by omega), decide_eq_false_iff_not] at h4
        omega
      · omega
  · rintro ⟨h1, rfl⟩
    refine ⟨by omega, by omega, by rw [h.2 _ (by omega), decide_eq_true_eq]; omega, .inr ?_⟩
    rw [h.2 _ (by omega), decide_eq_false_iff_not]
    omega
theorem fill (k : Nat) (hk : 20 < k) {n : Nat} (hn : n < 12) {V : List Int} (hV : V.length = 12) (q : Int) :
    ∃ C, Pre n C ∧ iter (pyxlaw13_PeriodBacks.l4.once k) k (q, (n : Int), 0, V, ⟨F12, V⟩) = some (q, (n : Int), V, ⟨C, V⟩) := by
  obtain ⟨y, h1, h2⟩ := iter_rule (once := pyxlaw13_PeriodBacks.l4.once k) (fun x => ∃ (i : Nat) (C : List Bool), x = (q, (n : Int), (i : Int), V, ⟨C, V⟩) ∧ i ≤ n ∧ Pre i C) (fun x => n - x.2.2.1.toNat)
    (fun y => ∃ C, Pre n C ∧ y = (q, (n : Int), V, ⟨C, V⟩)) (by
    rintro _ ⟨i, C, rfl, hi, hC⟩
    unfold pyxlaw13_PeriodBacks.l4.once
    dsimp only
    by_cases hlt : (i : Int) < (n : Int)
    · left
      rw [ct hlt, inb_t (by omega) (by omega), cond_true, blt_t (by omega), cond_true, pack_eq false hC.1, pack_eq 0 hV, putAll_set, wrapi (by omega), Int.toNat_natCast]
      refine ⟨_, rfl, ⟨i + 1, C.set i true, rfl, by omega, by simp [hC.1], fun j hj => ?_⟩, by dsimp only; omega⟩
      rw [getD_set']
      by_cases e : i = j
      · subst e
        rw [if_pos ⟨rfl, by rw [hC.1]; exact hj⟩, decide_eq_true (by omega)]
      · rw [if_neg (fun h => e h.1), hC.2 j hj]
        congr 1
        rw [eq_iff_iff]
        omega
    · right
      rw [cf hlt, pack_eq false hC.1, pack_eq 0 hV]
      have : i = n := by omega
      subst this
      exact ⟨_, rfl, C, hC, rfl⟩) k (q, (n : Int), 0, V, ⟨F12, V⟩) ⟨0, F12, rfl, by omega, rfl, fun j hj => by
        have : ∀ j : Fin 12, F12.getD j.val false = decide (j.val < 0) := by decide
        exact this ⟨j, hj⟩⟩ (by dsimp only; omega)
  obtain ⟨C, hC, rfl⟩ := h2
  exact ⟨C, hC, h1⟩
theorem look (k : Nat) (hk : 20 < k) {n : Nat} (hn : n < 12) {C : List Bool} (hC : Pre n C) {V : List Int} (hV : V.length = 12) (q g h w : Int) :
    iter (pyxlaw13_PeriodBacks.l15.once k) k (q, (n : Int), g, h, 0, V, ⟨C, V⟩, ⟨C.set n true, V.set n w⟩) = some (.inl (q, (n : Int), g, h)) := by
  obtain ⟨y, h1, h2⟩ := iter_rule (once := pyxlaw13_PeriodBacks.l15.once k) (fun x => ∃ j : Nat, x = (q, (n : Int), g, h, (j : Int), V, ⟨C, V⟩, ⟨C.set n true, V.set n w⟩) ∧ j ≤ 12) (fun x => 12 - x.2.2.2.2.1.toNat)
    (fun y => y = .inl (q, (n : Int), g, h)) (by
    rintro _ ⟨j, rfl, hj⟩
    unfold pyxlaw13_PeriodBacks.l15.once
    dsimp only
    by_cases hlt : (j : Int) < 12
    · left
      refine ⟨(q, (n : Int), g, h, ((j + 1 : Nat) : Int), V, ⟨C, V⟩, ⟨C.set n true, V.set n w⟩), ?_, ⟨j + 1, rfl, by omega⟩, by dsimp only; omega⟩
      have hw := wrapi (show -9223372036854775808 ≤ (j : Int) + 1 ∧ (j : Int) + 1 < 9223372036854775808 by omega)
      have hC2 : (C.set n true).length = 12 := by simp [hC.1]
      have hV2 : (V.set n w).length = 12 := by simp [hV]
      rw [ct hlt, inb_t (by omega) (by omega), blt_t (by omega)]
      simp only [cond_true, pack_eq false hC.1, pack_eq 0 hV, pack_eq false hC2, pack_eq 0 hV2, Int.toNat_natCast, IsOpen_eq hC.1, Option.bind_some]
      have ho : (isO C (j : Int) == C.getD j false) = false := by
        unfold isO
        rw [decide_eq_true (show (0 : Int) ≤ (j : Int) by omega), decide_eq_true hlt, Int.toNat_natCast]
        cases C.getD j false <;> rfl
      rw [ho]
      by_cases e : (j : Int) = (n : Int)
      · rw [show ((j : Int) != (n : Int)) = false by simp [e], cond_false, Option.bind_some]
        dsimp only
        rw [cond_false, hw]
        simp only [pack_eq false hC.1, pack_eq 0 hV, pack_eq false hC2, pack_eq 0 hV2]
        rfl
      · rw [show ((j : Int) != (n : Int)) = true by simp [e], cond_true]
        rw [getD_set', getD_set', if_neg (fun h => e (by omega)), if_neg (fun h => e (by omega)), bne_self_eq_false, cond_false, beq_self_eq_true, Bool.not_true, cond_false, Option.bind_some]
        dsimp only
        rw [cond_false, hw]
        simp only [pack_eq false hC.1, pack_eq 0 hV, pack_eq false hC2, pack_eq 0 hV2]
        rfl
    · right
      rw [cf hlt]
      exact ⟨_, rfl, rfl⟩) k (q, (n : Int), g, h, 0, V, ⟨C, V⟩, ⟨C.set n true, V.set n w⟩) ⟨0, rfl, by omega⟩ (by dsimp only; omega)
  rw [h1, h2]
theorem PeriodBacks (closed : Int) (_h0 : (Lit.int .i64 closed).wf = true) (V : List Int) (hV : V.length = 12 ∧ ∀ z ∈ V, (Lit.int .i64 z).wf = true) (p : Int) (_h1 : (Lit.int .i64 p).wf = true) : ∃ k, pyxlaw13_PeriodBacks.f k closed V p = some true := by
  refine ⟨300, ?_⟩
  unfold pyxlaw13_PeriodBacks.f
  rw [Pick_eq _ _ (by decide) (by decide), Option.bind_some]
  have hb := pick_bd closed (show (0 : Int) < 12 by decide)
  obtain ⟨n, hn⟩ := Int.eq_ofNat_of_zero_le hb.1
  rw [hn] at hb ⊢
  have hn12 : n < 12 := by omega
  have hV1 := hV.1
  obtain ⟨C, hC, hf⟩ := fill 300 (by decide) hn12 hV1 p
  unfold F12 at hf
  simp only [pack_eq 0 hV1]
  rw [hf, Option.bind_some]
  simp only [pack_eq false hC.1, pack_eq 0 hV1]
  have e1 : clo C V (n : Int) = (C.set n true, V.set n (IntKind.wrap .i64 (V.getD n 0 + 1)), 0) := by
    unfold clo
    rw [if_pos (by rw [cOk_pre hn12 hC]; simp), Int.toNat_natCast]
  generalize hwd : IntKind.wrap .i64 (V.getD n 0 + 1) = w at e1
  have hC2 : (C.set n true).length = 12 := by simp [hC.1]
  have hV2 : (V.set n w).length = 12 := by simp [hV1]
  have hback : (C.set n true).set n false = C := by
    rw [List.set_set]
    apply List.ext_getElem?
    intro j
    rw [List.getElem?_set]
    split
    · rename_i e
      subst e
      have := hC.2 n hn12
      rw [List.getD_eq_getElem?_getD, List.getElem?_eq_getElem (by rw [hC.1]; exact hn12)] at this
      rw [if_pos (by rw [hC.1]; exact hn12), List.getElem?_eq_getElem (by rw [hC.1]; exact hn12)]
      simp at this
      simp [this]
    · rfl
  have e2 : reo (C.set n true) (V.set n w) (n : Int) = (C, V.set n w, 0) := by
    unfold reo
    have hr : rOk (C.set n true) (n : Int) = true := by
      unfold rOk
      rw [decide_eq_true (show (0 : Int) ≤ (n : Int) by omega), decide_eq_true hb.2, Int.toNat_natCast, getD_set', if_pos ⟨rfl, by rw [hC.1]; exact hn12⟩]
      by_cases h1 : (n : Int) + 1 < 12
      · rw [getD_set', if_neg (by omega), hC.2 _ (by omega), decide_eq_false (show ¬ ((n : Int) + 1).toNat < n by omega)]
        simp
      · simp [h1]
    rw [if_pos hr, Int.toNat_natCast, hback]
  rw [Close_eq hC.1 hV1 300 (by omega), e1, Option.bind_some]
  simp only [pack_eq false hC2, pack_eq 0 hV2]
  rw [Reopen_eq hC2 hV2 300 (by omega), e2, Option.bind_some]
  simp only [known13, Option.bind_some, Bool.not_true, cond_false, bne_self_eq_false, beq_self_eq_true, Bool.and_self, Int.toNat_natCast]
  rw [inb_t (show (0 : Int) ≤ (n : Int) by omega) (by omega), blt_t hn12]
  simp only [cond_true]
  rw [getD_set', if_pos ⟨rfl, by rw [hV1]; exact hn12⟩, hwd, bne_self_eq_false, Option.bind_some]
  simp only [pack_eq false hC.1, pack_eq 0 hV1, pack_eq false hC2, pack_eq 0 hV2, cond_false]
  rw [Pick_eq _ _ (by decide) (by decide), Option.bind_some]
  have hp := pick_bd p (show (0 : Int) < 14 by decide)
  generalize pick p 14 = r at hp ⊢
  have hw := wrapi (show -9223372036854775808 ≤ r - 1 ∧ r - 1 < 9223372036854775808 by omega)
  have hw2 := wrapi (show -9223372036854775808 ≤ (n : Int) - 1 ∧ (n : Int) - 1 < 9223372036854775808 by omega)
  rw [hw, Close_eq hC.1 hV1 300 (by omega), Option.bind_some, Reopen_eq hC.1 hV1 300 (by omega), Option.bind_some]
  dsimp only
  rw [look 300 (by decide) hn12 hC hV1, Option.bind_some]
  dsimp only
  rw [hw2]
  have g1 : ((clo C V (r - 1)).2.2 == 0) = decide (r - 1 = (n : Int)) := by
    unfold clo
    rw [cOk_pre hn12 hC]
    by_cases h : r - 1 = (n : Int)
    · simp [h]
    · simp [h]
  have g2 : ((reo C V (r - 1)).2.2 == 0) = (decide ((n : Int) > 0) && decide (r - 1 = (n : Int) - 1)) := by
    unfold reo
    rw [rOk_pre hn12 hC]
    cases h : (decide ((n : Int) > 0) && decide (r - 1 = (n : Int) - 1)) <;> simp
  rw [g1, g2]
  have g3 : (r - 1 == (n : Int)) = decide (r - 1 = (n : Int)) := by rw [Bool.eq_iff_iff]; simp
  have g4 : (r - 1 == (n : Int) - 1) = decide (r - 1 = (n : Int) - 1) := by rw [Bool.eq_iff_iff]; simp
  rw [g3, g4, beq_self_eq_true, cond_true]
  by_cases h : (n : Int) > 0
  · rw [ct h, decide_eq_true h, Bool.true_and, beq_self_eq_true]
  · rw [cf h, decide_eq_false h, Bool.false_and, beq_self_eq_true]
end Go.Proofs.Ytojkgadihooplaa.Pure
