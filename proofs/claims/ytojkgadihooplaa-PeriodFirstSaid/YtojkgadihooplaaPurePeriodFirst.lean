/- What the law PeriodFirst computes is true, whatever the numbers. No conditions but that each number is one of its type. -/
import Derived.Test.YtojkgadihooplaaPer
namespace Go.Proofs.Ytojkgadihooplaa.Pure
set_option linter.unusedVariables false
set_option linter.unusedSimpArgs false
open Go Go.Ev Go.Pu
/-- The closed ones are the first ones. -/
def Fst (C : List Bool) : Prop := ∀ j, 0 < j → j < 12 → C.getD j false = true → C.getD (j - 1) false = true
theorem getD_set {α : Type} (l : List α) (i j : Nat) (v d : α) : (l.set i v).getD j d = if i = j ∧ j < l.length then v else l.getD j d := by
  simp only [List.getD_eq_getElem?_getD, List.getElem?_set]
  by_cases h : i = j
  · subst h
    by_cases h2 : i < l.length
    · simp [h2]
    · simp [h2]
  · simp [h]
theorem clo_fst {C : List Bool} {V : List Int} (hC : C.length = 12) (hF : Fst C) {p : Int} (h : (clo C V p).2.2 = 0) : cOk C p = true ∧ Fst (C.set p.toNat true) := by
  unfold clo at h
  split at h
  · rename_i hc
    refine ⟨hc, fun j h0 h1 h2 => ?_⟩
    unfold cOk at hc
    simp only [Bool.and_eq_true, decide_eq_true_eq, Bool.or_eq_true, Bool.not_eq_true', decide_eq_false_iff_not] at hc
    rw [getD_set] at h2 ⊢
    by_cases e : p.toNat = j - 1 ∧ j - 1 < C.length
    · rw [if_pos e]
    · rw [if_neg e]
      by_cases e2 : p.toNat = j ∧ j < C.length
      · have := hc.2.2.2
        rcases this with h3 | h3
        · omega
        · rw [show (p - 1).toNat = j - 1 by omega] at h3
          exact h3
      · rw [if_neg e2] at h2
        exact hF j h0 h1 h2
  · cases h
theorem reo_fst {C : List Bool} {V : List Int} (hF : Fst C) {p : Int} (h : (reo C V p).2.2 = 0) : Fst (reo C V p).1 ∧ (reo C V p).2.1 = V := by
  unfold reo at h ⊢
  split at h
  · rename_i hc
    rw [if_pos hc]
    refine ⟨fun j h0 h1 h2 => ?_, rfl⟩
    unfold rOk at hc
    simp only [Bool.and_eq_true, decide_eq_true_eq, Bool.or_eq_true, Bool.not_eq_true', decide_eq_false_iff_not] at hc
    dsimp only at h2 ⊢
    rw [getD_set] at h2 ⊢
    have hj : ¬ (p.toNat = j ∧ j < C.length) := fun e => by rw [if_pos e] at h2; cases h2
    rw [if_neg hj] at h2
    by_cases e : p.toNat = j - 1 ∧ j - 1 < C.length
    · rcases hc.2.2.2 with h3 | h3
      · omega
      · rw [show (p + 1).toNat = j by omega, h2] at h3
        cases h3
    · rw [if_neg e]
      exact hF j h0 h1 h2
  · cases h
theorem inner (k : Nat) (hk : 20 < k) {C : List Bool} {V c : List Int} (hC : C.length = 12) (hV : V.length = 12) (hF : Fst C) (l : List Int) (n i : Int) :
    iter (pyxlaw13_PeriodFirst.l16.once k) k (1, l, n, i, ⟨C, V⟩, c) = some (.inl (l, n, i, ⟨C, V⟩, c)) := by
  obtain ⟨y, h1, h2⟩ := iter_rule (once := pyxlaw13_PeriodFirst.l16.once k) (fun x => ∃ j : Nat, x = ((j : Int), l, n, i, ⟨C, V⟩, c) ∧ 0 < j ∧ j ≤ 12) (fun x => 12 - x.1.toNat) (fun y => y = .inl (l, n, i, ⟨C, V⟩, c)) (by
    rintro _ ⟨j, rfl, h0, hj⟩
    unfold pyxlaw13_PeriodFirst.l16.once
    dsimp only
    by_cases hlt : (j : Int) < 12
    · left
      refine ⟨(((j + 1 : Nat) : Int), l, n, i, ⟨C, V⟩, c), ?_, ⟨j + 1, rfl, by omega, by omega⟩, by dsimp only; omega⟩
      rw [ct hlt, inb_t (by omega) (by omega), cond_true, blt_t (by omega), cond_true, wrapi (show -9223372036854775808 ≤ (j : Int) - 1 ∧ (j : Int) - 1 < 9223372036854775808 by omega)]
      have hw := wrapi (show -9223372036854775808 ≤ (j : Int) + 1 ∧ (j : Int) + 1 < 9223372036854775808 by omega)
      rw [inb_t (show 0 ≤ (j : Int) - 1 by omega) (by omega), cond_true, blt_t (show ((j : Int) - 1).toNat < 12 by omega), cond_true]
      simp only [pack_eq false hC, pack_eq 0 hV, Int.toNat_natCast]
      rw [show ((j : Int) - 1).toNat = j - 1 by omega]
      cases hb : C.getD j false with
      | true =>
        rw [hF j h0 (by omega) hb, cond_true, Option.bind_some]
        simp only [pack_eq false hC, pack_eq 0 hV, Bool.not_true, cond_false, hw]
        rfl
      | false =>
        rw [cond_false, Option.bind_some]
        simp only [pack_eq false hC, pack_eq 0 hV, cond_false, hw]
        rfl
    · right
      rw [cf hlt]
      simp only [pack_eq false hC, pack_eq 0 hV]
      exact ⟨_, rfl, rfl⟩) k (1, l, n, i, ⟨C, V⟩, c) ⟨1, rfl, by omega, by omega⟩ (by dsimp only; omega)
  rw [h1, h2]
theorem first_step (k : Nat) (hk : 20 < k) {l : List Int} (hl : l.length ≤ 9223372036854775807) {C : List Bool} {V : List Int} (hC : C.length = 12) (hV : V.length = 12) (hF : Fst C) {i : Nat} (hi : i < l.length) :
    ∃ C' V', C'.length = 12 ∧ V'.length = 12 ∧ Fst C' ∧ pyxlaw13_PeriodFirst.l4.once k (l, (l.length : Int), (i : Int), ⟨C, V⟩, V) = some (.inl (l, (l.length : Int), ((i + 1 : Nat) : Int), ⟨C', V'⟩, V')) := by
  unfold pyxlaw13_PeriodFirst.l4.once
  dsimp only
  rw [ct (by omega), inb_t (by omega) (by omega), cond_true, Pick_eq k _ (by decide) (by decide), Option.bind_some, Pick_eq k _ (by decide) (by decide), Option.bind_some]
  have hp := pick_bd (IntKind.wrap .i64 (Int.tdiv (l.getD (Int.toNat (i : Int)) 0) 2)) (show (0 : Int) < 13 by decide)
  generalize pick (IntKind.wrap .i64 (Int.tdiv (l.getD (Int.toNat (i : Int)) 0) 2)) 13 = q at hp ⊢
  simp only [pack_eq false hC, pack_eq 0 hV]
  rw [Close_eq hC hV k (by omega), Option.bind_some, Reopen_eq hC hV k (by omega), Option.bind_some]
  obtain ⟨C', V', hC', hV', hF', h⟩ : ∃ C' V', C'.length = 12 ∧ V'.length = 12 ∧ Fst C' ∧ (cond (pick (l.getD (Int.toNat (i : Int)) 0) 2 == 1)
      (cond ((reo C V q).2.2 == 0) (some (l, (l.length : Int), (i : Int), (⟨pack 12 false (reo C V q).1, pack 12 0 (reo C V q).2.1⟩ : Speriod_Table), V)) (some (l, (l.length : Int), (i : Int), (⟨C, V⟩ : Speriod_Table), V)))
      (cond ((clo C V q).2.2 == 0) (cond (inb q 12) (cond (Nat.blt (Int.toNat q) 12) (cond (inb q 12) (cond (Nat.blt (Int.toNat q) 12) (some (l, (l.length : Int), (i : Int), (⟨pack 12 false (clo C V q).1, pack 12 0 (clo C V q).2.1⟩ : Speriod_Table), V.set (Int.toNat q) (IntKind.wrap .i64 (V.getD (Int.toNat q) 0 + 1)))) none) none) none) none)
        (some (l, (l.length : Int), (i : Int), (⟨C, V⟩ : Speriod_Table), V))) : Option (List Int × Int × Int × Speriod_Table × List Int)) = some (l, (l.length : Int), (i : Int), (⟨C', V'⟩ : Speriod_Table), V') := by
    cases pick (l.getD (Int.toNat (i : Int)) 0) 2 == 1 with
    | true =>
      rw [cond_true]
      by_cases h0 : (reo C V q).2.2 = 0
      · obtain ⟨f1, f2⟩ := reo_fst hF h0
        have hl := reo_len hC hV q
        refine ⟨_, V, hl.1, hV, f1, ?_⟩
        rw [h0, beq_self_eq_true, cond_true, pack_eq false hl.1, pack_eq 0 hl.2, f2]
      · refine ⟨C, V, hC, hV, hF, ?_⟩
        rw [show ((reo C V q).2.2 == 0) = false from beq_eq_false_iff_ne.2 h0, cond_false]
    | false =>
      rw [cond_false]
      by_cases h0 : (clo C V q).2.2 = 0
      · obtain ⟨f1, f2⟩ := clo_fst hC hF h0
        have hl := clo_len hC hV q
        have hb : 0 ≤ q ∧ q < 12 := by
          unfold cOk at f1
          simp only [Bool.and_eq_true, decide_eq_true_eq] at f1
          exact ⟨f1.1, f1.2.1⟩
        refine ⟨C.set q.toNat true, V.set q.toNat (IntKind.wrap .i64 (V.getD q.toNat 0 + 1)), by simp [hC], by simp [hV], f2, ?_⟩
        rw [h0, beq_self_eq_true, cond_true, inb_t hb.1 (by omega), blt_t (by omega), pack_eq false hl.1, pack_eq 0 hl.2]
        unfold clo
        rw [if_pos f1]
        rfl
      · refine ⟨C, V, hC, hV, hF, ?_⟩
        rw [show ((clo C V q).2.2 == 0) = false from beq_eq_false_iff_ne.2 h0, cond_false]
  rw [h, Option.bind_some]
  simp only [pack_eq false hC', pack_eq 0 hV']
  rw [inner k hk hC' hV' hF', Option.bind_some]
  simp only [pack_eq false hC', pack_eq 0 hV', beq_self_eq_true, Bool.and_self, Bool.not_true, cond_false, known13, Option.bind_some]
  rw [wrapi (show -9223372036854775808 ≤ (i : Int) + 1 ∧ (i : Int) + 1 < 9223372036854775808 by omega)]
  exact ⟨C', V', hC', hV', hF', rfl⟩
theorem PeriodFirst (l : List Int) (hl : l.length ≤ 9223372036854775807 ∧ l.length * 8 ≤ 140737488351232 ∧ ∀ z ∈ l, (Lit.int .i64 z).wf = true) : ∃ k, pyxlaw13_PeriodFirst.f k l = some true := by
  refine ⟨l.length + 300, ?_⟩
  unfold pyxlaw13_PeriodFirst.f
  obtain ⟨y, h1, h2⟩ := iter_rule (once := pyxlaw13_PeriodFirst.l4.once (l.length + 300)) (fun x => ∃ (i : Nat) (C : List Bool) (V : List Int), x = (l, (l.length : Int), (i : Int), ⟨C, V⟩, V) ∧ i ≤ l.length ∧ C.length = 12 ∧ V.length = 12 ∧ Fst C)
    (fun x => l.length - x.2.2.1.toNat) (fun y => y = .inl ()) (by
    rintro _ ⟨i, C, V, rfl, hi, hC, hV, hF⟩
    by_cases hlt : i < l.length
    · left
      obtain ⟨C', V', hC', hV', hF', h⟩ := first_step (l.length + 300) (by omega) hl.1 hC hV hF hlt
      exact ⟨_, h, ⟨i + 1, C', V', rfl, by omega, hC', hV', hF'⟩, by dsimp only; omega⟩
    · right
      refine ⟨.inl (), ?_, rfl⟩
      unfold pyxlaw13_PeriodFirst.l4.once
      dsimp only
      rw [cf (by omega)]) (l.length + 300) (l, (l.length : Int), 0, ⟨F12, Z12⟩, Z12) ⟨0, F12, Z12, rfl, by omega, rfl, rfl, fun j _ h h2 => by
        exfalso
        have : ∀ j : Fin 12, F12.getD j.val false = false := by decide
        rw [this ⟨j, h⟩] at h2
        cases h2⟩ (by dsimp only; omega)
  unfold F12 Z12 at h1
  rw [h1, h2, Option.bind_some]
  dsimp only
  rw [known13, Option.bind_some]
end Go.Proofs.Ytojkgadihooplaa.Pure
