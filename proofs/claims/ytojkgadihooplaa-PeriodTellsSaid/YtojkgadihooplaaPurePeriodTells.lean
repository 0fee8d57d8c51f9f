/- What the law PeriodTells computes is true, whatever the numbers. No conditions but that each number is one of its type. -/
import Derived.Test.YtojkgadihooplaaPer
namespace Go.Proofs.Ytojkgadihooplaa.Pure
set_option linter.unusedVariables false
set_option linter.unusedSimpArgs false
open Go Go.Ev Go.Pu
theorem tells_step (k : Nat) {l : List Int} (hl : l.length ≤ 9223372036854775807) {C : List Bool} {V : List Int} (hC : C.length = 12) (hV : V.length = 12) {i : Nat} (hi : i < l.length) :
    ∃ C' V', C'.length = 12 ∧ V'.length = 12 ∧ pyxlaw13_PeriodTells.l4.once k (l, (l.length : Int), (i : Int), ⟨C, V⟩, ⟨C, V⟩) = some (.inl (l, (l.length : Int), ((i + 1 : Nat) : Int), ⟨C', V'⟩, ⟨C', V'⟩)) := by
  unfold pyxlaw13_PeriodTells.l4.once
  dsimp only
  rw [ct (by omega), inb_t (by omega) (by omega), cond_true, Pick_eq k _ (by decide) (by decide), Option.bind_some]
  have hp := pick_bd (IntKind.wrap .i64 (Int.tdiv (l.getD (Int.toNat (i : Int)) 0) 2)) (show (0 : Int) < 15 by decide)
  generalize pick (IntKind.wrap .i64 (Int.tdiv (l.getD (Int.toNat (i : Int)) 0) 2)) 15 = q at hp ⊢
  rw [wrapi (show -9223372036854775808 ≤ q - 1 ∧ q - 1 < 9223372036854775808 by omega)]
  have hw := wrapi (show -9223372036854775808 ≤ (i : Int) + 1 ∧ (i : Int) + 1 < 9223372036854775808 by omega)
  simp only [pack_eq false hC, pack_eq 0 hV]
  rw [Close_eq hC hV k (by omega), Option.bind_some, RClose_eq hC hV k (by omega), Option.bind_some, Pick_eq k _ (by decide) (by decide), Option.bind_some, Reopen_eq hC hV k (by omega), RReopen_eq hC hV k (by omega), Option.bind_some, Option.bind_some]
  have g1 := clo_len hC hV (q - 1)
  have g2 := reo_len hC hV (q - 1)
  generalize clo C V (q - 1) = z1 at g1 ⊢
  generalize reo C V (q - 1) = z2 at g2 ⊢
  obtain ⟨A1, W1, e1⟩ := z1
  obtain ⟨A2, W2, e2⟩ := z2
  obtain ⟨hA1, hW1⟩ := g1
  obtain ⟨hA2, hW2⟩ := g2
  dsimp only at hA1 hW1 hA2 hW2 ⊢
  simp only [pack_eq false hA1, pack_eq 0 hW1, pack_eq false hA2, pack_eq 0 hW2]
  cases pick (l.getD (Int.toNat (i : Int)) 0) 2 == 1 with
  | true =>
    rw [cond_true, Option.bind_some]
    dsimp only
    simp only [pack_eq false hA2, pack_eq 0 hW2, pack_eq false hC, pack_eq 0 hV, bne_self_eq_false, beq_self_eq_true, Bool.and_self, Bool.not_true, cond_false, IsOpen_eq hC, RIsOpen_eq hC, Option.bind_some, hw]
    cases e2 == 0 with
    | true => exact ⟨A2, W2, hA2, hW2, rfl⟩
    | false => exact ⟨C, V, hC, hV, rfl⟩
  | false =>
    rw [cond_false, Option.bind_some]
    dsimp only
    simp only [pack_eq false hA1, pack_eq 0 hW1, pack_eq false hC, pack_eq 0 hV, bne_self_eq_false, beq_self_eq_true, Bool.and_self, Bool.not_true, cond_false, IsOpen_eq hC, RIsOpen_eq hC, Option.bind_some, hw]
    cases e1 == 0 with
    | true => exact ⟨A1, W1, hA1, hW1, rfl⟩
    | false => exact ⟨C, V, hC, hV, rfl⟩
theorem PeriodTells (C : List Bool) (hC : C.length = 12 ∧ ∀ z ∈ C, True) (V : List Int) (hV : V.length = 12 ∧ ∀ z ∈ V, (Lit.int .i64 z).wf = true)
    (l : List Int) (hl : l.length ≤ 9223372036854775807 ∧ l.length * 8 ≤ 140737488351232 ∧ ∀ z ∈ l, (Lit.int .i64 z).wf = true) : ∃ k, pyxlaw13_PeriodTells.f k C V l = some true := by
  refine ⟨l.length + 300, ?_⟩
  unfold pyxlaw13_PeriodTells.f
  rw [pack_eq false hC.1, pack_eq 0 hV.1]
  obtain ⟨y, h1, h2⟩ := iter_rule (once := pyxlaw13_PeriodTells.l4.once (l.length + 300)) (fun x => ∃ (i : Nat) (C : List Bool) (V : List Int), x = (l, (l.length : Int), (i : Int), ⟨C, V⟩, ⟨C, V⟩) ∧ i ≤ l.length ∧ C.length = 12 ∧ V.length = 12)
    (fun x => l.length - x.2.2.1.toNat) (fun y => y = .inl ()) (by
    rintro _ ⟨i, C, V, rfl, hi, hC, hV⟩
    by_cases hlt : i < l.length
    · left
      obtain ⟨C', V', hC', hV', h⟩ := tells_step (l.length + 300) hl.1 hC hV hlt
      exact ⟨_, h, ⟨i + 1, C', V', rfl, by omega, hC', hV'⟩, by dsimp only; omega⟩
    · right
      refine ⟨.inl (), ?_, rfl⟩
      unfold pyxlaw13_PeriodTells.l4.once
      dsimp only
      rw [cf (by omega)]) (l.length + 300) (l, (l.length : Int), 0, ⟨C, V⟩, ⟨C, V⟩) ⟨0, C, V, rfl, by omega, hC.1, hV.1⟩ (by dsimp only; omega)
  rw [h1, h2, Option.bind_some]
  dsimp only
  rw [known13, Option.bind_some]
end Go.Proofs.Ytojkgadihooplaa.Pure
