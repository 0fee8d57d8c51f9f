/- What the law OwnKnown computes is true. No conditions. -/
import Derived.Test.YthknecaigoilmaaPureOwnTells
namespace Go.Proofs.Ythknecaigoilmaa.Pure
set_option linter.unusedVariables false
set_option linter.unusedSimpArgs false
open Go Go.Ev Go.Lm Go.Pu Go.Dg
theorem ok4 : OkL [⟨0, 0, (-1), 10000⟩, ⟨0, 0, 0, 1⟩, ⟨0, 0, 1, 50⟩, ⟨0, 0, (-1), 10000⟩] := by
  intro i hi
  have : i = 0 ∨ i = 1 ∨ i = 2 ∨ i = 3 := by simp at hi; omega
  rcases this with rfl | rfl | rfl | rfl <;> rfl
theorem bad1 : ¬ OkL [⟨0, 0, 0, 1⟩] := fun h => by
  have := h 0 (by decide)
  cases this
theorem eqDN (n s : Nat) : (((DN n s).f_Neg == (DN n s).f_Neg) && (((DN n s).f_C.1 == (DN n s).f_C.1) && (((DN n s).f_C.2 == (DN n s).f_C.2) && ((DN n s).f_Scale == (DN n s).f_Scale)))) = true := by
  rw [beq_self_eq_true, beq_self_eq_true, beq_self_eq_true, beq_self_eq_true]; rfl
theorem z0 : (((DN 0 0).f_Neg == false) && (((DN 0 0).f_C.1 == 0) && (((DN 0 0).f_C.2 == 0) && ((DN 0 0).f_Scale == 0)))) = true := rfl
theorem OwnKnown : ∃ k, pyxlaw19_OwnKnown.f k = some true := by
  refine ⟨700, ?_⟩
  unfold pyxlaw19_OwnKnown.f
  have h0 := OPart ok4 (by decide) (by decide) (i := 0) (by decide) (by decide)
  have h1 := OPart ok4 (by decide) (by decide) (i := 1) (by decide) (by decide)
  have h2 := OPart ok4 (by decide) (by decide) (i := 2) (by decide) (by decide)
  have h3 := OTop ok4 (by decide) (by decide) (i := 3) (by decide) (by decide)
  rw [show chain [⟨0, 0, (-1), 10000⟩, ⟨0, 0, 0, 1⟩, ⟨0, 0, 1, 50⟩, ⟨0, 0, (-1), 10000⟩] 8 0 1000000 = 1000000 by decide +kernel] at h0
  rw [show chain [⟨0, 0, (-1), 10000⟩, ⟨0, 0, 0, 1⟩, ⟨0, 0, 1, 50⟩, ⟨0, 0, (-1), 10000⟩] 8 1 1000000 = 100 by decide +kernel] at h1
  rw [show chain [⟨0, 0, (-1), 10000⟩, ⟨0, 0, 0, 1⟩, ⟨0, 0, 1, 50⟩, ⟨0, 0, (-1), 10000⟩] 8 2 1000000 = 0 by decide +kernel] at h2
  rw [show top [⟨0, 0, (-1), 10000⟩, ⟨0, 0, 0, 1⟩, ⟨0, 0, 1, 50⟩, ⟨0, 0, (-1), 10000⟩] 8 3 = 3 by decide +kernel] at h3
  have r0 : pyxref1_Of.f 700 1000000 6 = some (DN 1000000 6) := ROf_eq (n := 1000000) (by decide) (s := 6) (by decide)
  have r1 : pyxref1_Of.f 700 100 6 = some (DN 100 6) := ROf_eq (n := 100) (by decide) (s := 6) (by decide)
  have r2 : pyxref1_Of.f 700 0 6 = some (DN 0 6) := ROf_eq (n := 0) (by decide) (s := 6) (by decide)
  have n4 := OPart_no (l := [⟨0, 0, (-1), 10000⟩, ⟨0, 0, 0, 1⟩, ⟨0, 0, 1, 50⟩, ⟨0, 0, (-1), 10000⟩]) (i := 4) (by decide) (by decide) (fun h => absurd h.2.2.2.2 (by decide))
  have nm := OPart_no (l := [⟨0, 0, (-1), 10000⟩, ⟨0, 0, 0, 1⟩, ⟨0, 0, 1, 50⟩, ⟨0, 0, (-1), 10000⟩]) (i := -1) (by decide) (by decide) (fun h => absurd h.2.2.2.1 (by decide))
  have nb := OPart_no (l := [⟨0, 0, 0, 1⟩]) (i := 0) (by decide) (by decide) (fun h => bad1 h.1)
  have nn := OPart_no (l := []) (i := 0) (by decide) (by decide) (fun h => absurd h.2.1 (by decide))
  rw [known19, Option.bind_some, cond_true, h0, Option.bind_some, r0, Option.bind_some, eqDN, cond_true, h1, Option.bind_some, r1, Option.bind_some, eqDN, cond_true, h2, Option.bind_some, r2, Option.bind_some, eqDN, cond_true, h3, Option.bind_some, show ((3 : Int) == 3) = true from rfl, cond_true, n4.1, Option.bind_some,
    z0, cond_true, nm.1, Option.bind_some, z0, cond_true, n4.2, Option.bind_some, show ((-1 : Int) == -1) = true from rfl, cond_true, nb.1, Option.bind_some, z0, cond_true, nb.2, Option.bind_some, show ((-1 : Int) == -1) = true from rfl, cond_true, nn.1, Option.bind_some, z0]
end Go.Proofs.Ythknecaigoilmaa.Pure
