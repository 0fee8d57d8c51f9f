/- What the law RoleTells computes is true, whatever the numbers. No conditions but that each number is one of its type. -/
import Derived.Test.YtojkgadihooplaaRol
namespace Go.Proofs.Ytojkgadihooplaa.Pure
set_option linter.unusedVariables false
set_option linter.unusedSimpArgs false
open Go Go.Ev Go.Pu
theorem RoleTells (l : List Int) (_h0 : l.length ≤ 9223372036854775807 ∧ l.length * 8 ≤ 140737488351232 ∧ ∀ z ∈ l, (Lit.int .i64 z).wf = true) (bend : Int) (_w1 : (Lit.int .i64 bend).wf = true)
    (roles : Int) (w2 : (Lit.int .u64 roles).wf = true) (r : Int) (_w3 : (Lit.int .i64 r).wf = true) : ∃ k, pyxlaw9_RoleTells.f k l bend roles r = some true := by
  refine ⟨300, ?_⟩
  unfold pyxlaw9_RoleTells.f
  obtain ⟨up, h1, hl, _⟩ := parents_some l bend (k := 300) (by decide)
  obtain ⟨ro, rfl⟩ := Int.eq_ofNat_of_zero_le (wf64 w2).1
  have hro : ro < 18446744073709551616 := by have := (wf64 w2).2; omega
  rw [h1, Option.bind_some, Pick_eq _ _ (by decide) (by decide), Option.bind_some, known9, Option.bind_some, cond_true]
  have hp := pick_bd r (show (0 : Int) < 14 by decide)
  generalize pick r 14 = p at hp ⊢
  rw [wrapi (by omega)]
  obtain ⟨b1, e1, f1⟩ := Right_eq hl (k := 300) (by decide)
  obtain ⟨b2, e2, f2⟩ := RefRight_eq hl (k := 300) (by decide)
  have hb : b1 = b2 := by rw [Bool.eq_iff_iff, f1, f2]
  subst hb
  rw [e1, Option.bind_some, e2, Option.bind_some, beq_self_eq_true, cond_true]
  obtain ⟨a1, a2⟩ := All_eq hl hro (k := 300) (by decide)
  obtain ⟨c1, c2⟩ := RefAll_eq hl (roles := ro) (k := 300) (by decide)
  obtain ⟨z, hz1, hz2, hz3⟩ : ∃ z : Nat, role_All.f 300 up (ro : Int) = some (z : Int) ∧ pyxref4_All.f 300 up (ro : Int) = some (z : Int) ∧ (z < 2 ^ up.length ∧ z < 2 ^ 8) := by
    by_cases hR : Rt up ∧ up.length ≤ 8
    · exact ⟨_, a1 hR, c1 hR, All_lt hR, Nat.lt_of_lt_of_le (All_lt hR) (le8 hR.2)⟩
    · exact ⟨0, a2 hR, c2 hR, Nat.two_pow_pos _, by decide⟩
  rw [hz1, Option.bind_some, hz2, Option.bind_some, beq_self_eq_true, cond_true]
  unfold role_Has.f pyxref4_HasRole.f
  rw [hz1, hz2, Option.bind_some, Option.bind_some, has_eq, Option.bind_some]
  by_cases g1 : p - 2 ≥ 0
  · rw [ct g1]
    obtain ⟨q, hq⟩ := Int.eq_ofNat_of_zero_le g1
    rw [hq]
    rw [decide_eq_true (show (0 : Int) ≤ (q : Int) ∧ (q : Int) < 64 by omega), Bool.true_and, Int.toNat_natCast]
    by_cases g2 : (q : Int) < (up.length : Int)
    · rw [ct g2, bit_eq 300 (by omega), Option.bind_some, Option.bind_some, and64 (by omega) (p64 (by omega)), Option.bind_some]
      have : decide (((z &&& 2 ^ q : Nat) : Int) > 0) = z.testBit q := by rw [Bool.eq_iff_iff, decide_eq_true_eq, and_bit]
      rw [this, beq_self_eq_true]
    · rw [cf g2, Option.bind_some, Option.bind_some]
      rw [Nat.testBit_lt_two_pow (Nat.lt_of_lt_of_le hz3.1 (Nat.pow_le_pow_right (by decide) (by omega)))]
      rfl
  · rw [cf g1, decide_eq_false (by omega), Option.bind_some, Option.bind_some]
    rfl
end Go.Proofs.Ytojkgadihooplaa.Pure
