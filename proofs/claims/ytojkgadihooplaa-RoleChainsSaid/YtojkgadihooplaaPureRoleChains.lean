/- What the law RoleChains computes is true, whatever the numbers: only what they leave by 8 and by the chain's length counts. No conditions. -/
import Derived.Test.YtojkgadihooplaaF0
import Derived.Laws.BitsLemmas
namespace Go.Proofs.Ytojkgadihooplaa.Pure
open Go Go.Ev
theorem Pick_some (k : Nat) (n m : Int) (h0 : 0 < m) (h1 : m ≤ 1000) : ∃ v, pyxhand_Pick.f k n m = some v ∧ 0 ≤ v ∧ v < m := by
  unfold pyxhand_Pick.f
  rw [show (m == 0) = false by simp; omega, cond_false]
  by_cases h : Int.tmod n m < 0
  · rw [decide_eq_true h, cond_true]
    refine ⟨_, rfl, ?_⟩
    have : -m < Int.tmod n m := Int.lt_tmod_of_pos n h0
    rw [IntKind.wrap_i64]
    omega
  · rw [decide_eq_false h, cond_false]
    exact ⟨_, rfl, by omega, Int.tmod_lt_of_pos n h0⟩
theorem Pick_self (k : Nat) (n m : Int) (h0 : 0 ≤ n) (h1 : n < m) : pyxhand_Pick.f k n m = some n := by
  unfold pyxhand_Pick.f
  rw [show (m == 0) = false by simp; omega, cond_false]
  have : Int.tmod n m = n := Int.tmod_eq_of_lt h0 h1
  rw [this, decide_eq_false (by omega), cond_false]
theorem small : ∀ t1 t2 : Fin 8, t2.val ≤ t1.val → pyxlaw9_RoleChains.f 60 (t1.val : Int) (t2.val : Int) = some true := by decide +kernel
theorem RoleChains (a : Int) (_h : (Lit.int .i64 a).wf = true) (b : Int) (_h' : (Lit.int .i64 b).wf = true) : ∃ k, pyxlaw9_RoleChains.f k a b = some true := by
  refine ⟨60, ?_⟩
  obtain ⟨t1, e1, l1, u1⟩ := Pick_some 60 a 8 (by decide) (by decide)
  have hw : IntKind.wrap .i64 (1 + t1) = 1 + t1 := by rw [IntKind.wrap_i64]; omega
  obtain ⟨t2, e2, l2, u2⟩ := Pick_some 60 b (1 + t1) (by omega) (by omega)
  have hs := small ⟨t1.toNat, by omega⟩ ⟨t2.toNat, by omega⟩ (by show t2.toNat ≤ t1.toNat; omega)
  have c1 : ((t1.toNat : Nat) : Int) = t1 := by omega
  have c2 : ((t2.toNat : Nat) : Int) = t2 := by omega
  simp only [c1, c2] at hs
  unfold pyxlaw9_RoleChains.f at hs ⊢
  rw [e1, Option.bind_some, hw, e2, Option.bind_some]
  rw [Pick_self 60 t1 8 l1 u1, Option.bind_some, hw, Pick_self 60 t2 (1 + t1) l2 (by omega), Option.bind_some] at hs
  exact hs
end Go.Proofs.Ytojkgadihooplaa.Pure
