/- What the law ChartTells computes is true, whatever the number. No conditions but that it is a number of 64 bits. -/
import Derived.Test.YtojkgadihooplaaF0
namespace Go.Proofs.Ytojkgadihooplaa.Pure
open Go Go.Ev
theorem kind_eq (k : Nat) (a : Int) : chart_Kind.f k a = pyxref11_Kind.f k a := by
  unfold chart_Kind.f pyxref11_Kind.f
  rw [show decide (a ≤ 3) = decide (a < 4) from decide_eq_decide.2 (by omega), show decide (a ≤ 6) = decide (a < 7) from decide_eq_decide.2 (by omega), show decide (a ≤ 8) = decide (a < 9) from decide_eq_decide.2 (by omega)]
theorem with_eq (k : Nat) (a : Int) : chart_IsWith.f k a = pyxref11_IsWith.f k a := rfl
theorem kind_some (k : Nat) (a : Int) : ∃ v, chart_Kind.f k a = some v ∧ (v == 0) = (decide (a < 0) || decide (a ≥ 16)) := by
  unfold chart_Kind.f
  by_cases h1 : a < 0
  · exact ⟨0, by simp [h1], by simp [h1]⟩
  by_cases h2 : a ≥ 16
  · exact ⟨0, by simp [h1, h2], by simp [h2]⟩
  have e : (decide (a < 0) || decide (a ≥ 16)) = false := by simp; omega
  rw [e]
  simp only [h1, h2, decide_false, cond_false]
  by_cases h3 : a ≤ 3
  · exact ⟨1, by simp [h3], rfl⟩
  by_cases h4 : a ≤ 6
  · exact ⟨2, by simp [h3, h4], rfl⟩
  by_cases h5 : a ≤ 8
  · exact ⟨3, by simp [h3, h4, h5], rfl⟩
  · exact ⟨4, by simp [h3, h4, h5], rfl⟩
theorem with_some (k : Nat) (a : Int) : ∃ v, chart_IsWith.f k a = some v := by
  unfold chart_IsWith.f
  cases (a == 3) <;> exact ⟨_, rfl⟩
theorem ChartTells (a : Int) (_h : (Lit.int .i64 a).wf = true) : ∃ k, pyxlaw11_ChartTells.f k a = some true := by
  refine ⟨0, ?_⟩
  have hk : pyxlaw11_known.f 0 = some true := by decide +kernel
  unfold pyxlaw11_ChartTells.f
  obtain ⟨v, hv, h0⟩ := kind_some 0 a
  obtain ⟨v2, hv2, _⟩ := kind_some 0 (Int.tmod a 20)
  obtain ⟨u, hu⟩ := with_some 0 a
  obtain ⟨u2, hu2⟩ := with_some 0 (Int.tmod a 20)
  simp only [hk, ← kind_eq, ← with_eq, hv, hv2, hu, hu2, Option.bind_some, cond_true, beq_self_eq_true, h0]
  by_cases h1 : a < 0
  · simp [h1]
  · simp [h1]
end Go.Proofs.Ytojkgadihooplaa.Pure
