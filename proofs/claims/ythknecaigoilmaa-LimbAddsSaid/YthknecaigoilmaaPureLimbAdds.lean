/- What the law LimbAdds computes is true, whatever the words. No conditions but that each word is below 2^64. -/
import Derived.Test.YthknecaigoilmaaLim
namespace Go.Proofs.Ythknecaigoilmaa.Pure
open Go Go.Ev Go.Lm

theorem Pick5 (k : Nat) (n : Int) : ∃ v, pyxhand_Pick.f k n 5 = some v ∧ 0 ≤ v ∧ v < 5 := by
  unfold pyxhand_Pick.f
  rw [show ((5 : Int) == 0) = false by decide, cond_false]
  by_cases h : Int.tmod n 5 < 0
  · rw [decide_eq_true h, cond_true]
    refine ⟨_, rfl, ?_⟩
    have : -5 < Int.tmod n 5 := Int.lt_tmod_of_pos n (by decide)
    rw [IntKind.wrap_i64]
    omega
  · rw [decide_eq_false h, cond_false]
    exact ⟨_, rfl, by omega, Int.tmod_lt_of_pos n (by decide)⟩
theorem word_some (k : Nat) {n : Int} (how : Int) (h : Wd n) : ∃ v, pyxlaw1_word.f k n how = some v ∧ Wd v := by
  obtain ⟨h1, h2⟩ := h
  unfold pyxlaw1_word.f
  obtain ⟨v, hv, _, _⟩ := Pick5 k how
  rw [hv, Option.bind_some]
  have ht : ∀ m : Int, 0 < m → 0 ≤ Int.tmod n m ∧ Int.tmod n m < m := fun m hm => ⟨Int.tmod_nonneg _ h1, Int.tmod_lt_of_pos n hm⟩
  have w : ∀ z, Wd (IntKind.wrap .u64 z) := fun z => by rw [wrap64]; unfold Wd; omega
  cases hb1 : v == 0
  · cases hb2 : v == 1
    · cases hb3 : v == 2
      · exact ⟨_, rfl, h1, h2⟩
      · have := ht 64 (by decide)
        rw [decide_eq_false (by omega : ¬ (Int.tmod n 64 < 0))]
        exact ⟨_, rfl, w _⟩
    · exact ⟨_, rfl, w _⟩
  · have := ht 16 (by decide)
    exact ⟨_, rfl, by unfold Wd; omega⟩
theorem words_some (k : Nat) {a b : Int} (how : Int) (ha : Wd a) (hb : Wd b) : ∃ x, pyxlaw1_words.f k a b how = some x ∧ W2 x := by
  unfold pyxlaw1_words.f
  obtain ⟨v, hv, h1⟩ := word_some k how ha
  rw [hv, Option.bind_some]
  obtain ⟨u, hu, h2⟩ := word_some k (IntKind.wrap .i64 (Int.tdiv how 5)) hb
  rw [hu, Option.bind_some]
  exact ⟨_, rfl, h1, h2⟩
theorem known_true : pyxlaw1_known.f 300 = some true := by decide +kernel

theorem LimbAdds (a : Int) (ha : (Lit.int .u64 a).wf = true) (b : Int) (hb : (Lit.int .u64 b).wf = true) (c : Int) (hc : (Lit.int .u64 c).wf = true) (d : Int) (hd : (Lit.int .u64 d).wf = true)
    (how : Int) (_h1 : (Lit.int .i64 how).wf = true) (az : Int) (_h2 : (Lit.int .i64 az).wf = true) : ∃ k, pyxlaw1_LimbAdds.f k a b c d how az = some true := by
  refine ⟨300, ?_⟩
  unfold pyxlaw1_LimbAdds.f
  obtain ⟨x, hx, wx⟩ := words_some 300 how (wf64 ha) (wf64 hb)
  obtain ⟨y, hy, wy⟩ := words_some 300 az (wf64 hc) (wf64 hd)
  have hcmp : ∀ {x y : Int × Int}, W2 x → W2 y → limb_Cmp.f 300 x y = some (if N2 x < N2 y then -1 else if N2 x = N2 y then 0 else 1) := fun hx hy => Cmp_eq 297 hx hy
  rw [hx, Option.bind_some, hy, Option.bind_some, Prod.eta, Prod.eta]
  obtain ⟨s, p, hs, ws, s1, s2, s3⟩ := Add_eq 300 wx wy
  obtain ⟨t, q, ht, wt, t1, t2, t3⟩ := Add_eq 300 wy wx
  have hpq : p = q := by
    rw [Int.add_comm (N2 y)] at t3
    rw [Bool.eq_iff_iff, s3, t3]
  subst hpq
  have hst : s = t := by
    cases p with
    | false => rw [s2 rfl, t2 rfl]
    | true => exact N2_inj ws wt (by rw [s1 rfl, t1 rfl]; omega)
  subst hst
  rw [hs, Option.bind_some, ht, Option.bind_some, known_true, Option.bind_some]
  simp only [Bool.not_true, cond_false, beq_self_eq_true, Bool.and_self, Prod.eta]
  obtain ⟨u, is, hu, wu, u1, u2, u3⟩ := Sub_eq 300 wx wy
  have tail : ((limb_Sub.f 300 x y).bind fun t13 => ((limb_Cmp.f 300 x y).bind fun t14 => (cond (t13.2 == (decide (t14 ≥ 0))) ((limb_Cmp.f 300 x y).bind fun t15 => ((limb_Cmp.f 300 y x).bind fun t16 =>
      (cond (t15 == (IntKind.wrap .i64 (0 - t16))) ((limb_Cmp.f 300 x y).bind fun t17 => (some ((t17 == 0) == ((x.1 == y.1) && (x.2 == y.2))))) (some false)))) (some false)))) = some true := by
    rw [hu, hcmp wx wy, hcmp wy wx]
    simp only [Option.bind_some]
    have heq : (N2 x = N2 y) ↔ (x.1 = y.1 ∧ x.2 = y.2) := ⟨fun h => by rw [N2_inj wx wy h]; exact ⟨rfl, rfl⟩, fun h => by unfold N2; rw [h.1, h.2]⟩
    rcases Int.lt_trichotomy (N2 x) (N2 y) with h | h | h
    · have e1 : is = false := by cases is with | false => rfl | true => have := u3.1 rfl; omega
      have e2 : ¬ N2 y < N2 x := by omega
      have e3 : ¬ N2 y = N2 x := by omega
      have e4 : ¬ N2 x = N2 y := by omega
      have e5 : ((x.1 == y.1) && (x.2 == y.2)) = false := by
        rw [Bool.eq_false_iff]; intro hh; simp at hh; exact e4 (heq.2 hh)
      simp [h, e1, e2, e3, e5, IntKind.wrap, IntKind.bits, IntKind.signed]
    · have e1 : is = true := u3.2 (by omega)
      have := heq.1 h
      simp [h, e1, this.1, this.2, IntKind.wrap, IntKind.bits, IntKind.signed]
    · have e1 : is = true := u3.2 (by omega)
      have e2 : ¬ N2 x < N2 y := by omega
      have e4 : ¬ N2 x = N2 y := by omega
      have e5 : ((x.1 == y.1) && (x.2 == y.2)) = false := by
        rw [Bool.eq_false_iff]; intro hh; simp at hh; exact e4 (heq.2 hh)
      simp [h, e1, e2, e4, e5, IntKind.wrap, IntKind.bits, IntKind.signed]
  cases p with
  | false => rw [cond_false]; exact tail
  | true =>
    rw [cond_true]
    obtain ⟨v, r, hv, wv, v1, v2, v3⟩ := Sub_eq 300 ws wy
    have hsum := s1 rfl
    have hr : r = true := v3.2 (by have := N2_bd wx; omega)
    subst hr
    have hvx : v = x := N2_inj wv wx (by rw [v1 rfl, hsum]; omega)
    subst hvx
    rw [hv, Option.bind_some]
    simp only [Bool.not_true, cond_false, beq_self_eq_true, Bool.and_self]
    rw [hcmp ws wv, Option.bind_some]
    have hle : ¬ N2 s < N2 v := by have := N2_bd wy; omega
    rw [if_neg hle]
    have : decide ((if N2 s = N2 v then (0 : Int) else 1) < 0) = false := by split <;> decide
    rw [this, cond_false]
    exact tail
end Go.Proofs.Ythknecaigoilmaa.Pure
