/- What the law LimbDivides computes is true, whatever the numbers. No conditions but that each number is one of its type. -/
import Derived.Test.YthknecaigoilmaaLiT
namespace Go.Proofs.Ythknecaigoilmaa.Pure
set_option linter.unusedVariables false
set_option linter.unusedSimpArgs false
open Go Go.Ev Go.Lm Go.Pu
theorem LimbDivides (a : Int) (h0 : (Lit.int .u64 a).wf = true) (b : Int) (h1 : (Lit.int .u64 b).wf = true) (c : Int) (h2 : (Lit.int .u64 c).wf = true) (d : Int) (h3 : (Lit.int .u64 d).wf = true)
    (how : Int) (h4 : (Lit.int .i64 how).wf = true) (az : Int) (h5 : (Lit.int .i64 az).wf = true) : ∃ k, pyxlaw1_LimbDivides.f k a b c d how az = some true := by
  refine ⟨300, ?_⟩
  unfold pyxlaw1_LimbDivides.f
  obtain ⟨x, hx, wx⟩ := words_some 300 how (wf64 h0) (wf64 h1)
  obtain ⟨y0, hy, wy0⟩ := words_some 300 az (wf64 h2) (wf64 h3)
  rw [hx, Option.bind_some, hy, Option.bind_some]
  obtain ⟨y, hyy, wy, hn⟩ : ∃ y : Int × Int, (cond ((y0.1 == 0) && (y0.2 == 0)) ((limb_Of.f 300 3).bind fun t3 => some (a, d, how, x.1, x.2, t3.1, t3.2)) (some (a, d, how, x.1, x.2, y0.1, y0.2)) : Option (Int × Int × Int × Int × Int × Int × Int)) = some (a, d, how, x.1, x.2, y.1, y.2) ∧ W2 y ∧ N2 y ≠ 0 := by
    cases hz : (y0.1 == 0) && (y0.2 == 0) with
    | true =>
      refine ⟨(3, 0), rfl, W2_of ⟨by decide, by decide⟩, by rw [N2_of]; decide⟩
    | false =>
      refine ⟨y0, rfl, wy0, ?_⟩
      intro h
      obtain ⟨⟨_, _⟩, _, _⟩ := wy0
      unfold N2 at h
      have e1 : y0.1 = 0 := by omega
      have e2 : y0.2 = 0 := by omega
      rw [e1, e2] at hz
      cases hz
  rw [hyy, Option.bind_some]
  dsimp only
  obtain ⟨t, ht, wt⟩ := words_some 300 (IntKind.wrap .i64 (Int.tdiv how 3)) (wf64 h3) (wf64 h0)
  rw [ht, Option.bind_some]
  obtain ⟨w, w1, w2, w3⟩ := Mul_eq (k := 300) (by decide) wx wt
  obtain ⟨q, r, d1, d2, d3, d4, d5⟩ := Div_eq (k := 300) (by decide) w2 wy hn
  have hyp : 0 < N2 y := by have := N2_bd wy; omega
  have hdm := Int.mul_ediv_add_emod (N4 w) (N2 y)
  have hrl := Int.emod_lt_of_pos (N4 w) hyp
  rw [← d4, ← d5] at hdm
  rw [← d5] at hrl
  have hwb := N4_bd w2
  have hrb := N2_bd d3
  have hyb := N2_bd wy
  have e0 : limb_Mul.f 300 (x.1, x.2) (t.1, t.2) = some w := w1
  have e1 : limb_Div.f 300 (w.1, w.2.1, w.2.2.1, w.2.2.2) (y.1, y.2) = some (q, r, true) := d1
  have e2 : limb_Cmp.f 300 (r.1, r.2) (y.1, y.2) = some (-1) := by
    have := Cmp_eq 297 d3 wy
    rw [if_pos hrl] at this
    exact this
  rw [e0, Option.bind_some, e1, Option.bind_some, known1 (by decide), Option.bind_some]
  simp only [Bool.not_true, cond_false, e2, Option.bind_some]
  rw [cf (show ¬ ((-1 : Int) ≥ 0) by decide)] 
  have wq1 : W2 (q.1, q.2.1) := ⟨d2.1, d2.2.1⟩
  have wq2 : W2 (q.2.2.1, q.2.2.2) := ⟨d2.2.2.1, d2.2.2.2⟩
  obtain ⟨lo, l1, l2, l3⟩ := Mul_eq (k := 300) (by decide) wq1 wy
  obtain ⟨hi, m1, m2, m3⟩ := Mul_eq (k := 300) (by decide) wq2 wy
  have e3 : limb_Mul.f 300 (q.1, q.2.1) (y.1, y.2) = some lo := l1
  have e4 : limb_Mul.f 300 (q.2.2.1, q.2.2.2) (y.1, y.2) = some hi := m1
  rw [e3, Option.bind_some, e4, Option.bind_some]
  have hq : N4 q = N2 (q.1, q.2.1) + 340282366920938463463374607431768211456 * N2 (q.2.2.1, q.2.2.2) := by unfold N4 N2; dsimp only; omega
  have hP : N4 lo + 340282366920938463463374607431768211456 * N4 hi + N2 r = N4 w := by
    rw [l3, m3, ← hdm, hq, Int.mul_add, Int.mul_comm (N2 y), Int.mul_comm (N2 y), Int.mul_assoc]
  have hlb := N4_bd l2
  have hhb := N4_bd m2
  obtain ⟨l0, l1', l2', l3'⟩ := lo
  obtain ⟨i0, i1, i2, i3⟩ := hi
  obtain ⟨w0, w1', w2', w3'⟩ := w
  obtain ⟨r0, r1⟩ := r
  obtain ⟨⟨a1, a2⟩, ⟨a3, a4⟩, ⟨a5, a6⟩, a7, a8⟩ := l2
  obtain ⟨⟨b1, b2⟩, ⟨b3, b4⟩, ⟨b5, b6⟩, b7, b8⟩ := m2
  obtain ⟨⟨c1, c2⟩, ⟨c3, c4⟩, ⟨c5, c6⟩, c7, c8⟩ := w2
  obtain ⟨⟨f1, f2⟩, f3, f4⟩ := d3
  clear hq hdm d4 d5 l3 m3 w3 e0 e1 e2 e3 e4 hyy w1 d1 l1 m1
  unfold N4 N2 at hP
  dsimp only at *
  have hi2 : i2 = 0 := by omega
  have hi3 : i3 = 0 := by omega
  subst hi2; subst hi3
  rw [bne_self_eq_false, cond_false, Option.bind_some]
  dsimp only
  rw [cond_false]
  obtain ⟨s, p, s1, s2, s3, s4, s5⟩ := Add_eq 300 (x := (l0, l1')) (y := (r0, r1)) ⟨⟨a1, a2⟩, a3, a4⟩ ⟨⟨f1, f2⟩, f3, f4⟩
  rw [s1, Option.bind_some]
  dsimp only
  obtain ⟨v, hv1, hv2, hv3⟩ : ∃ v : Int × Int × Int × Int, (cond (!p) (((cond (decide (IntKind.wrap .u64 (l0 + r0) < r0)) (some (w0, w1', w2', w3', i0, i1, 0, 0, IntKind.wrap .u64 (l0 + r0), IntKind.wrap .u64 (IntKind.wrap .u64 (l1' + r1) + 1), l2', l3'))
      (some (w0, w1', w2', w3', i0, i1, 0, 0, IntKind.wrap .u64 (l0 + r0), IntKind.wrap .u64 (l1' + r1), l2', l3'))) : Option (Int × Int × Int × Int × Int × Int × Int × Int × Int × Int × Int × Int)).bind fun y62 => ((limb_Of.f 300 1).bind fun t63 => ((limb_Add.f 300 (y62.2.2.2.2.2.2.2.2.2.2.1, y62.2.2.2.2.2.2.2.2.2.2.2) (t63.1, t63.2)).bind fun t64 =>
        (some (y62.1, y62.2.1, y62.2.2.1, y62.2.2.2.1, y62.2.2.2.2.1, y62.2.2.2.2.2.1, y62.2.2.2.2.2.2.1, y62.2.2.2.2.2.2.2.1, y62.2.2.2.2.2.2.2.2.1, y62.2.2.2.2.2.2.2.2.2.1, t64.1.1, t64.1.2)))))
      (some (w0, w1', w2', w3', i0, i1, 0, 0, s.1, s.2, l2', l3')) : Option (Int × Int × Int × Int × Int × Int × Int × Int × Int × Int × Int × Int)) = some (w0, w1', w2', w3', i0, i1, 0, 0, v.1, v.2.1, v.2.2.1, v.2.2.2) ∧ W4 v ∧ N4 v = l0 + 18446744073709551616 * (l1' + 18446744073709551616 * (l2' + 18446744073709551616 * l3')) + (r0 + 18446744073709551616 * r1) := by
    unfold N2 at s3 s5
    dsimp only at s3 s5
    cases p with
    | true =>
      obtain ⟨⟨_, _⟩, _, _⟩ := s2
      exact ⟨(s.1, s.2, l2', l3'), rfl, ⟨⟨by assumption, by assumption⟩, ⟨by assumption, by assumption⟩, ⟨a5, a6⟩, a7, a8⟩, by have := s3 rfl; unfold N4; dsimp only; omega⟩
    | false =>
      have hov : ¬ (l0 + 18446744073709551616 * l1' + (r0 + 18446744073709551616 * r1) < 340282366920938463463374607431768211456) := fun h => by cases s5.2 h
      obtain ⟨u, g, u1, u2, u3, u4, u5⟩ := Add_eq 300 (x := (l2', l3')) (y := (1, 0)) ⟨⟨a5, a6⟩, a7, a8⟩ ⟨⟨by decide, by decide⟩, by decide, by decide⟩
      unfold N2 at u3 u5
      dsimp only at u3 u5
      have hg : g = true := u5.2 (by omega)
      subst hg
      have hu := u3 rfl
      obtain ⟨⟨_, _⟩, _, _⟩ := u2
      rw [show (!false) = true by rfl, cond_true, wrap64, wrap64]
      by_cases hlt : (l0 + r0) % 18446744073709551616 < r0
      · rw [ct hlt, Option.bind_some, Of_eq, Option.bind_some, u1, Option.bind_some, wrap64]
        refine ⟨((l0 + r0) % 18446744073709551616, ((l1' + r1) % 18446744073709551616 + 1) % 18446744073709551616, u.1, u.2), rfl, ⟨⟨by dsimp only; omega, by dsimp only; omega⟩, ⟨by dsimp only; omega, by dsimp only; omega⟩, ⟨by assumption, by assumption⟩, by assumption, by assumption⟩, ?_⟩
        unfold N4
        dsimp only
        omega
      · rw [cf hlt, Option.bind_some, Of_eq, Option.bind_some, u1, Option.bind_some]
        refine ⟨((l0 + r0) % 18446744073709551616, (l1' + r1) % 18446744073709551616, u.1, u.2), rfl, ⟨⟨by dsimp only; omega, by dsimp only; omega⟩, ⟨by dsimp only; omega, by dsimp only; omega⟩, ⟨by assumption, by assumption⟩, by assumption, by assumption⟩, ?_⟩
        unfold N4
        dsimp only
        omega
  rw [hv1, Option.bind_some]
  dsimp only
  obtain ⟨v0, v1, v2, v3⟩ := v
  obtain ⟨⟨_, _⟩, ⟨_, _⟩, ⟨_, _⟩, _, _⟩ := hv2
  dsimp only at *
  obtain ⟨z, g, z1, z2, z3, z4, z5⟩ := Add_eq 300 (x := (v2, v3)) (y := (i0, i1)) ⟨⟨by assumption, by assumption⟩, by assumption, by assumption⟩ ⟨⟨b1, b2⟩, b3, b4⟩
  rw [z1, Option.bind_some]
  unfold N2 at z3 z5
  unfold N4 at hv3
  dsimp only at z3 z5 hv3
  have hg : g = true := z5.2 (by omega)
  subst hg
  have hz := z3 rfl
  obtain ⟨z0, zz⟩ := z
  obtain ⟨⟨_, _⟩, _, _⟩ := z2
  dsimp only at *
  have q1 : v0 = w0 := by omega
  have q2 : v1 = w1' := by omega
  have q3 : z0 = w2' := by omega
  have q4 : zz = w3' := by omega
  subst q1; subst q2; subst q3; subst q4
  simp
end Go.Proofs.Ythknecaigoilmaa.Pure
