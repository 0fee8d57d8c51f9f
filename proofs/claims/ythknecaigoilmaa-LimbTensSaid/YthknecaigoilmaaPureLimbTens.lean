/- What the law LimbTens computes is true, whatever the numbers. No conditions but that each number is one of its type. -/
import Derived.Test.YthknecaigoilmaaLiT
namespace Go.Proofs.Ythknecaigoilmaa.Pure
set_option linter.unusedVariables false
set_option linter.unusedSimpArgs false
open Go Go.Ev Go.Lm Go.Pu
theorem LimbTens (kk : Int) (h0 : (Lit.int .i64 kk).wf = true) (jj : Int) (h1 : (Lit.int .i64 jj).wf = true) (a : Int) (h2 : (Lit.int .u64 a).wf = true) : ∃ k, pyxlaw1_LimbTens.f k kk jj a = some true := by
  refine ⟨300, ?_⟩
  unfold pyxlaw1_LimbTens.f
  rw [Pick_eq _ _ (by decide) (by decide), Option.bind_some, Pick_eq _ _ (by decide) (by decide), Option.bind_some]
  have hp := pick_bd kk (show (0 : Int) < 20 by decide)
  have hq := pick_bd jj (show (0 : Int) < 19 by decide)
  obtain ⟨m, hm⟩ := Int.eq_ofNat_of_zero_le hp.1
  obtain ⟨n, hn⟩ := Int.eq_ofNat_of_zero_le hq.1
  rw [hm] at hp ⊢
  rw [hn] at hq ⊢
  rw [show IntKind.wrap .i64 ((m : Int) + (n : Int)) = ((m + n : Nat) : Int) by rw [wrapi (by omega)]; omega, show IntKind.wrap .i64 ((m : Int) + 1) = ((m + 1 : Nat) : Int) by rw [wrapi (by omega)]; omega]
  obtain ⟨x, x1, x2, x3⟩ := Ten_eq (k := 300) (by decide) (i := m) (by omega)
  obtain ⟨y, y1, y2, y3⟩ := Ten_eq (k := 300) (by decide) (i := n) (by omega)
  obtain ⟨z, z1, z2, z3⟩ := Ten_eq (k := 300) (by decide) (i := m + n) (by omega)
  obtain ⟨u, u1, u2, u3⟩ := Ten_eq (k := 300) (by decide) (i := m + 1) (by omega)
  have ha : Wd a := wf64 h2
  rw [x1, y1, z1, u1]
  simp only [Option.bind_some, known1 (show 8 < 300 by decide), Bool.not_true, cond_false, Wide_eq, Of_eq]
  obtain ⟨p, p1, p2, p3⟩ := Mul_eq (k := 300) (by decide) x2 y2
  obtain ⟨q, q1, q2, q3⟩ := Mul_eq (k := 300) (by decide) x2 (W2_of (n := 10) ⟨by decide, by decide⟩)
  have e1 : p = (z.1, z.2, 0, 0) := N4_inj p2 (W4_wide z2) (by rw [p3, N4_wide, x3, y3, z3, Int.pow_add])
  have e2 : q = (u.1, u.2, 0, 0) := N4_inj q2 (W4_wide u2) (by rw [q3, N4_wide, x3, u3, N2_of, Int.pow_succ])
  rw [Prod.eta, Prod.eta, p1, q1]
  simp only [Option.bind_some, e1, e2, beq_self_eq_true, Bool.and_self, Bool.not_true, cond_false]
  obtain ⟨r, r1, r2, r3⟩ := Mul_eq (k := 300) (by decide) (W2_of ha) x2
  rw [r1, Option.bind_some]
  have hx0 : N2 x ≠ 0 := by rw [x3]; exact Int.pow_ne_zero (by decide)
  obtain ⟨s, t, s1, s2, s3, s4, s5⟩ := Div_eq (k := 300) (by decide) r2 x2 hx0
  have e3 : limb_Div.f 300 (r.1, r.2.1, r.2.2.1, r.2.2.2) (x.1, x.2) = some (s, t, true) := s1
  have s1' : limb_Div.f 300 (r.1, r.2.1, r.2.2.1, r.2.2.2) x = some (s, t, true) := s1
  first | rw [e3, Option.bind_some] | rw [s1', Option.bind_some]
  dsimp only
  rw [N2_of] at r3
  have e4 : s = (a, 0, 0, 0) := N4_inj s2 (W4_wide (W2_of ha)) (by rw [s4, r3, Int.mul_ediv_cancel _ hx0]; exact (N4_wide (a, 0)).symm ▸ (N2_of a).symm)
  have e5 : t = (0, 0) := N2_inj s3 (W2_of ⟨by decide, by decide⟩) (by rw [s5, r3, Int.mul_emod_left]; rfl)
  rw [cond_true, e4, e5]
  simp
end Go.Proofs.Ythknecaigoilmaa.Pure
