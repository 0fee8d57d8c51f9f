/- What the law LimbTells computes is true, whatever the numbers. No conditions but that each number is one of its type. -/
import Derived.Test.YthknecaigoilmaaLrC
namespace Go.Proofs.Ythknecaigoilmaa.Pure
set_option linter.unusedVariables false
set_option linter.unusedSimpArgs false
open Go Go.Ev Go.Lm Go.Pu Go.Dg
theorem bind_of {α β : Type} {o : Option α} {v : α} {f : α → Option β} {r : Option β} (h : o = some v) (h' : f v = r) : o.bind f = r := by rw [h]; exact h'
theorem eq4' {p q : Int × Int × Int × Int} (h : p = q) : (!((p.1 == q.1) && ((p.2.1 == q.2.1) && ((p.2.2.1 == q.2.2.1) && (p.2.2.2 == q.2.2.2))))) = false := by subst h; simp
theorem cmp_cast {x y : Int} {m n : Nat} (hx : x = (m : Int)) (hy : y = (n : Int)) : (if x < y then (-1 : Int) else if x = y then 0 else 1) = if m < n then -1 else if m = n then 0 else 1 := by
  subst hx; subst hy
  by_cases h : m < n
  · rw [if_pos h, if_pos (by omega)]
  · rw [if_neg h, if_neg (by omega)]
    by_cases h : m = n
    · rw [if_pos h, if_pos (by omega)]
    · rw [if_neg h, if_neg (by omega)]
theorem cmp_ge (m n : Nat) : decide ((if m < n then (-1 : Int) else if m = n then 0 else 1) ≥ 0) = decide (n ≤ m) := by
  by_cases h : m < n
  · rw [if_pos h, decide_eq_false (show ¬ n ≤ m by omega)]; rfl
  · rw [if_neg h, decide_eq_true (show n ≤ m by omega)]; split <;> rfl
theorem cmp_self (m : Nat) : (if m < m then (-1 : Int) else if m = m then 0 else 1) = 0 := by rw [if_neg (Nat.lt_irrefl m), if_pos rfl]
theorem dig_pos_len (n : Nat) : decide (((dig n).length : Int) > 0) = decide (n ≠ 0) := by
  by_cases h : n = 0
  · subst h; rw [dig_0]; rfl
  · rw [dig_pos h, decide_eq_true (by simp only [List.length_cons]; omega), decide_eq_true h]
set_option maxHeartbeats 2000000 in
theorem LimbTells (a0 : Int) (h0 : (Lit.int .u64 a0).wf = true) (a1 : Int) (h1 : (Lit.int .u64 a1).wf = true) (a2 : Int) (h2 : (Lit.int .u64 a2).wf = true) (a3 : Int) (h3 : (Lit.int .u64 a3).wf = true) (a4 : Int) (h4 : (Lit.int .i64 a4).wf = true) (a5 : Int) (h5 : (Lit.int .i64 a5).wf = true) (a6 : Int) (h6 : (Lit.int .i64 a6).wf = true) (a7 : Bool) : ∃ k, pyxlaw1_LimbTells.f k a0 a1 a2 a3 a4 a5 a6 a7 = some true := by
  refine ⟨700, ?_⟩
  have K : 602 < 700 := by decide
  unfold pyxlaw1_LimbTells.f
  obtain ⟨x, hx, wx⟩ := words_some 700 a4 (wf64 h0) (wf64 h1)
  obtain ⟨y, hy, wy⟩ := words_some 700 a5 (wf64 h2) (wf64 h3)
  obtain ⟨x0, x1⟩ := x
  obtain ⟨y0, y1⟩ := y
  have bx := N2_bd wx
  have by' := N2_bd wy
  obtain ⟨nx, hnx⟩ : ∃ n : Nat, N2 (x0, x1) = (n : Int) := ⟨(N2 (x0, x1)).toNat, by omega⟩
  obtain ⟨ny, hny⟩ : ∃ n : Nat, N2 (y0, y1) = (n : Int) := ⟨(N2 (y0, y1)).toNat, by omega⟩
  have lx : nx < 340282366920938463463374607431768211456 := by omega
  have ly : ny < 340282366920938463463374607431768211456 := by omega
  rw [hx, Option.bind_some, hy, Option.bind_some]
  dsimp only
  obtain ⟨w3, hw3, e⟩ : ∃ w3 : Int, Wd w3 ∧ (cond (Int.tmod a4 3 == 0) (some (a0, a6, a7, x0, x1, y0, y1, x0, x1, y0, 0)) (some (a0, a6, a7, x0, x1, y0, y1, x0, x1, y0, y1)) : Option (Int × Int × Bool × Int × Int × Int × Int × Int × Int × Int × Int)) = some (a0, a6, a7, x0, x1, y0, y1, x0, x1, y0, w3) := by
    cases Int.tmod a4 3 == 0
    · exact ⟨y1, wy.2, rfl⟩
    · exact ⟨0, Wd0, rfl⟩
  refine bind_of e ?_
  dsimp only
  clear e
  have ww : W4 (x0, x1, y0, w3) := ⟨wx.1, wx.2, wy.1, hw3⟩
  have bw := N4_bd ww
  obtain ⟨nw, hnw⟩ : ∃ n : Nat, N4 (x0, x1, y0, w3) = (n : Int) := ⟨(N4 (x0, x1, y0, w3)).toNat, by omega⟩
  obtain ⟨s, e⟩ : ∃ s : Int, (cond (!a7) ((pyxhand_Pick.f 700 a6 300).bind fun t15 => (some (a0, IntKind.wrap .i64 (t15 - 20), x0, x1, y0, y1, x0, x1, y0, w3))) (some (a0, a6, x0, x1, y0, y1, x0, x1, y0, w3)) : Option (Int × Int × Int × Int × Int × Int × Int × Int × Int × Int)) = some (a0, s, x0, x1, y0, y1, x0, x1, y0, w3) := by
    cases a7
    · refine ⟨IntKind.wrap .i64 (pick a6 300 - 20), ?_⟩
      rw [Bool.not_false, cond_true, Pick_eq _ _ (by decide) (by decide), Option.bind_some]
    · exact ⟨a6, rfl⟩
  refine bind_of e ?_
  dsimp only
  clear e
  obtain ⟨z, b, a1', a2', a3', a4', a5'⟩ := Add_eq 700 wx wy
  rw [Nat2_eq K wx hnx, Option.bind_some, Nat2_eq K wy hny, Option.bind_some, a1', Option.bind_some, AddNat_eq (by omega) (by omega) (by omega), Option.bind_some]
  obtain ⟨z', b', c1, c2, c3, c4, c5⟩ := Words2_eq K (n := nx + ny) (by omega)
  rw [c1, Option.bind_some]
  dsimp only
  obtain rfl : b = b' := by
    rw [Bool.eq_iff_iff, a5', c3, hnx, hny]
    omega
  obtain rfl : z = z' := by
    cases b
    · rw [a4' rfl, c5 rfl]
    · exact N2_inj a2' c2 (by rw [a3' rfl, c4 rfl, hnx, hny]; omega)
  refine bind_of (v := (a0, s, dig nx, dig ny, false, x0, x1, y0, y1, x0, x1, y0, w3)) ?_ ?_
  · rw [show (!(z.1 == z.1 && z.2 == z.2)) = false by simp, cond_false, show (!(b == b)) = false by simp, cond_false, Cmp_eq 697 wx wy, Option.bind_some, CmpNat_eq (by omega) (by omega) (by omega), Option.bind_some, cmp_cast hnx hny, bne_self_eq_false, cond_false]
    obtain ⟨m, m1, m2, m3⟩ := Mul_eq (k := 700) (by decide) wx wy
    rw [m1, Option.bind_some, MulNat_eq K (by omega) (by omega), Option.bind_some]
    have hxy : nx * ny < 115792089237316195423570985008687907853269984665640564039457584007913129639936 := by
      have := N4_bd m2
      rw [m3, hnx, hny, ← Int.natCast_mul] at this
      omega
    obtain ⟨u, u1, u2, u3⟩ := Words4_eq K (n := nx * ny) (by omega)
    rw [Nat.mod_eq_of_lt hxy] at u3
    rw [u1, Option.bind_some, eq4' (N4_inj m2 u2 (by rw [m3, u3, hnx, hny, Int.natCast_mul]))]
  dsimp only
  rw [cond_false]
  obtain ⟨d, db, d1, d2, d3, d4, d5⟩ := Sub_eq 700 wx wy
  rw [d1, Option.bind_some]
  dsimp only
  obtain rfl : db = decide (ny ≤ nx) := by
    rw [Bool.eq_iff_iff, d5, decide_eq_true_eq, hnx, hny]; omega
  refine bind_of (v := (a0, s, dig nx, false, x0, x1, x0, x1, y0, w3)) ?_ ?_
  · rw [CmpNat_eq (by omega) (by omega) (by omega), Option.bind_some, cmp_ge, beq_self_eq_true, Bool.not_true, cond_false]
    by_cases hle : ny ≤ nx
    · rw [decide_eq_true hle] at d3 ⊢
      have hd := d3 rfl
      rw [cond_true, Nat2_eq (x := d) K d2 (n := nx - ny) (by rw [hd, hnx, hny]; omega), Option.bind_some, AddNat_eq (by omega) (by omega) (by omega), Option.bind_some, Nat.sub_add_cancel hle, CmpNat_eq (by omega) (by omega) (by omega), Option.bind_some, cmp_self]
      rfl
    · rw [decide_eq_false hle] at d4 ⊢
      rw [d4 rfl]
      rfl
  dsimp only
  rw [cond_false]
  have hq : ∃ q r, limb_Div.f 700 (x0, x1, y0, w3) (x0, x1) = some (q, r, decide (nx ≠ 0)) ∧ (nx ≠ 0 → W4 q ∧ W2 r ∧ N4 q = ((nw / nx : Nat) : Int) ∧ N2 r = ((nw % nx : Nat) : Int)) := by
    by_cases h : nx = 0
    · subst h
      have : (x0, x1) = (0, 0) := N2_inj wx W20 (by rw [hnx]; rfl)
      rw [this, Div_zero]
      exact ⟨_, _, rfl, fun h => absurd rfl h⟩
    · obtain ⟨q, r, q1, q2, q3, q4, q5⟩ := Div_eq (k := 700) (by decide) ww wx (by rw [hnx]; omega)
      refine ⟨q, r, by rw [q1, decide_eq_true h], fun _ => ⟨q2, q3, ?_, ?_⟩⟩
      · rw [q4, hnw, hnx, Int.natCast_ediv]
      · rw [q5, hnw, hnx, Int.natCast_emod]
  obtain ⟨q, r, q1, q2⟩ := hq
  rw [q1, Option.bind_some]
  dsimp only
  rw [dig_pos_len, beq_self_eq_true, Bool.not_true, cond_false]
  refine bind_of (v := .inl (a0, s, x0, x1, x0, x1, y0, w3)) ?_ ?_
  · by_cases h : nx = 0
    · rw [decide_eq_false (by omega)]; rfl
    · obtain ⟨q2, q3, q4, q5⟩ := q2 h
      have hle := Nat.div_le_self nw nx
      have hlt := Nat.mod_lt nw (show 0 < nx by omega)
      rw [decide_eq_true h, cond_true, Nat4_eq K ww hnw, Option.bind_some, DivNat_eq K (by omega) (by omega) (by omega), Option.bind_some]
      obtain ⟨u, u1, u2, u3⟩ := Words4_eq K (n := nw / nx) (by omega)
      rw [Nat.mod_eq_of_lt (by omega)] at u3
      rw [u1, Option.bind_some, eq4' (N4_inj q2 u2 (by rw [q4, u3])), cond_false, Nat2_eq (x := r) K q3 q5, Option.bind_some, CmpNat_eq (by omega) (by omega) (by omega), Option.bind_some, cmp_self]
      rfl
  dsimp only
  obtain ⟨t, tb, t1, t2, t3, t4, t5⟩ := Short_eq 700 ww
  rw [t1, Option.bind_some]
  dsimp only
  refine bind_of (v := (a0, s, false, x0, x1, x0, x1, y0, w3)) ?_ ?_
  · have hN : N4 (x0, x1, y0, w3) = N2 (x0, x1) + 340282366920938463463374607431768211456 * (y0 + 18446744073709551616 * w3) := by unfold N4 N2; dsimp only; omega
    rw [hN] at t3 t4
    obtain ⟨g1, g2⟩ := wy.1
    obtain ⟨g3, g4⟩ := hw3
    dsimp only at g1 g2
    cases tb with
    | true =>
      have hy0 := t3.1 rfl
      have e0 : y0 = 0 := by omega
      have e3 : w3 = 0 := by omega
      have et : t = (x0, x1) := N2_inj t2 wx (by rw [t4 rfl, e0, e3]; omega)
      subst e0; subst e3; subst et
      simp
    | false =>
      rw [t5 rfl]
      by_cases e0 : y0 = 0
      · have e3 : ¬ w3 = 0 := by
          rintro rfl
          have := t3.2 (by omega)
          cases this
        simp [e0, beq_eq_false_iff_ne.2 e3]
      · simp [beq_eq_false_iff_ne.2 e0]
  dsimp only
  rw [cond_false, Pick_eq _ _ (by decide) (by decide), Option.bind_some]
  have hp := pick_bd s (show (0 : Int) < 45 by decide)
  generalize pick s 45 = v at hp
  rw [wrapi (n := v - 3) (by omega)]
  have ht : ∃ t tb, limb_Ten.f 700 (v - 3) = some (t, tb) ∧ W2 t ∧ tb = decide (0 ≤ v - 3 ∧ v - 3 ≤ 38) ∧ (tb = true → ∃ i : Nat, i ≤ 38 ∧ v - 3 = (i : Int) ∧ N2 t = ((10 ^ i : Nat) : Int)) := by
    by_cases hv : 0 ≤ v - 3 ∧ v - 3 ≤ 38
    · obtain ⟨i, hi⟩ := Int.eq_ofNat_of_zero_le hv.1
      obtain ⟨t, t1, t2, t3⟩ := Ten_eq (k := 700) (by decide) (i := i) (by omega)
      rw [hi]
      exact ⟨t, true, t1, t2, (decide_eq_true (by omega)).symm, fun _ => ⟨i, by omega, rfl, by rw [t3]; simp⟩⟩
    · exact ⟨(0, 0), false, Ten_none 700 (by omega), W20, (decide_eq_false hv).symm, fun h => by cases h⟩
  obtain ⟨t, tb, t1, t2, t3, t4⟩ := ht
  rw [t1, Option.bind_some]
  dsimp only
  refine bind_of (v := (a0, s, false, x0, x1, x0, x1, y0, w3)) ?_ ?_
  · by_cases h0 : v - 3 ≥ 0
    · have e : tb = decide (v - 3 ≤ 38) := by rw [t3, decide_eq_decide]; omega
      rw [ct h0, ← e, beq_self_eq_true, Bool.not_true, cond_false]
      cases tb with
      | false => rfl
      | true =>
        obtain ⟨i, i1, i2, i3⟩ := t4 rfl
        have hle := Nat.pow_le_pow_right (show 0 < 10 by decide) i1
        rw [cond_true, Nat2_eq (x := t) K t2 i3, Option.bind_some, i2, TenNat_eq (by omega), Option.bind_some, CmpNat_eq (by omega) (by omega) (by omega), Option.bind_some, cmp_self]
        rfl
    · have e : tb = false := by rw [t3]; exact decide_eq_false (by omega)
      subst e
      rw [cf h0]
      rfl
  dsimp only
  rw [cond_false, known1 (by decide), Option.bind_some, cond_true]
  obtain ⟨l, l1, l2, l3⟩ := Left_eq (k := 700) (by decide) ww s
  obtain ⟨l', l1', l2', l3'⟩ := RLeft_eq K ww hnw s
  have el : l = l' := N4_inj l2 l2' (by rw [l3, l3', hnw, Int.natCast_emod, Int.natCast_mul, Int.natCast_pow]; rfl)
  rw [l1, Option.bind_some, l1', Option.bind_some, eq4 el, cond_true]
  obtain ⟨r, r1, r2, r3⟩ := Right_eq (k := 700) (by decide) ww s
  obtain ⟨r', r1', r2', r3'⟩ := RRight_eq K ww hnw s
  have er : r = r' := N4_inj r2 r2' (by rw [r3, r3', hnw, Int.natCast_ediv, Int.natCast_pow]; rfl)
  rw [r1, Option.bind_some, r1', Option.bind_some, eq4 er, cond_true]
  obtain ⟨b, b1, b2, b3, b4⟩ := Bits_eq (k := 700) (by decide) ww
  obtain ⟨b', b1', b2', b3', b4'⟩ := RBits_eq K ww hnw
  have eb : b = b' := by
    rw [hnw] at b3 b4
    have c3 : nw < 2 ^ b := by rw [show (2 : Int) ^ b = ((2 ^ b : Nat) : Int) by simp] at b3; omega
    have c4 : b = 0 ∨ 2 ^ (b - 1) ≤ nw := by rw [show (2 : Int) ^ (b - 1) = ((2 ^ (b - 1) : Nat) : Int) by simp] at b4; omega
    exact Nat.le_antisymm (bits_lt b3' c4) (bits_lt c3 b4')
  subst eb
  rw [b1, Option.bind_some, b1', Option.bind_some, beq_self_eq_true, cond_true, Wide_eq, Option.bind_some]
  dsimp only
  rw [beq_self_eq_true, beq_self_eq_true, beq_self_eq_true, Bool.and_self, Bool.and_self, Bool.and_self, cond_true, Of_eq, Option.bind_some, beq_self_eq_true, beq_self_eq_true]
  rfl
end Go.Proofs.Ythknecaigoilmaa.Pure
