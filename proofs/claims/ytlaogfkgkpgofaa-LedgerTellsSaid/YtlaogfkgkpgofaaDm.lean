/- The product of two numbers of two words, told by whole numbers. No conditions but that each word is below 2^64. -/
import Derived.Test.YtlaogfkgkpgofaaDl
namespace Go.Proofs.Ytlaogfkgkpgofaa.Pure
set_option linter.unusedVariables false
set_option linter.unusedSimpArgs false
open Go Go.Ev Go.Lm Go.Pu

/-- A number of halves, the lowest first. -/
def V : List Int → Int
  | [] => 0
  | x :: l => x + 4294967296 * V l
def H32 (n : Int) : Prop := 0 ≤ n ∧ n < 4294967296
theorem V_set : ∀ (l : List Int) (a : Nat) (v : Int), a < l.length → V (l.set a v) = V l + (v - l.getD a 0) * 4294967296 ^ a
  | [], a, v, h => by simp at h
  | x :: l, 0, v, h => by simp [V]; omega
  | x :: l, a + 1, v, h => by
    have := V_set l a v (by simpa using h)
    simp only [List.set_cons_succ, V, this, List.getD_cons_succ, Int.pow_succ]
    rw [Int.mul_add]
    have e : (v - l.getD a 0) * (4294967296 ^ a * 4294967296) = 4294967296 * ((v - l.getD a 0) * 4294967296 ^ a) := by rw [← Int.mul_assoc, Int.mul_comm]
    rw [e]
    omega
theorem getD_set0 {α : Type} (l : List α) (i j : Nat) (v d : α) : (l.set i v).getD j d = if i = j ∧ j < l.length then v else l.getD j d := by
  simp only [List.getD_eq_getElem?_getD, List.getElem?_set]
  by_cases h : i = j
  · subst h
    by_cases h2 : i < l.length
    · simp [h2]
    · simp [h2]
  · simp [h]

theorem mul_bd {a b : Int} (ha : H32 a) (hb : H32 b) : 0 ≤ a * b ∧ a * b ≤ 18446744065119617025 := by
  obtain ⟨h1, h2⟩ := ha
  obtain ⟨h3, h4⟩ := hb
  refine ⟨Int.mul_nonneg h1 h3, ?_⟩
  have : a * b ≤ 4294967295 * 4294967295 := Int.mul_le_mul (by omega) (by omega) h3 (by omega)
  omega

theorem Mul_in_step (k : Nat) {p c y0 y1 y2 y3 : Int} (s0 s1 s2 s3 s4 : Int) (L L' : List Int) {out : List Int} {i j : Nat} (hi : i < 4) (hj : j < 4) (hlen : out.length = 8) (hp : H32 p) (hc : H32 c) (hq : H32 ([y0, y1, y2, y3].getD j 0)) (ho : H32 (out.getD (i + j) 0)) :
    limb_Mul.l8.once k ((i : Int), p, c, s0, s1, s2, s3, s4, y0, y1, y2, y3, (j : Int), L, out, L') =
      some (.inl ((i : Int), p, (p * [y0, y1, y2, y3].getD j 0 + out.getD (i + j) 0 + c) / 4294967296, s0, s1, s2, s3, s4, y0, y1, y2, y3, ((j + 1 : Nat) : Int), L, out.set (i + j) ((p * [y0, y1, y2, y3].getD j 0 + out.getD (i + j) 0 + c) % 4294967296), L')) := by
  unfold limb_Mul.l8.once
  dsimp only
  have hw : IntKind.wrap .i64 ((i : Int) + (j : Int)) = ((i + j : Nat) : Int) := by rw [wrapi (by omega)]; omega
  have hw2 : IntKind.wrap .i64 ((j : Int) + 1) = ((j + 1 : Nat) : Int) := by rw [wrapi (by omega)]; omega
  rw [hw, hw2, ct (by omega), inb_t (by omega) (by omega), inb_t (by omega) (by omega), cond_true, cond_true, Int.toNat_natCast, Int.toNat_natCast, blt_t (by omega), cond_true, cond_true, cond_true]
  have hm := mul_bd hp hq
  generalize [y0, y1, y2, y3].getD j 0 = q at *
  generalize out.getD (i + j) 0 = o at *
  obtain ⟨p1, p2⟩ := hp
  obtain ⟨q1, q2⟩ := hq
  obtain ⟨o1, o2⟩ := ho
  obtain ⟨c1, c2⟩ := hc
  rw [wrapu (show 0 ≤ p ∧ p < 18446744073709551616 by omega), wrapu (show 0 ≤ q ∧ q < 18446744073709551616 by omega)]
  generalize p * q = m at *
  rw [wrapu (show 0 ≤ m ∧ m < 18446744073709551616 by omega), wrapu (show 0 ≤ m + o ∧ m + o < 18446744073709551616 by omega), wrapu (show 0 ≤ m + o + c ∧ m + o + c < 18446744073709551616 by omega), wrap32, wrapu (show 0 ≤ (m + o + c) % 4294967296 ∧ (m + o + c) % 4294967296 < 18446744073709551616 by omega)]
  have : Int.fdiv (m + o + c) (2 ^ 32) = (m + o + c) / 4294967296 := by
    rw [show (2 : Int) ^ 32 = 4294967296 by decide, Int.fdiv_eq_ediv_of_nonneg _ (by decide)]
  rw [this]

/-- A row of the product. -/
theorem Mul_row (k : Nat) {p y0 y1 y2 y3 : Int} (s0 s1 s2 s3 s4 : Int) (L L' : List Int) {i : Nat} (hi : i < 4) (hp : H32 p) (hy : ∀ j, j < 4 → H32 ([y0, y1, y2, y3].getD j 0)) {out0 : List Int} (hl0 : out0.length = 8) (h0 : ∀ t, t < 8 → H32 (out0.getD t 0)) (hz : ∀ t, i + 4 ≤ t → t < 8 → out0.getD t 0 = 0) (hk : 4 < k) :
    ∃ (c : Int) (out : List Int), iter (limb_Mul.l8.once k) k ((i : Int), p, 0, s0, s1, s2, s3, s4, y0, y1, y2, y3, 0, L, out0, L') = some ((i : Int), c, s0, s1, s2, s3, s4, L, out, L') ∧ H32 c ∧ out.length = 8 ∧ (∀ t, t < 8 → H32 (out.getD t 0)) ∧
      (∀ t, i + 4 ≤ t → t < 8 → out.getD t 0 = 0) ∧ V out + c * 4294967296 ^ (i + 4) = V out0 + p * V [y0, y1, y2, y3] * 4294967296 ^ i := by
  obtain ⟨y, h1, h2⟩ := iter_rule (once := limb_Mul.l8.once k) (fun x => ∃ (j : Nat) (c : Int) (out : List Int), x = ((i : Int), p, c, s0, s1, s2, s3, s4, y0, y1, y2, y3, (j : Int), L, out, L') ∧ j ≤ 4 ∧ H32 c ∧ out.length = 8 ∧ (∀ t, t < 8 → H32 (out.getD t 0)) ∧
      (∀ t, i + 4 ≤ t → t < 8 → out.getD t 0 = 0) ∧ V out + c * 4294967296 ^ (i + j) = V out0 + p * V ([y0, y1, y2, y3].take j) * 4294967296 ^ i)
    (fun x => 4 - x.2.2.2.2.2.2.2.2.2.2.2.2.1.toNat) (fun r => ∃ (c : Int) (out : List Int), r = ((i : Int), c, s0, s1, s2, s3, s4, L, out, L') ∧ H32 c ∧ out.length = 8 ∧ (∀ t, t < 8 → H32 (out.getD t 0)) ∧
      (∀ t, i + 4 ≤ t → t < 8 → out.getD t 0 = 0) ∧ V out + c * 4294967296 ^ (i + 4) = V out0 + p * V [y0, y1, y2, y3] * 4294967296 ^ i) (by
    rintro _ ⟨j, c, out, rfl, hj, hc, hlen, hb, hzz, hV⟩
    by_cases hlt : j < 4
    · left
      have hq := hy j hlt
      have ho := hb (i + j) (by omega)
      have hm := mul_bd hp hq
      refine ⟨_, Mul_in_step k s0 s1 s2 s3 s4 L L' hi hlt hlen hp hc hq ho, ⟨j + 1, _, _, rfl, by omega, ?_, by simp [hlen], fun t ht => ?_, fun t ht ht8 => ?_, ?_⟩, by dsimp only; omega⟩
      · obtain ⟨o1, o2⟩ := ho
        obtain ⟨c1, c2⟩ := hc
        exact ⟨by omega, by omega⟩
      · rw [getD_set0]
        split
        · exact ⟨by omega, by omega⟩
        · exact hb t ht
      · rw [getD_set0, if_neg (by omega)]
        exact hzz t ht ht8
      · rw [V_set _ _ _ (by omega)]
        have et : V ([y0, y1, y2, y3].take (j + 1)) = V ([y0, y1, y2, y3].take j) + [y0, y1, y2, y3].getD j 0 * 4294967296 ^ j := by
          have hj' : j = 0 ∨ j = 1 ∨ j = 2 ∨ j = 3 := by omega
          rcases hj' with rfl | rfl | rfl | rfl <;> simp [V] <;> omega
        rw [et]
        generalize [y0, y1, y2, y3].getD j 0 = q at *
        generalize out.getD (i + j) 0 = o at *
        generalize V ([y0, y1, y2, y3].take j) = Y at *
        have hd : (p * q + o + c) / 4294967296 * 4294967296 + (p * q + o + c) % 4294967296 = p * q + o + c := by omega
        generalize (p * q + o + c) / 4294967296 = d at *
        generalize (p * q + o + c) % 4294967296 = r at *
        have e1 : (4294967296 : Int) ^ (i + (j + 1)) = 4294967296 ^ (i + j) * 4294967296 := by rw [← Nat.add_assoc, Int.pow_succ]
        have e2 : (4294967296 : Int) ^ (i + j) = 4294967296 ^ i * 4294967296 ^ j := by rw [Int.pow_add]
        rw [e1]
        generalize hP : (4294967296 : Int) ^ (i + j) = P at *
        generalize (4294967296 : Int) ^ i = A at *
        generalize (4294967296 : Int) ^ j = B at *
        subst e2
        have hr : r = p * q + o + c - d * 4294967296 := by omega
        subst hr
        grind
    · right
      have : j = 4 := by omega
      subst this
      refine ⟨((i : Int), c, s0, s1, s2, s3, s4, L, out, L'), ?_, c, out, rfl, hc, hlen, hb, hzz, hV⟩
      unfold limb_Mul.l8.once
      dsimp only
      rw [cf (by omega)]) k ((i : Int), p, 0, s0, s1, s2, s3, s4, y0, y1, y2, y3, 0, L, out0, L') ⟨0, 0, out0, rfl, by omega, ⟨by decide, by decide⟩, hl0, h0, hz, by simp [V]⟩ (by dsimp only; omega)
  obtain ⟨c, out, rfl, h3⟩ := h2
  exact ⟨c, out, h1, h3⟩

def W4 (x : Int × Int × Int × Int) : Prop := Wd x.1 ∧ Wd x.2.1 ∧ Wd x.2.2.1 ∧ Wd x.2.2.2
def N4 (x : Int × Int × Int × Int) : Int := x.1 + 18446744073709551616 * (x.2.1 + 18446744073709551616 * (x.2.2.1 + 18446744073709551616 * x.2.2.2))
theorem N4_inj {x y : Int × Int × Int × Int} (hx : W4 x) (hy : W4 y) (h : N4 x = N4 y) : x = y := by
  obtain ⟨a, b, c, d⟩ := x
  obtain ⟨e, f, g, i⟩ := y
  obtain ⟨⟨_, _⟩, ⟨_, _⟩, ⟨_, _⟩, _, _⟩ := hx
  obtain ⟨⟨_, _⟩, ⟨_, _⟩, ⟨_, _⟩, _, _⟩ := hy
  unfold N4 at h
  dsimp only at *
  have h1 : a = e := by omega
  have h2 : b = f := by omega
  have h3 : c = g := by omega
  have h4 : d = i := by omega
  rw [h1, h2, h3, h4]
theorem or_shift {a b : Int} (ha : H32 a) (hb : H32 b) : bits .or .u64 a (IntKind.wrap .u64 (b * 2 ^ 32)) = a + 4294967296 * b := by
  obtain ⟨x, rfl⟩ := Int.eq_ofNat_of_zero_le ha.1
  obtain ⟨y, rfl⟩ := Int.eq_ofNat_of_zero_le hb.1
  have hx := ha.2
  have hy := hb.2
  rw [show (2 : Int) ^ 32 = 4294967296 by decide, wrapu (by omega), show ((y : Int) * 4294967296) = ((y * 4294967296 : Nat) : Int) by omega, or64 (by omega) (by omega)]
  have := Nat.two_pow_add_eq_or_of_lt (i := 32) (b := x) (by omega) y
  rw [Nat.or_comm, Nat.mul_comm y, ← this]
  omega
theorem list8 {l : List Int} (h : l.length = 8) : ∃ a b c d e f g i, l = [a, b, c, d, e, f, g, i] := by
  match l, h with
  | [a, b, c, d, e, f, g, i], _ => exact ⟨a, b, c, d, e, f, g, i, rfl⟩
theorem Mul_join (k : Nat) (L : List Int) {o0 o1 o2 o3 o4 o5 o6 o7 : Int} (h : ∀ t, t < 8 → H32 ([o0, o1, o2, o3, o4, o5, o6, o7].getD t 0)) (hk : 4 < k) :
    iter (limb_Mul.l18.once k) k (0, L, [o0, o1, o2, o3, o4, o5, o6, o7], [0, 0, 0, 0]) = some (L, [o0 + 4294967296 * o1, o2 + 4294967296 * o3, o4 + 4294967296 * o5, o6 + 4294967296 * o7]) := by
  obtain ⟨k', rfl⟩ : ∃ q, k = q + 5 := ⟨k - 5, by omega⟩
  have h0 : H32 o0 := h 0 (by decide)
  have h1 : H32 o1 := h 1 (by decide)
  have h2 : H32 o2 := h 2 (by decide)
  have h3 : H32 o3 := h 3 (by decide)
  have h4 : H32 o4 := h 4 (by decide)
  have h5 : H32 o5 := h 5 (by decide)
  have h6 : H32 o6 := h 6 (by decide)
  have h7 : H32 o7 := h 7 (by decide)
  have s0 : limb_Mul.l18.once (k' + 5) (0, L, [o0, o1, o2, o3, o4, o5, o6, o7], [0, 0, 0, 0]) = some (.inl (1, L, [o0, o1, o2, o3, o4, o5, o6, o7], [bits .or .u64 o0 (IntKind.wrap .u64 (o1 * 2 ^ 32)), 0, 0, 0])) := by kernel_rfl
  have s1 : ∀ r0 : Int, limb_Mul.l18.once (k' + 5) (1, L, [o0, o1, o2, o3, o4, o5, o6, o7], [r0, 0, 0, 0]) = some (.inl (2, L, [o0, o1, o2, o3, o4, o5, o6, o7], [r0, bits .or .u64 o2 (IntKind.wrap .u64 (o3 * 2 ^ 32)), 0, 0])) := by intro r0; kernel_rfl
  have s2 : ∀ r0 r1 : Int, limb_Mul.l18.once (k' + 5) (2, L, [o0, o1, o2, o3, o4, o5, o6, o7], [r0, r1, 0, 0]) = some (.inl (3, L, [o0, o1, o2, o3, o4, o5, o6, o7], [r0, r1, bits .or .u64 o4 (IntKind.wrap .u64 (o5 * 2 ^ 32)), 0])) := by intro r0 r1; kernel_rfl
  have s3 : ∀ r0 r1 r2 : Int, limb_Mul.l18.once (k' + 5) (3, L, [o0, o1, o2, o3, o4, o5, o6, o7], [r0, r1, r2, 0]) = some (.inl (4, L, [o0, o1, o2, o3, o4, o5, o6, o7], [r0, r1, r2, bits .or .u64 o6 (IntKind.wrap .u64 (o7 * 2 ^ 32))])) := by intro r0 r1 r2; kernel_rfl
  have s4 : ∀ r0 r1 r2 r3 : Int, limb_Mul.l18.once (k' + 5) (4, L, [o0, o1, o2, o3, o4, o5, o6, o7], [r0, r1, r2, r3]) = some (.inr (L, [r0, r1, r2, r3])) := by intro r0 r1 r2 r3; kernel_rfl
  rw [iter_step s0, or_shift h0 h1, iter_step (s1 _), or_shift h2 h3, iter_step (s2 _ _), or_shift h4 h5, iter_step (s3 _ _ _), or_shift h6 h7, iter_stop (s4 _ _ _ _)]
theorem halves_eq (k : Nat) {x : Int × Int} (h : W2 x) : ∃ p0 p1 p2 p3, limb_halves.f k x = some (p0, p1, p2, p3) ∧ H32 p0 ∧ H32 p1 ∧ H32 p2 ∧ H32 p3 ∧ V [p0, p1, p2, p3] = N2 x := by
  obtain ⟨a, b⟩ := x
  obtain ⟨⟨h1, h2⟩, h3, h4⟩ := h
  dsimp only at h1 h2 h3 h4
  unfold limb_halves.f
  dsimp only
  have f : ∀ {z : Int}, 0 ≤ z → Int.fdiv z (2 ^ 32) = z / 4294967296 := fun hz => by
    rw [show (2 : Int) ^ 32 = 4294967296 by decide, Int.fdiv_eq_ediv_of_nonneg _ (by decide)]
  rw [f h1, f h3, wrap32, wrap32, wrap32, wrap32]
  refine ⟨_, _, _, _, rfl, ⟨by omega, by omega⟩, ⟨by omega, by omega⟩, ⟨by omega, by omega⟩, ⟨by omega, by omega⟩, ?_⟩
  simp only [V, N2]
  omega
/-- A product. -/
theorem Mul_eq {k : Nat} (hk : 8 < k) {x y : Int × Int} (hx : W2 x) (hy : W2 y) : ∃ z, limb_Mul.f k x y = some z ∧ W4 z ∧ N4 z = N2 x * N2 y := by
  unfold limb_Mul.f
  obtain ⟨p0, p1, p2, p3, e1, a0, a1, a2, a3, ev⟩ := halves_eq k hx
  obtain ⟨q0, q1, q2, q3, e2, b0, b1, b2, b3, ew⟩ := halves_eq k hy
  rw [Prod.eta, Prod.eta, e1, Option.bind_some, e2, Option.bind_some]
  have hq : ∀ j, j < 4 → H32 ([q0, q1, q2, q3].getD j 0) := fun j hj => by
    have : j = 0 ∨ j = 1 ∨ j = 2 ∨ j = 3 := by omega
    rcases this with rfl | rfl | rfl | rfl <;> assumption
  have hp : ∀ j, j < 4 → H32 ([p0, p1, p2, p3].getD j 0) := fun j hj => by
    have : j = 0 ∨ j = 1 ∨ j = 2 ∨ j = 3 := by omega
    rcases this with rfl | rfl | rfl | rfl <;> assumption
  obtain ⟨r, h1, h2⟩ := iter_rule (once := limb_Mul.l4.once k) (fun s => ∃ (i : Nat) (out : List Int), s = (p0, p1, p2, p3, (i : Int), [0, 0, 0, 0], out, [q0, q1, q2, q3]) ∧ i ≤ 4 ∧ out.length = 8 ∧ (∀ t, t < 8 → H32 (out.getD t 0)) ∧
      (∀ t, i + 4 ≤ t → t < 8 → out.getD t 0 = 0) ∧ V out = V ([p0, p1, p2, p3].take i) * V [q0, q1, q2, q3])
    (fun s => 4 - s.2.2.2.2.1.toNat) (fun r => ∃ out : List Int, r = ([0, 0, 0, 0], out) ∧ out.length = 8 ∧ (∀ t, t < 8 → H32 (out.getD t 0)) ∧ V out = V [p0, p1, p2, p3] * V [q0, q1, q2, q3]) (by
    rintro _ ⟨i, out, rfl, hi, hlen, hb, hz, hV⟩
    by_cases hlt : i < 4
    · left
      obtain ⟨c, out', g1, hc, g2, g3, g4, g5⟩ := Mul_row k p0 p1 p2 p3 (i : Int) [0, 0, 0, 0] [q0, q1, q2, q3] hlt (hp i hlt) hq hlen hb hz (by omega)
      refine ⟨(p0, p1, p2, p3, ((i + 1 : Nat) : Int), [0, 0, 0, 0], out'.set (i + 4) c, [q0, q1, q2, q3]), ?_, ⟨i + 1, _, rfl, by omega, by simp [g2], fun t ht => ?_, fun t ht ht8 => ?_, ?_⟩, by dsimp only; omega⟩
      · unfold limb_Mul.l4.once
        dsimp only
        rw [ct (by omega), inb_t (by omega) (by omega), cond_true, Int.toNat_natCast]
        have e : ([q0, q1, q2, q3].getD 0 0, [q0, q1, q2, q3].getD 1 0, [q0, q1, q2, q3].getD 2 0, [q0, q1, q2, q3].getD 3 0) = (q0, q1, q2, q3) := rfl
        have g1' : iter (limb_Mul.l8.once k) k ((i : Int), [p0, p1, p2, p3].getD i 0, 0, p0, p1, p2, p3, (i : Int), [q0, q1, q2, q3].getD 0 0, [q0, q1, q2, q3].getD 1 0, [q0, q1, q2, q3].getD 2 0, [q0, q1, q2, q3].getD 3 0, 0, [0, 0, 0, 0], out, [q0, q1, q2, q3]) = _ := g1
        rw [g1', Option.bind_some]
        dsimp only
        have hw : IntKind.wrap .i64 ((i : Int) + 4) = ((i + 4 : Nat) : Int) := by rw [wrapi (by omega)]; omega
        have hw2 : IntKind.wrap .i64 ((i : Int) + 1) = ((i + 1 : Nat) : Int) := by rw [wrapi (by omega)]; omega
        rw [hw, hw2, inb_t (by omega) (by omega), cond_true, Int.toNat_natCast, blt_t (by omega), cond_true]
      · rw [getD_set0]
        split
        · exact hc
        · exact g3 t ht
      · rw [getD_set0, if_neg (by omega)]
        exact g4 t (by omega) ht8
      · rw [V_set _ _ _ (by omega), g4 (i + 4) (by omega) (by omega), Int.sub_zero, g5, hV]
        have et : V ([p0, p1, p2, p3].take (i + 1)) = V ([p0, p1, p2, p3].take i) + [p0, p1, p2, p3].getD i 0 * 4294967296 ^ i := by
          have hj' : i = 0 ∨ i = 1 ∨ i = 2 ∨ i = 3 := by omega
          rcases hj' with rfl | rfl | rfl | rfl <;> simp [V] <;> omega
        rw [et]
        generalize [p0, p1, p2, p3].getD i 0 = p
        generalize V ([p0, p1, p2, p3].take i) = X
        generalize V [q0, q1, q2, q3] = Y
        generalize (4294967296 : Int) ^ i = A
        grind
    · right
      have : i = 4 := by omega
      subst this
      refine ⟨([0, 0, 0, 0], out), ?_, out, rfl, hlen, hb, hV⟩
      unfold limb_Mul.l4.once
      dsimp only
      rw [cf (by omega)]) k (p0, p1, p2, p3, 0, [0, 0, 0, 0], [0, 0, 0, 0, 0, 0, 0, 0], [q0, q1, q2, q3]) ⟨0, _, rfl, by omega, rfl, fun t ht => by
        have : ∀ t : Fin 8, H32 (([0, 0, 0, 0, 0, 0, 0, 0] : List Int).getD t.val 0) := by unfold H32; decide
        exact this ⟨t, ht⟩, fun t _ ht => by
        have : ∀ t : Fin 8, ([0, 0, 0, 0, 0, 0, 0, 0] : List Int).getD t.val 0 = 0 := by decide
        exact this ⟨t, ht⟩, by simp [V]⟩ (by dsimp only; omega)
  obtain ⟨out, rfl, g1, g2, g3⟩ := h2
  have h1' : iter (limb_Mul.l4.once k) k ([p0, p1, p2, p3].getD 0 0, [p0, p1, p2, p3].getD 1 0, [p0, p1, p2, p3].getD 2 0, [p0, p1, p2, p3].getD 3 0, 0, [0, 0, 0, 0], [0, 0, 0, 0, 0, 0, 0, 0], [q0, q1, q2, q3]) = _ := h1
  dsimp only
  rw [h1', Option.bind_some]
  obtain ⟨o0, o1, o2, o3, o4, o5, o6, o7, rfl⟩ := list8 g1
  dsimp only
  rw [Mul_join k _ g2 (by omega), Option.bind_some]
  have w : ∀ {a b : Int}, H32 a → H32 b → Wd (a + 4294967296 * b) := fun ⟨_, _⟩ ⟨_, _⟩ => ⟨by omega, by omega⟩
  refine ⟨_, rfl, ⟨w (g2 0 (by decide)) (g2 1 (by decide)), w (g2 2 (by decide)) (g2 3 (by decide)), w (g2 4 (by decide)) (g2 5 (by decide)), w (g2 6 (by decide)) (g2 7 (by decide))⟩, ?_⟩
  rw [← ev, ← ew, ← g3]
  simp only [V, N4, List.getD_cons_zero, List.getD_cons_succ]
  omega
end Go.Proofs.Ytlaogfkgkpgofaa.Pure
