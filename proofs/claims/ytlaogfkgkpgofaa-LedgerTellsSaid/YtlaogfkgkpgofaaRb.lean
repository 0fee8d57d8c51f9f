/- What the plain sums on lists of digits compute: products, quotients, words. No conditions but size. -/
import Derived.Test.YtlaogfkgkpgofaaRa
namespace Go.Proofs.Ytlaogfkgkpgofaa.Pure
set_option linter.unusedVariables false
set_option linter.unusedSimpArgs false
open Go Go.Ev Go.Lm Go.Pu Go.Dg
theorem take_succ10 (l : List Int) {i : Nat} (h : i < l.length) : V10 (l.take (i + 1)) = V10 (l.take i) + 10 ^ i * l.getD i 0 := by
  have e : l.take (i + 1) = l.take i ++ [l.getD i 0] := by rw [List.take_succ_eq_append_getElem h, List.getD_eq_getElem?_getD, List.getElem?_eq_getElem h]; rfl
  rw [e, V10_append, List.length_take, Nat.min_eq_left (by omega)]; simp [V10]
theorem Mul_row10 {k : Nat} (hk : 602 < k) {l1 l2 out0 : List Int} {i : Nat} (h1 : D10 l1) (h2 : D10 l2) (hi : i < l1.length) (h0 : D10 out0) (hL : out0.length = l1.length + l2.length + 1) (hLb : out0.length ≤ 600) (hT : V10 out0 + 10 ^ i * (l1.getD i 0 * V10 l2) < 10 ^ out0.length) :
    ∃ out, iter (pyxref1_MulNat.l7.once k) k (l1, l2, (i : Int), 0, 0, out0) = some (l1, l2, (i : Int), out) ∧ D10 out ∧ out.length = out0.length ∧ V10 out = V10 out0 + 10 ^ i * (l1.getD i 0 * V10 l2) := by
  have hd := D10_getD h1 i
  generalize hdd : l1.getD i 0 = d at *
  generalize hTT : V10 out0 + 10 ^ i * (d * V10 l2) = T at *
  obtain ⟨y, e1, out, rfl, e2, e3, e4⟩ := iter_rule (once := pyxref1_MulNat.l7.once k) (fun x => ∃ (j : Nat) (c : Int) (out : List Int), x = (l1, l2, (i : Int), c, (j : Int), out) ∧ D10 out ∧ out.length = out0.length ∧ 0 ≤ c ∧ c ≤ 9 ∧ i + j ≤ out0.length ∧ V10 out + 10 ^ (i + j) * (c + d * V10 (l2.drop j)) = T)
    (fun x => out0.length - x.2.2.2.2.1.toNat) (fun y => ∃ out, y = (l1, l2, (i : Int), out) ∧ D10 out ∧ out.length = out0.length ∧ V10 out = T) (by
    rintro x ⟨j, c, out, rfl, ho, hlen, hc0, hc9, hij, hv⟩
    have b2 := D10_getD h2 j
    have p1 := V10_nonneg ho
    have p2 := V10_nonneg (D10_drop h2 j)
    have p3 : 0 ≤ d * V10 (l2.drop j) := Int.mul_nonneg hd.1 p2
    by_cases run : j < l2.length ∨ c > 0
    · left
      have hb : i + j < out0.length := by
        rcases run with h | h
        · omega
        · refine Nat.lt_of_not_le fun hle => ?_
          have : i + j = out0.length := by omega
          rw [this] at hv
          have p4 : 0 < (10 : Int) ^ out0.length := Int.pow_pos (by decide)
          have : (10 : Int) ^ out0.length * 1 ≤ 10 ^ out0.length * (c + d * V10 (l2.drop j)) := Int.mul_le_mul_of_nonneg_left (by omega) (Int.le_of_lt p4)
          omega
      have b3 := D10_getD ho (i + j)
      have hdq : 0 ≤ d * l2.getD j 0 ∧ d * l2.getD j 0 ≤ 81 := by
        refine ⟨Int.mul_nonneg hd.1 b2.1, ?_⟩
        have g1 : d * l2.getD j 0 ≤ 9 * l2.getD j 0 := Int.mul_le_mul_of_nonneg_right (by omega) b2.1
        omega
      have once : pyxref1_MulNat.l7.once k (l1, l2, (i : Int), c, (j : Int), out) = some (.inl (l1, l2, (i : Int), (out.getD (i + j) 0 + d * l2.getD j 0 + c) / 10, ((j + 1 : Nat) : Int), out.set (i + j) ((out.getD (i + j) 0 + d * l2.getD j 0 + c) % 10))) := by
        unfold pyxref1_MulNat.l7.once
        dsimp only
        have first : (cond (decide ((j : Int) < (l2.length : Int))) (some (l1, l2, (i : Int), c, (j : Int), true, out)) (some (l1, l2, (i : Int), c, (j : Int), decide (c > 0), out)) : Option (List Int × List Int × Int × Int × Int × Bool × List Int)) = some (l1, l2, (i : Int), c, (j : Int), true, out) := by
          by_cases h : j < l2.length
          · rw [ct (by omega)]
          · rw [cf (by omega), decide_eq_true (by omega)]
        refine (congrArg (Option.bind · _) first).trans ?_
        rw [Option.bind_some]
        dsimp only
        have hw : IntKind.wrap .i64 ((i : Int) + (j : Int)) = ((i + j : Nat) : Int) := by rw [wrapi (by omega)]; omega
        rw [cond_true, hw, inb_t (by omega) (by omega), cond_true, Int.toNat_natCast, blt_t (by omega), cond_true, inb_t (by omega) (by omega), cond_true, digit_eq, Option.bind_some, cond_true, cond_true, Int.toNat_natCast, hdd, wrapi (n := d * l2.getD j 0) (by omega)]
        generalize d * l2.getD j 0 = q at *
        generalize out.getD (i + j) 0 = p at *
        rw [wrapi (n := p + q) (by omega), wrapi (n := p + q + c) (by omega), tdiv10 (by omega), tmod10 (by omega), wrapi (n := (p + q + c) / 10) (by omega), wrapi (n := (j : Int) + 1) (by omega)]
        rfl
      refine ⟨_, once, ⟨j + 1, _, _, rfl, D10_set ho _ (by omega) (by omega), by rw [List.length_set, hlen], by omega, by omega, by omega, ?_⟩, ?_⟩
      · rw [V10_set (by omega), ← hv, V10_drop l2 j]
        generalize l2.getD j 0 = q at *
        generalize out.getD (i + j) 0 = p at *
        have := Int.mul_ediv_add_emod (p + d * q + c) 10
        generalize (p + d * q + c) / 10 = u at *
        generalize (p + d * q + c) % 10 = w at *
        rw [show i + (j + 1) = i + j + 1 by omega, Int.pow_succ]
        generalize (10 : Int) ^ (i + j) = P at *
        grind
      · dsimp only; omega
    · right
      refine ⟨(l1, l2, (i : Int), out), ?_, out, rfl, ho, hlen, ?_⟩
      · unfold pyxref1_MulNat.l7.once
        dsimp only
        rw [cf (by omega), decide_eq_false (by omega)]
        rfl
      · rw [V10_drop_all (by omega)] at hv
        rw [← hv, show c = 0 by omega]; simp) k (l1, l2, (i : Int), 0, ((0 : Nat) : Int), out0) ⟨0, 0, out0, rfl, h0, rfl, by decide, by decide, by omega, by rw [← hTT]; simp⟩ (by dsimp only; omega)
  exact ⟨out, e1, e2, e3, e4⟩
theorem MulNat_eq {k : Nat} (hk : 602 < k) {a b : Nat} (ha : a < 10 ^ 200) (hb : b < 10 ^ 200) : pyxref1_MulNat.f k (dig a) (dig b) = some (dig (a * b)) := by
  have hl1 := dig_len ha
  have hl2 := dig_len hb
  have h1 := D10_dig a
  have h2 := D10_dig b
  have v1 := V10_dig a
  have v2 := V10_dig b
  generalize dig a = l1 at *
  generalize dig b = l2 at *
  unfold pyxref1_MulNat.f
  have hw : IntKind.wrap .i64 (IntKind.wrap .i64 ((l1.length : Int) + (l2.length : Int)) + 1) = ((l1.length + l2.length + 1 : Nat) : Int) := by rw [wrapi (n := (l1.length : Int) + (l2.length : Int)) (by omega), wrapi (by omega)]; omega
  rw [hw, decide_eq_true (show (0 : Int) ≤ ((l1.length + l2.length + 1 : Nat) : Int) by omega), decide_eq_true (show ((l1.length + l2.length + 1 : Nat) : Int) = ((l1.length + l2.length + 1 : Nat) : Int) from rfl), decide_eq_true (show ((l1.length + l2.length + 1 : Nat) : Int) * 8 ≤ 140737488355328 by omega), Bool.and_true, Bool.and_true, cond_true, Int.toNat_natCast]
  generalize hn : l1.length + l2.length + 1 = n at *
  obtain ⟨y, e1, e2, e3, e4⟩ := iter_rule (once := pyxref1_MulNat.l3.once k) (fun x => ∃ (i : Nat) (out : List Int), x = (l1, l2, (i : Int), out) ∧ i ≤ l1.length ∧ D10 out ∧ out.length = n ∧ V10 out = V10 (l1.take i) * V10 l2)
    (fun x => l1.length - x.2.2.1.toNat) (fun y => D10 y ∧ y.length = n ∧ V10 y = V10 l1 * V10 l2) (by
    rintro x ⟨i, out, rfl, hi, ho, hlen, hv⟩
    by_cases run : i < l1.length
    · left
      have htk := take_succ10 l1 run
      have hT : V10 out + 10 ^ i * (l1.getD i 0 * V10 l2) = V10 (l1.take (i + 1)) * V10 l2 := by rw [hv, htk]; grind
      have q1 := V10_nonneg (D10_take h1 (i + 1))
      have q2 := V10_take_lt h1 (i := i + 1) (by omega)
      have q3 := V10_nonneg h2
      have q4 := V10_lt h2
      have q5 : 0 < (10 : Int) ^ l2.length := Int.pow_pos (by decide)
      have q6 : V10 (l1.take (i + 1)) * V10 l2 ≤ V10 (l1.take (i + 1)) * 10 ^ l2.length := Int.mul_le_mul_of_nonneg_left (by omega) q1
      have q7 : V10 (l1.take (i + 1)) * 10 ^ l2.length < 10 ^ (i + 1) * 10 ^ l2.length := Int.mul_lt_mul_of_pos_right q2 q5
      have q8 : (10 : Int) ^ (i + 1) * 10 ^ l2.length ≤ 10 ^ n := by
        rw [← Int.pow_add, show (10 : Int) ^ (i + 1 + l2.length) = ((10 ^ (i + 1 + l2.length) : Nat) : Int) by simp, show (10 : Int) ^ n = ((10 ^ n : Nat) : Int) by simp]
        have := Nat.pow_le_pow_right (show 0 < 10 by decide) (show i + 1 + l2.length ≤ n by omega)
        omega
      obtain ⟨out', r1, r2, r3, r4⟩ := Mul_row10 (k := k) (i := i) hk h1 h2 run ho (by omega) (by omega) (by rw [hT, hlen]; omega)
      refine ⟨(l1, l2, ((i + 1 : Nat) : Int), out'), ?_, ⟨i + 1, out', rfl, by omega, r2, by omega, by rw [r4, hT]⟩, by dsimp only; omega⟩
      unfold pyxref1_MulNat.l3.once
      dsimp only
      rw [ct (by omega), r1, Option.bind_some]
      dsimp only
      rw [wrapi (by omega)]
      rfl
    · right
      refine ⟨out, ?_, ho, hlen, ?_⟩
      · unfold pyxref1_MulNat.l3.once
        dsimp only
        rw [cf (by omega)]
      · rw [hv, List.take_of_length_le (by omega)]) k (l1, l2, ((0 : Nat) : Int), List.replicate n 0) ⟨0, _, rfl, by omega, D10_replicate n, by simp, by rw [V10_replicate]; simp [V10]⟩ (by dsimp only; omega)
  have e1' : iter (pyxref1_MulNat.l3.once k) k (l1, l2, 0, List.replicate n 0) = some y := e1
  rw [e1', Option.bind_some, trim_eq e2 (by omega) (by omega), e4, Option.bind_some, v1, v2, ← Int.natCast_mul, Int.toNat_natCast]
theorem Div_sub {k : Nat} (hk : 602 < k) (l1 : List Int) {a b : Nat} (hb : 0 < b) (hb' : b < 10 ^ 100) (ha : a < 10 * b) {i : Nat} {q : List Int} (hi : i < q.length) (hq : q.getD i 0 = 0) (hqb : q.length ≤ 600) :
    iter (pyxref1_DivNat.l7.once k) k (l1, dig b, dig a, (i : Int), q) = some (l1, dig b, dig (a % b), (i : Int), q.set i ((a / b : Nat) : Int)) := by
  have hq0 : q.set i 0 = q := by
    have : q[i] = 0 := by rw [List.getD_eq_getElem?_getD, List.getElem?_eq_getElem hi] at hq; exact hq
    rw [← this, List.set_getElem_self]
  obtain ⟨y, e1, e2⟩ := iter_rule (once := pyxref1_DivNat.l7.once k) (fun x => ∃ c : Nat, x = (l1, dig b, dig (a - b * c), (i : Int), q.set i (c : Int)) ∧ b * c ≤ a ∧ c ≤ 9)
    (fun x => 10 - (x.2.2.2.2.getD i 0).toNat) (fun y => y = (l1, dig b, dig (a % b), (i : Int), q.set i ((a / b : Nat) : Int))) (by
    rintro x ⟨c, rfl, hc, hc9⟩
    have hlen : (q.set i (c : Int)).length = q.length := List.length_set
    have hg : (q.set i (c : Int)).getD i 0 = (c : Int) := by rw [List.getD_eq_getElem?_getD, List.getElem?_set_self hi, Option.getD_some]
    have hcmp := CmpNat_eq (k := k) (a := a - b * c) (b := b) (by omega) (by omega) (by omega)
    by_cases run : b ≤ a - b * c
    · left
      have hc' : b * (c + 1) ≤ a := by rw [Nat.mul_add]; omega
      have hc9' : c + 1 ≤ 9 := by
        refine Nat.le_of_not_lt fun h => ?_
        have := Nat.mul_le_mul_left b (show 10 ≤ c + 1 by omega)
        omega
      refine ⟨(l1, dig b, dig (a - b * (c + 1)), (i : Int), q.set i ((c + 1 : Nat) : Int)), ?_, ⟨c + 1, rfl, hc', hc9'⟩, ?_⟩
      · unfold pyxref1_DivNat.l7.once
        dsimp only
        rw [hcmp, Option.bind_some, if_neg (by omega)]
        rw [show decide ((if a - b * c = b then (0 : Int) else 1) ≥ 0) = true by split <;> rfl, cond_true, SubNat_eq (by omega) (by omega) run, Option.bind_some, hlen, inb_t (by omega) (by omega), cond_true, Int.toNat_natCast, blt_t hi, cond_true, cond_true, cond_true, hg, List.set_set, wrapi (by omega), Nat.mul_add, Nat.mul_one, Nat.sub_sub]
        rfl
      · dsimp only
        rw [hg, show (q.set i ((c + 1 : Nat) : Int)).getD i 0 = ((c + 1 : Nat) : Int) by rw [List.getD_eq_getElem?_getD, List.getElem?_set_self hi, Option.getD_some]]
        omega
    · right
      have hdiv : a / b = c := Nat.div_eq_of_lt_le (by rw [Nat.mul_comm]; exact hc) (by rw [Nat.succ_mul, Nat.mul_comm]; omega)
      have hmod : a % b = a - b * c := by have := Nat.div_add_mod a b; rw [hdiv] at this; omega
      refine ⟨_, ?_, rfl⟩
      rw [hdiv, hmod]
      unfold pyxref1_DivNat.l7.once
      dsimp only
      rw [hcmp, Option.bind_some, if_pos (by omega)]
      rfl) k (l1, dig b, dig a, (i : Int), q) ⟨0, by rw [Nat.mul_zero, Nat.sub_zero, show ((0 : Nat) : Int) = 0 from rfl, hq0], by omega, by omega⟩ (by dsimp only; omega)
  rw [e1, e2]
theorem DivNat_eq {k : Nat} (hk : 602 < k) {a b : Nat} (ha : a < 10 ^ 200) (hb : 0 < b) (hb' : b < 10 ^ 100) : pyxref1_DivNat.f k (dig a) (dig b) = some (dig (a / b), dig (a % b)) := by
  have hl1 := dig_len ha
  have h1 := D10_dig a
  have v1 := V10_dig a
  generalize dig a = l1 at *
  have hlb := dig_len hb'
  unfold pyxref1_DivNat.f
  rw [decide_eq_true (show (0 : Int) ≤ (l1.length : Int) by omega), decide_eq_true (show (l1.length : Int) = (l1.length : Int) from rfl), decide_eq_true (show (l1.length : Int) * 8 ≤ 140737488355328 by omega), Bool.and_true, Bool.and_true, cond_true, Int.toNat_natCast, wrapi (by omega)]
  obtain ⟨y, e1, r, q, rfl, e2, e3, e4, e5⟩ := iter_rule (once := pyxref1_DivNat.l4.once k) (fun x => ∃ (t r : Nat) (q : List Int), x = (l1, dig b, dig r, (t : Int) - 1, q) ∧ t ≤ l1.length ∧ q.length = l1.length ∧ D10 q ∧ r < b ∧ (∀ j, j < t → q.getD j 0 = 0) ∧ V10 (l1.drop t) = (b : Int) * V10 (q.drop t) + r)
    (fun x => (x.2.2.2.1 + 1).toNat) (fun y => ∃ (r : Nat) (q : List Int), y = (dig r, q) ∧ D10 q ∧ q.length = l1.length ∧ r < b ∧ V10 l1 = (b : Int) * V10 q + r) (by
    rintro x ⟨t, r, q, rfl, ht, hql, hq, hr, hz, hv⟩
    cases t with
    | zero =>
      right
      refine ⟨(dig r, q), ?_, r, q, rfl, hq, hql, hr, hv⟩
      unfold pyxref1_DivNat.l4.once
      rfl
    | succ t =>
      left
      have bd := D10_getD h1 t
      obtain ⟨d, hd⟩ : ∃ d : Nat, l1.getD t 0 = (d : Int) := ⟨(l1.getD t 0).toNat, by omega⟩
      rw [hd] at bd
      have hlr : (dig r).length ≤ 100 := dig_len (by omega)
      have htr : pyxref1_trim.f k ([(d : Int)] ++ dig r) = some (dig (d + 10 * r)) := by
        rw [trim_eq (D10_append (D10_cons bd.1 bd.2 D10_nil) (D10_dig r)) (by simp; omega) (by simp; omega), List.singleton_append, V10, V10_dig]
        exact congrArg (fun z => some (dig z)) (by omega)
      have hsub := Div_sub (k := k) hk l1 hb hb' (a := d + 10 * r) (by omega) (i := t) (q := q) (by omega) (hz t (by omega)) (by omega)
      have hmod := Nat.mod_lt (d + 10 * r) hb
      have hdlt : (d + 10 * r) / b < 10 := by rw [Nat.div_lt_iff_lt_mul hb]; omega
      refine ⟨(l1, dig b, dig ((d + 10 * r) % b), (t : Int) - 1, q.set t (((d + 10 * r) / b : Nat) : Int)), ?_, ⟨t, _, _, rfl, by omega, by rw [List.length_set, hql], D10_set hq _ (Int.natCast_nonneg _) (Int.ofNat_lt.2 hdlt), hmod, ?_, ?_⟩, by dsimp only; omega⟩
      · unfold pyxref1_DivNat.l4.once
        dsimp only
        rw [show ((t + 1 : Nat) : Int) - 1 = (t : Int) by omega, ct (by omega), inb_t (by omega) (by omega), cond_true, Int.toNat_natCast, hd, okLen_t (by simp only [List.length_cons, List.length_nil]; omega), cond_true, htr, Option.bind_some, hsub, Option.bind_some]
        dsimp only
        rw [wrapi (show -9223372036854775808 ≤ (t : Int) - 1 ∧ (t : Int) - 1 < 9223372036854775808 by omega)]
      · intro j hj
        rw [List.getD_eq_getElem?_getD, List.getElem?_set_ne (by omega), ← List.getD_eq_getElem?_getD]
        exact hz j (by omega)
      · have hdr : (q.set t (((d + 10 * r) / b : Nat) : Int)).getD t 0 = (((d + 10 * r) / b : Nat) : Int) := by rw [List.getD_eq_getElem?_getD, List.getElem?_set_self (by omega), Option.getD_some]
        rw [V10_drop l1 t, V10_drop (q.set t _) t, hdr, hd, hv, List.drop_set_of_lt (by omega)]
        have := Nat.div_add_mod (d + 10 * r) b
        generalize (d + 10 * r) / b = u at *
        generalize (d + 10 * r) % b = w at *
        have h2 : (b : Int) * (u : Int) + (w : Int) = (d : Int) + 10 * (r : Int) := by rw [← Int.natCast_mul]; omega
        grind) k (l1, dig b, dig 0, (l1.length : Int) - 1, List.replicate l1.length 0) ⟨l1.length, 0, _, rfl, Nat.le_refl _, by simp, D10_replicate _, hb, fun j hj => by rw [List.getD_eq_getElem?_getD, List.getElem?_replicate, if_pos hj]; rfl, by rw [V10_drop_all (Nat.le_refl _), V10_drop_all (by simp)]; simp⟩ (by dsimp only; omega)
  rw [dig_0] at e1
  have p := V10_nonneg e2
  rw [e1, Option.bind_some, trim_eq e2 (by omega) (by omega), Option.bind_some]
  obtain ⟨n, hn⟩ : ∃ n : Nat, V10 q = (n : Int) := ⟨(V10 q).toNat, by omega⟩
  rw [hn] at e5 ⊢
  rw [v1] at e5
  have e6 : a = b * n + r := by rw [← Int.natCast_mul] at e5; omega
  have h3 : a / b = n := by rw [e6, Nat.mul_add_div hb, Nat.div_eq_of_lt e4, Nat.add_zero]
  have h4 : a % b = r := by rw [e6, Nat.mul_add_mod, Nat.mod_eq_of_lt e4]
  rw [h3, h4, Int.toNat_natCast]
theorem drop_le {l : List Int} (h : D10 l) {t : Nat} (ht : t ≤ l.length) : V10 (l.drop t) ≤ V10 l := by
  rw [V10_split l ht]
  have p1 := V10_nonneg (D10_take h t)
  have p2 := V10_nonneg (D10_drop h t)
  have p3 : 0 < (10 : Int) ^ t := Int.pow_pos (by decide)
  have : 1 * V10 (l.drop t) ≤ 10 ^ t * V10 (l.drop t) := Int.mul_le_mul_of_nonneg_right (by omega) p2
  omega
theorem short_eq {k : Nat} (hk : 602 < k) {n : Nat} (hn : n < 18446744073709551616) : pyxref1_short.f k (dig n) = some (n : Int) := by
  have hl := dig_len (n := n) (m := 20) (by omega)
  have h := D10_dig n
  have v := V10_dig n
  generalize dig n = l at *
  unfold pyxref1_short.f
  rw [wrapi (by omega)]
  obtain ⟨y, e1, e2⟩ := iter_rule (once := pyxref1_short.l3.once k) (fun x => ∃ t : Nat, x = (l, V10 (l.drop t), (t : Int) - 1) ∧ t ≤ l.length) (fun x => (x.2.2 + 1).toNat) (fun y => y = V10 l) (by
    rintro x ⟨t, rfl, ht⟩
    cases t with
    | zero =>
      right
      exact ⟨V10 l, by unfold pyxref1_short.l3.once; rfl, rfl⟩
    | succ t =>
      left
      have p1 := drop_le h ht
      have p2 := drop_le h (t := t) (by omega)
      have p3 := V10_nonneg (D10_drop h (t + 1))
      have p4 := V10_nonneg (D10_drop h t)
      have p5 := D10_getD h t
      have p6 := V10_drop l t
      refine ⟨(l, V10 (l.drop t), (t : Int) - 1), ?_, ⟨t, rfl, by omega⟩, by dsimp only; omega⟩
      unfold pyxref1_short.l3.once
      dsimp only
      rw [show ((t + 1 : Nat) : Int) - 1 = (t : Int) by omega, ct (by omega), inb_t (by omega) (by omega), cond_true, Int.toNat_natCast, wrapu (n := 10 * V10 (l.drop (t + 1))) (by omega), wrapu (n := l.getD t 0) (by omega), wrapu (by omega), wrapi (by omega), p6, Int.add_comm]) k (l, 0, (l.length : Int) - 1) ⟨l.length, by rw [V10_drop_all (Nat.le_refl _)], Nat.le_refl _⟩ (by dsimp only; omega)
  rw [e1, Option.bind_some, e2, v]
theorem Nat2_eq {k : Nat} (hk : 602 < k) {x : Int × Int} (hx : W2 x) {n : Nat} (hn : N2 x = (n : Int)) : pyxref1_Nat2.f k x = some (dig n) := by
  obtain ⟨a, b⟩ := x
  obtain ⟨⟨h1, h2⟩, h3, h4⟩ := hx
  unfold N2 at hn
  dsimp only at *
  obtain ⟨a, rfl⟩ := Int.eq_ofNat_of_zero_le h1
  obtain ⟨b, rfl⟩ := Int.eq_ofNat_of_zero_le h3
  unfold pyxref1_Nat2.f
  dsimp only
  rw [Word_eq (by omega) (by omega), Option.bind_some, radix_eq (by omega), Option.bind_some, MulNat_eq hk (by omega) (by omega), Option.bind_some, Word_eq (by omega) (by omega), Option.bind_some, AddNat_eq (by omega) (by omega) (by omega), Option.bind_some]
  exact congrArg (fun z => some (dig z)) (by omega)
theorem TenNat_eq {k : Nat} {i : Nat} (hi : i ≤ 100) : pyxref1_TenNat.f k (i : Int) = some (dig (10 ^ i)) := by
  unfold pyxref1_TenNat.f
  have hw : IntKind.wrap .i64 ((i : Int) + 1) = ((i + 1 : Nat) : Int) := by rw [wrapi (by omega)]; omega
  rw [hw, decide_eq_true (show (0 : Int) ≤ ((i + 1 : Nat) : Int) by omega), decide_eq_true (show ((i + 1 : Nat) : Int) = ((i + 1 : Nat) : Int) from rfl), decide_eq_true (show ((i + 1 : Nat) : Int) * 8 ≤ 140737488355328 by omega), Bool.and_true, Bool.and_true, cond_true, Int.toNat_natCast, List.length_replicate, inb_t (by omega) (by omega), cond_true, Int.toNat_natCast, blt_t (by omega), cond_true]
  have hd : D10 ((List.replicate (i + 1) (0 : Int)).set i 1) := D10_set (D10_replicate _) _ (by decide) (by decide)
  have hlast : ((List.replicate (i + 1) (0 : Int)).set i 1).getLast? ≠ some 0 := by
    rw [List.getLast?_eq_getElem?, List.length_set, List.length_replicate, Nat.add_sub_cancel, List.getElem?_set_self (by simp)]
    simp
  rw [dig_of hd hlast, V10_set (by simp), V10_replicate]
  have : (List.replicate (i + 1) (0 : Int)).getD i 0 = 0 := by simp [List.getD_eq_getElem?_getD, List.getElem?_replicate]
  rw [this]
  refine congrArg (fun z => some (dig z)) ?_
  rw [show (0 : Int) + (1 - 0) * 10 ^ i = ((10 ^ i : Nat) : Int) by simp, Int.toNat_natCast]
end Go.Proofs.Ytlaogfkgkpgofaa.Pure
