/- What the plain sums on lists of digits compute: words, trim, sums, differences, order. No conditions but size. -/
import Derived.Test.YtlaogfkgkpgofaaDt
import Derived.Test.YtlaogfkgkpgofaaDg
namespace Go.Proofs.Ytlaogfkgkpgofaa.Pure
set_option linter.unusedVariables false
set_option linter.unusedSimpArgs false
open Go Go.Ev Go.Lm Go.Pu Go.Dg
theorem dig_1 : dig 1 = [1] := by rw [dig_pos (by decide), show 1 / 10 = 0 by decide, dig_0]; rfl
theorem Word_iter (k : Nat) : ∀ (m f n : Nat) (acc : List Int), m < f → n < 10 ^ m → n < 18446744073709551616 → acc.length + m ≤ 1000 → iter (pyxref1_Word.l2.once k) f ((n : Int), acc) = some (acc ++ dig n) := by
  have stop : ∀ (f : Nat) (acc : List Int), 0 < f → iter (pyxref1_Word.l2.once k) f (((0 : Nat) : Int), acc) = some (acc ++ dig 0) := by
    intro f acc hf
    obtain ⟨f, rfl⟩ : ∃ g, f = g + 1 := ⟨f - 1, by omega⟩
    rw [dig_0, List.append_nil]
    refine iter_stop ?_
    unfold pyxref1_Word.l2.once
    rfl
  intro m
  induction m with
  | zero =>
    intro f n acc hf hn _ _
    obtain rfl : n = 0 := by simp at hn; exact hn
    exact stop f acc (by omega)
  | succ m ih =>
    intro f n acc hf hn hn' hl
    by_cases h0 : n = 0
    · subst h0; exact stop f acc (by omega)
    · obtain ⟨f, rfl⟩ : ∃ g, f = g + 1 := ⟨f - 1, by omega⟩
      have once : pyxref1_Word.l2.once k ((n : Int), acc) = some (.inl (((n / 10 : Nat) : Int), acc ++ [((n % 10 : Nat) : Int)])) := by
        unfold pyxref1_Word.l2.once
        dsimp only
        rw [ct (by omega), okLen_t (by simp only [List.length_cons, List.length_nil]; omega), cond_true, show Int.tdiv (n : Int) 10 = ((n / 10 : Nat) : Int) from rfl, show Int.tmod (n : Int) 10 = ((n % 10 : Nat) : Int) from rfl, wrapu (by omega), wrapi (by omega)]
      rw [iter_step once, ih f (n / 10) _ (by omega) (by rw [Nat.pow_succ] at hn; omega) (by omega) (by simp only [List.length_append, List.length_cons, List.length_nil]; omega), dig_pos h0, List.append_assoc]
      rfl
theorem Word_eq {k : Nat} (hk : 30 < k) {n : Nat} (h : n < 18446744073709551616) : pyxref1_Word.f k (n : Int) = some (dig n) := by
  unfold pyxref1_Word.f
  rw [Word_iter k 20 k n [] (by omega) (by omega) h (by simp), Option.bind_some, List.nil_append]
theorem digit_eq (k : Nat) (l : List Int) (i : Nat) : pyxref1_digit.f k l (i : Int) = some (l.getD i 0) := by
  unfold pyxref1_digit.f
  by_cases h : i < l.length
  · rw [ct (by omega), inb_t (by omega) (by omega), cond_true]; rfl
  · rw [cf (by omega), List.getD_eq_getElem?_getD, List.getElem?_eq_none (by omega)]; rfl
theorem trim_iter (k : Nat) : ∀ (n : Nat) (l : List Int), D10 l → l.length ≤ 1000 → l.length < n → iter (pyxref1_trim.l1.once k) n l = some (dig (V10 l).toNat) := by
  intro n
  induction n with
  | zero => intro l _ _ h; omega
  | succ n ih =>
    intro l hd hl hn
    rcases List.eq_nil_or_concat l with rfl | ⟨a, d, rfl⟩
    · rw [V10, show (0 : Int).toNat = 0 from rfl, dig_0]
      exact iter_stop (by unfold pyxref1_trim.l1.once; rfl)
    · rw [List.concat_eq_append] at *
      have hlen : (a ++ [d]).length = a.length + 1 := by simp
      have hg : (a ++ [d]).getD a.length 0 = d := by simp
      have hw : IntKind.wrap .i64 (((a.length + 1 : Nat) : Int) - 1) = (a.length : Int) := by rw [wrapi (by omega)]; omega
      have once : pyxref1_trim.l1.once k (a ++ [d]) = cond (d == 0) (some (.inl a)) (some (.inr (a ++ [d]))) := by
        unfold pyxref1_trim.l1.once
        dsimp only
        rw [hlen, ct (by omega), hw, inb_t (by omega) (by omega), cond_true, Option.bind_some]
        dsimp only
        rw [hlen, hw, Int.toNat_natCast, hg, inS_t (by omega) (by omega) (by omega), cond_true, List.take_left]
      by_cases h0 : d = 0
      · subst h0
        rw [iter_step once, ih a (D10_left hd) (by omega) (by omega), V10_append]
        simp [V10]
      · rw [show (d == 0) = false by simp [h0], cond_false] at once
        rw [iter_stop once]
        exact congrArg some (dig_of hd (by simp [h0]))
theorem trim_eq {k : Nat} {l : List Int} (hd : D10 l) (hl : l.length ≤ 1000) (hk : l.length < k) : pyxref1_trim.f k l = some (dig (V10 l).toNat) := by
  unfold pyxref1_trim.f
  rw [trim_iter k k l hd hl hk, Option.bind_some]
theorem tdiv10 {s : Int} (h : 0 ≤ s) : Int.tdiv s 10 = s / 10 := Int.tdiv_eq_ediv_of_nonneg h
theorem tmod10 {s : Int} (h : 0 ≤ s) : Int.tmod s 10 = s % 10 := Int.tmod_eq_emod_of_nonneg h
theorem AddNat_raw {k : Nat} (hk : 600 < k) {l1 l2 : List Int} (h1 : D10 l1) (h2 : D10 l2) (hl1 : l1.length ≤ 400) (hl2 : l2.length ≤ 400) : pyxref1_AddNat.f k l1 l2 = some (dig (V10 l1 + V10 l2).toNat) := by
  unfold pyxref1_AddNat.f
  obtain ⟨M, hM1, hM2, hM3, hM4⟩ : ∃ M : Nat, l1.length ≤ M ∧ l2.length ≤ M ∧ M ≤ 400 ∧ (M = l1.length ∨ M = l2.length) := ⟨max l1.length l2.length, by omega, by omega, by omega, by omega⟩
  obtain ⟨y, e1, e2, e3, e4⟩ := iter_rule (once := pyxref1_AddNat.l4.once k) (fun x => ∃ (i : Nat) (c : Int) (out : List Int), x = (l1, l2, out, c, (i : Int)) ∧ out.length = i ∧ D10 out ∧ (c = 0 ∨ c = 1) ∧ (i ≤ M ∨ (i = M + 1 ∧ c = 0)) ∧ V10 out + 10 ^ i * (c + V10 (l1.drop i) + V10 (l2.drop i)) = V10 l1 + V10 l2)
    (fun x => M + 1 - x.2.2.2.2.toNat) (fun y => D10 y ∧ y.length ≤ 401 ∧ V10 y = V10 l1 + V10 l2) (by
    rintro x ⟨i, c, out, rfl, ho, hd, hc, hi, hv⟩
    have b1 := D10_getD h1 i
    have b2 := D10_getD h2 i
    by_cases run : i < l1.length ∨ i < l2.length ∨ c > 0
    · left
      have once : pyxref1_AddNat.l4.once k (l1, l2, out, c, (i : Int)) = some (.inl (l1, l2, out ++ [(l1.getD i 0 + l2.getD i 0 + c) % 10], (l1.getD i 0 + l2.getD i 0 + c) / 10, ((i + 1 : Nat) : Int))) := by
        unfold pyxref1_AddNat.l4.once
        dsimp only
        have tail : ∀ (o : Option (List Int × List Int × List Int × Int × Int × Bool)), o = some (l1, l2, out, c, (i : Int), true) → (o.bind fun y12 => (cond (y12.2.2.2.2.2) ((pyxref1_digit.f k y12.1 y12.2.2.2.2.1).bind fun t13 => ((pyxref1_digit.f k y12.2.1 y12.2.2.2.2.1).bind fun t14 => (cond (okLen (List.length y12.2.2.1 + List.length [Int.tmod (IntKind.wrap .i64 ((IntKind.wrap .i64 (t13 + t14)) + y12.2.2.2.1)) 10]) 8) (some (.inl (y12.1, y12.2.1, y12.2.2.1 ++ [Int.tmod (IntKind.wrap .i64 ((IntKind.wrap .i64 (t13 + t14)) + y12.2.2.2.1)) 10], IntKind.wrap .i64 (Int.tdiv (IntKind.wrap .i64 ((IntKind.wrap .i64 (t13 + t14)) + y12.2.2.2.1)) 10), IntKind.wrap .i64 (y12.2.2.2.2.1 + 1)))) none))) (some (.inr y12.2.2.1)))) = some ((.inl (l1, l2, out ++ [(l1.getD i 0 + l2.getD i 0 + c) % 10], (l1.getD i 0 + l2.getD i 0 + c) / 10, ((i + 1 : Nat) : Int))) : (List Int × List Int × List Int × Int × Int) ⊕ (List Int)) := by
          rintro o rfl
          rw [Option.bind_some]
          dsimp only
          rw [cond_true, digit_eq, Option.bind_some, digit_eq, Option.bind_some]
          generalize l1.getD i 0 = p at *
          generalize l2.getD i 0 = q at *
          rw [okLen_t (by simp only [List.length_cons, List.length_nil]; omega), cond_true, wrapi (n := p + q) (by omega), wrapi (n := p + q + c) (by omega), tdiv10 (by omega), tmod10 (by omega), wrapi (n := (p + q + c) / 10) (by omega), wrapi (n := (i : Int) + 1) (by omega)]
          rfl
        refine tail _ ?_
        by_cases r1 : i < l1.length
        · rw [ct (by omega)]
        · rw [cf (by omega)]
          by_cases r2 : i < l2.length
          · rw [ct (by omega)]
          · rw [cf (by omega), decide_eq_true (by omega)]
      refine ⟨_, once, ⟨i + 1, _, _, rfl, by simp [ho], D10_append hd (D10_cons (by omega) (by omega) D10_nil), by omega, ?_, ?_⟩, ?_⟩
      · by_cases hlt : i < M
        · left; omega
        · right
          have g1 : l1.getD i 0 = 0 := by rw [List.getD_eq_getElem?_getD, List.getElem?_eq_none (by omega)]; rfl
          have g2 : l2.getD i 0 = 0 := by rw [List.getD_eq_getElem?_getD, List.getElem?_eq_none (by omega)]; rfl
          rw [g1, g2]; omega
      · rw [V10_append, ho, ← hv, V10_drop l1 i, V10_drop l2 i]
        generalize l1.getD i 0 = p at *
        generalize l2.getD i 0 = q at *
        have := Int.mul_ediv_add_emod (p + q + c) 10
        simp only [V10]
        grind
      · dsimp only; omega
    · right
      refine ⟨out, ?_, hd, by omega, ?_⟩
      · unfold pyxref1_AddNat.l4.once
        dsimp only
        rw [cf (by omega), cf (by omega), decide_eq_false (by omega)]
        rfl
      · rw [V10_drop_all (by omega), V10_drop_all (by omega)] at hv
        rw [← hv, show c = 0 by omega]; simp) k (l1, l2, [], 0, ((0 : Nat) : Int)) ⟨0, 0, [], rfl, rfl, D10_nil, .inl rfl, .inl (by omega), by simp [V10]⟩ (by dsimp only; omega)
  have e1' : iter (pyxref1_AddNat.l4.once k) k (l1, l2, [], 0, 0) = some y := e1
  rw [e1', Option.bind_some, trim_eq e2 (by omega) (by omega), e4, Option.bind_some]
theorem AddNat_eq {k : Nat} (hk : 600 < k) {a b : Nat} (ha : a < 10 ^ 200) (hb : b < 10 ^ 200) : pyxref1_AddNat.f k (dig a) (dig b) = some (dig (a + b)) := by
  have l1 := dig_len ha
  have l2 := dig_len hb
  rw [AddNat_raw hk (D10_dig a) (D10_dig b) (by omega) (by omega), V10_dig, V10_dig]
  exact congrArg (fun z => some (dig z)) (by omega)
theorem SubNat_eq {k : Nat} (hk : 600 < k) {a b : Nat} (ha : a < 10 ^ 200) (hb : b ≤ a) : pyxref1_SubNat.f k (dig a) (dig b) = some (dig (a - b)) := by
  have hl1 := dig_len ha
  have hl2 := dig_len (Nat.lt_of_le_of_lt hb ha)
  have h1 := D10_dig a
  have h2 := D10_dig b
  have v1 := V10_dig a
  have v2 := V10_dig b
  generalize dig a = l1 at *
  generalize dig b = l2 at *
  unfold pyxref1_SubNat.f
  obtain ⟨y, e1, e2, e3, e4⟩ := iter_rule (once := pyxref1_SubNat.l4.once k) (fun x => ∃ (i : Nat) (c : Int) (out : List Int), x = (l1, l2, out, c, (i : Int)) ∧ out.length = i ∧ D10 out ∧ (c = 0 ∨ c = 1) ∧ i ≤ l1.length ∧ V10 out + 10 ^ i * (V10 (l1.drop i) - V10 (l2.drop i) - c) = V10 l1 - V10 l2)
    (fun x => l1.length - x.2.2.2.2.toNat) (fun y => D10 y ∧ y.length ≤ 200 ∧ V10 y = V10 l1 - V10 l2) (by
    rintro x ⟨i, c, out, rfl, ho, hd, hc, hi, hv⟩
    have b1 := D10_getD h1 i
    have b2 := D10_getD h2 i
    by_cases run : i < l1.length
    · left
      have once : pyxref1_SubNat.l4.once k (l1, l2, out, c, (i : Int)) = some (.inl (l1, l2, out ++ [(l1.getD i 0 - l2.getD i 0 - c) % 10], if l1.getD i 0 - l2.getD i 0 - c < 0 then 1 else 0, ((i + 1 : Nat) : Int))) := by
        unfold pyxref1_SubNat.l4.once
        dsimp only
        rw [ct (by omega), inb_t (by omega) (by omega), cond_true, digit_eq, Option.bind_some, Int.toNat_natCast]
        generalize l1.getD i 0 = p at *
        generalize l2.getD i 0 = q at *
        rw [wrapi (n := p - q) (by omega), wrapi (n := p - q - c) (by omega)]
        by_cases hn : p - q - c < 0
        · rw [ct hn, Option.bind_some]
          dsimp only
          rw [wrapi (n := p - q - c + 10) (by omega), okLen_t (by simp only [List.length_cons, List.length_nil]; omega), cond_true, Option.bind_some]
          dsimp only
          rw [wrapi (n := (i : Int) + 1) (by omega), if_pos hn, show (p - q - c) % 10 = p - q - c + 10 by omega]
          rfl
        · rw [cf hn, Option.bind_some]
          dsimp only
          rw [okLen_t (by simp only [List.length_cons, List.length_nil]; omega), cond_true, Option.bind_some]
          dsimp only
          rw [wrapi (n := (i : Int) + 1) (by omega), if_neg hn, show (p - q - c) % 10 = p - q - c by omega]
          rfl
      refine ⟨_, once, ⟨i + 1, _, _, rfl, by simp [ho], D10_append hd (D10_cons (by omega) (by omega) D10_nil), by split <;> omega, by omega, ?_⟩, ?_⟩
      · rw [V10_append, ho, ← hv, V10_drop l1 i, V10_drop l2 i]
        generalize l1.getD i 0 = p at *
        generalize l2.getD i 0 = q at *
        have hs : (p - q - c) % 10 = p - q - c + 10 * (if p - q - c < 0 then 1 else 0) := by split <;> omega
        simp only [V10]
        generalize (if p - q - c < 0 then (1 : Int) else 0) = c' at *
        rw [hs]
        grind
      · dsimp only; omega
    · right
      refine ⟨out, ?_, hd, by omega, ?_⟩
      · unfold pyxref1_SubNat.l4.once
        dsimp only
        rw [cf (by omega)]
      · rw [V10_drop_all (l := l1) (by omega)] at hv
        have p1 := V10_lt hd
        rw [ho] at p1
        have p2 := V10_nonneg (D10_drop h2 i)
        have p3 : 0 < (10 : Int) ^ i := Int.pow_pos (by decide)
        by_cases hz : V10 (l2.drop i) + c = 0
        · rw [← hv, show 0 - V10 (l2.drop i) - c = 0 by omega]; simp
        · exfalso
          have : (10 : Int) ^ i * 1 ≤ 10 ^ i * (V10 (l2.drop i) + c) := Int.mul_le_mul_of_nonneg_left (by omega) (Int.le_of_lt p3)
          have e : (10 : Int) ^ i * (0 - V10 (l2.drop i) - c) = - (10 ^ i * (V10 (l2.drop i) + c)) := by grind
          rw [e] at hv
          omega) k (l1, l2, [], 0, ((0 : Nat) : Int)) ⟨0, 0, [], rfl, rfl, D10_nil, .inl rfl, by omega, by simp [V10]⟩ (by dsimp only; omega)
  have e1' : iter (pyxref1_SubNat.l4.once k) k (l1, l2, [], 0, 0) = some y := e1
  rw [e1', Option.bind_some, trim_eq e2 (by omega) (by omega), e4, Option.bind_some, v1, v2]
  exact congrArg (fun z => some (dig z)) (by omega)
theorem drop_lt {l1 l2 : List Int} (h1 : D10 l1) (h2 : D10 l2) {t : Nat} (t1 : t ≤ l1.length) (t2 : t ≤ l2.length) (h : V10 (l1.drop t) < V10 (l2.drop t)) : V10 l1 < V10 l2 := by
  rw [V10_split l1 t1, V10_split l2 t2]
  have p1 := V10_take_lt h1 t1
  have p2 := V10_nonneg (D10_take h2 t)
  have p3 : 0 < (10 : Int) ^ t := Int.pow_pos (by decide)
  have : (10 : Int) ^ t * (V10 (l1.drop t) + 1) ≤ 10 ^ t * V10 (l2.drop t) := Int.mul_le_mul_of_nonneg_left (by omega) (Int.le_of_lt p3)
  rw [Int.mul_add] at this
  omega
theorem Cmp_iter (k : Nat) {l1 l2 : List Int} (h1 : D10 l1) (h2 : D10 l2) (hl : l1.length = l2.length) (hL : l1.length ≤ 1000) : ∀ (t m : Nat), t ≤ l1.length → t < m → V10 (l1.drop t) = V10 (l2.drop t) →
    (V10 l1 = V10 l2 ∧ iter (pyxref1_CmpNat.l6.once k) m (l1, l2, (t : Int) - 1) = some (.inl ())) ∨ (V10 l1 < V10 l2 ∧ iter (pyxref1_CmpNat.l6.once k) m (l1, l2, (t : Int) - 1) = some (.inr (-1))) ∨ (V10 l2 < V10 l1 ∧ iter (pyxref1_CmpNat.l6.once k) m (l1, l2, (t : Int) - 1) = some (.inr 1)) := by
  intro t
  induction t with
  | zero =>
    intro m _ hm hv
    obtain ⟨m, rfl⟩ : ∃ n, m = n + 1 := ⟨m - 1, by omega⟩
    left
    exact ⟨hv, iter_stop (by unfold pyxref1_CmpNat.l6.once; rfl)⟩
  | succ t ih =>
    intro m ht hm hv
    obtain ⟨m, rfl⟩ : ∃ n, m = n + 1 := ⟨m - 1, by omega⟩
    have once : pyxref1_CmpNat.l6.once k (l1, l2, ((t + 1 : Nat) : Int) - 1) = cond (decide (l1.getD t 0 < l2.getD t 0)) (some (.inr (.inr (-1)))) (cond (decide (l1.getD t 0 > l2.getD t 0)) (some (.inr (.inr 1))) (some (.inl (l1, l2, (t : Int) - 1)))) := by
      unfold pyxref1_CmpNat.l6.once
      dsimp only
      rw [show ((t + 1 : Nat) : Int) - 1 = (t : Int) by omega, ct (by omega), inb_t (by omega) (by omega), cond_true, inb_t (by omega) (by omega), cond_true, Int.toNat_natCast, wrapi (show -9223372036854775808 ≤ (t : Int) - 1 ∧ (t : Int) - 1 < 9223372036854775808 by omega)]
      rfl
    have d1 := V10_drop l1 t
    have d2 := V10_drop l2 t
    by_cases hlt : l1.getD t 0 < l2.getD t 0
    · rw [ct hlt] at once
      right; left
      exact ⟨drop_lt h1 h2 (t := t) (by omega) (by omega) (by omega), iter_stop once⟩
    · rw [cf hlt] at once
      by_cases hgt : l1.getD t 0 > l2.getD t 0
      · rw [ct hgt] at once
        right; right
        exact ⟨drop_lt h2 h1 (t := t) (by omega) (by omega) (by omega), iter_stop once⟩
      · rw [cf hgt] at once
        rw [iter_step once]
        exact ih m (by omega) (by omega) (by omega)
theorem CmpNat_eq {k : Nat} (hk : 600 < k) {a b : Nat} (ha : a < 10 ^ 200) (hb : b < 10 ^ 200) : pyxref1_CmpNat.f k (dig a) (dig b) = some (if a < b then -1 else if a = b then 0 else 1) := by
  have hl1 := dig_len ha
  have hl2 := dig_len hb
  unfold pyxref1_CmpNat.f
  by_cases hl : (dig a).length = (dig b).length
  · rw [show (((dig a).length : Int) != ((dig b).length : Int)) = false by rw [hl]; simp, cond_false, wrapi (by omega)]
    rcases Cmp_iter k (D10_dig a) (D10_dig b) hl (by omega) (dig a).length k (Nat.le_refl _) (by omega) (by rw [V10_drop_all (Nat.le_refl _), V10_drop_all (by omega)]) with ⟨h, e⟩ | ⟨h, e⟩ | ⟨h, e⟩
    all_goals rw [V10_dig, V10_dig] at h; rw [e, Option.bind_some]; dsimp only
    · rw [if_neg (by omega), if_pos (by omega)]
    · rw [if_pos (by omega)]
    · rw [if_neg (by omega), if_neg (by omega)]
  · rw [show (((dig a).length : Int) != ((dig b).length : Int)) = true by simp only [bne_iff_ne, ne_eq]; omega, cond_true]
    by_cases hlt : (dig a).length < (dig b).length
    · rw [ct (by omega), if_pos (dig_len_lt hlt)]
    · have := dig_len_lt (show (dig b).length < (dig a).length by omega)
      rw [cf (by omega), if_neg (by omega), if_neg (by omega)]
theorem radix_eq {k : Nat} (hk : 600 < k) : pyxref1_radix.f k = some (dig 18446744073709551616) := by
  unfold pyxref1_radix.f
  have h : pyxref1_Word.f k 18446744073709551615 = some (dig 18446744073709551615) := Word_eq (by omega) (n := 18446744073709551615) (by decide)
  rw [h, Option.bind_some, ← dig_1, AddNat_eq hk (by omega) (by omega), Option.bind_some]
end Go.Proofs.Ytlaogfkgkpgofaa.Pure
