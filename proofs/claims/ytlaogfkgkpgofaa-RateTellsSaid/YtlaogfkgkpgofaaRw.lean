/- Rates of the reference, told right beside the table. No conditions but size. -/
import Derived.Test.YtlaogfkgkpgofaaRt
namespace Go.Proofs.Ytlaogfkgkpgofaa.Pure
set_option linter.unusedVariables false
set_option linter.unusedSimpArgs false
open Go Go.Ev Go.Lm Go.Pu Go.Dg
theorem HDec_ok {k : Nat} (hk : 602 < k) {n s b : Int} (hn : -9223372036854775808 ≤ n ∧ n < 9223372036854775808) : ∃ d, pyxhand_Dec.f k n s b = some d ∧ W2 d.f_C := by
  unfold pyxhand_Dec.f
  have W2_wrap : ∀ (a b : Int), W2 (IntKind.wrap .u64 a, IntKind.wrap .u64 b) := by
    intro a b
    rw [wrap64, wrap64]
    unfold W2 Wd
    dsimp only
    omega
  have of : ∀ (x y : Int), -9223372036854775808 ≤ x ∧ x < 9223372036854775808 → ∃ d, ((pyxref1_Of.f k x y).bind fun t7 => (some (⟨t7.f_Neg, (t7.f_C.1, t7.f_C.2), t7.f_Scale⟩ : Sapi_Dec))) = some d ∧ W2 d.f_C := by
    intro x y hx
    rw [ROf_DV hk hx, Option.bind_some]
    exact ⟨_, rfl, Sm_w2 (by unfold Sm; omega)⟩
  rw [Pick_eq k b (by decide) (by decide), Option.bind_some]
  cases (pick b 11 == 0)
  · rw [cond_false]
    cases (pick b 11 == 1)
    · rw [cond_false]
      cases (pick b 11 == 2)
      · rw [cond_false]
        cases (pick b 11 == 3)
        · rw [cond_false, Pick_eq k n (by decide) (by decide), Option.bind_some, Pick_eq k s (by decide) (by decide), Option.bind_some]
          have hb := pick_bd n (m := 2000000) (by decide)
          rw [wrapi (by omega)]
          exact of _ _ (by omega)
        · rw [cond_true, Pick_eq k s (by decide) (by decide), Option.bind_some]
          exact of _ _ hn
      · rw [cond_true, Pick_eq k n (by decide) (by decide), Option.bind_some, Pick_eq k s (by decide) (by decide), Option.bind_some]
        have hb := pick_bd n (m := 7) (by decide)
        rw [wrapi (by omega)]
        exact of _ _ (by omega)
    · rw [cond_true, Pick_eq k s (by decide) (by decide), Option.bind_some, Pick_eq k _ (by decide) (by decide), Option.bind_some]
      exact ⟨_, rfl, W2_wrap _ _⟩
  · rw [cond_true, Pick_eq k n (by decide) (by decide), Option.bind_some]
    exact ⟨_, rfl, W2_wrap _ _⟩
theorem mget_some {α β : Type} {K : α → α → Bool} (hK : ∀ a b, K a b = true ↔ a = b) (k : α) : ∀ l : List (α × β), (mget (K k) l).isSome = true ↔ k ∈ l.map (·.1)
  | [] => by simp [mget]
  | p :: r => by
    simp only [mget, List.map_cons, List.mem_cons]
    cases h : K k p.1 with
    | true => simp [(hK _ _).1 h]
    | false =>
      have hn : k ≠ p.1 := fun e => by rw [(hK _ _).2 e] at h; cases h
      rw [cond_false, mget_some hK k r]
      simp [hn]
theorem mput_keys {α β : Type} {K : α → α → Bool} (hK : ∀ a b, K a b = true ↔ a = b) (k : α) (v : β) : ∀ l : List (α × β), (mput (K k) k v l).map (·.1) = cond (mget (K k) l).isSome (l.map (·.1)) (l.map (·.1) ++ [k])
  | [] => by simp [mput, mget]
  | p :: r => by
    simp only [mput, mget]
    cases h : K k p.1 with
    | true => rfl
    | false =>
      simp only [cond_false, List.map_cons]
      rw [mput_keys hK k v r]
      cases (mget (K k) r).isSome <;> rfl
def idx (q : Srate_Key) : Nat := q.f_Period.toNat * 3 + q.f_Kind.toNat
theorem placed_bd {q : Srate_Key} (h : placed q = true) : (0 ≤ q.f_Period ∧ q.f_Period < 12) ∧ (0 ≤ q.f_Kind ∧ q.f_Kind < 3) := of_decide_eq_true h
theorem idx_lt {q : Srate_Key} (h : placed q = true) : idx q < 36 := by
  have := placed_bd h
  unfold idx
  omega
theorem idx_inj {q q' : Srate_Key} (h : placed q = true) (h' : placed q' = true) (e : idx q = idx q') : q = q' := by
  have a := placed_bd h
  have b := placed_bd h'
  unfold idx at e
  cases q
  cases q'
  simp only [Srate_Key.mk.injEq] at *
  omega
theorem srt_perm (ks : List Srate_Key) : (srt_Srate_Key ks).Perm ks := by
  unfold srt_Srate_Key
  have h := (List.mergeSort_perm (ks.map fun (x : Srate_Key) => (x.f_Period, x.f_Kind)) leII).map (fun p => (⟨p.1, p.2⟩ : Srate_Key))
  rw [List.map_map] at h
  rwa [show ((fun p : Int × Int => (⟨p.1, p.2⟩ : Srate_Key)) ∘ fun (x : Srate_Key) => (x.f_Period, x.f_Kind)) = id from rfl, List.map_id] at h
theorem srt_le (ks : List Srate_Key) : (srt_Srate_Key ks).Pairwise (fun a b => leII (a.f_Period, a.f_Kind) (b.f_Period, b.f_Kind) = true) := by
  unfold srt_Srate_Key
  rw [List.pairwise_map]
  exact List.pairwise_mergeSort leII_trans leII_total _
theorem bex {α β : Type} {X : Option α} {G : α → Option β} {P : β → Prop} (Q : α → Prop) (h : ∃ v, X = some v ∧ Q v) (h' : ∀ v, Q v → ∃ r, G v = some r ∧ P r) : ∃ r, X.bind G = some r ∧ P r := by
  obtain ⟨v, hv, hq⟩ := h
  rw [hv]
  exact h' v hq
theorem RSign_eq {k : Nat} (hk : 602 < k) {d : Sapi_Dec} (hw : W2 d.f_C) : pyxref1_Sign.f k d = dec_Sign.f k d := by
  unfold pyxref1_Sign.f dec_Sign.f dec_nought.f
  have e : pyxref1_RightDec.f k ⟨d.f_Neg, (d.f_C.1, d.f_C.2), d.f_Scale⟩ = dec_Right.f k ⟨d.f_Neg, (d.f_C.1, d.f_C.2), d.f_Scale⟩ := RRight_eq hk hw
  rw [e]
  rfl
theorem sgn_1 {v : Int} (h : 0 < v) : sgn v = 1 := by
  unfold sgn
  rw [if_neg (by omega), if_neg (by omega)]
/-- A right number above nothing, beside a million. -/
theorem RCmp_DV {k : Nat} (hk : 602 < k) {i : Int} {s : Nat} (hi : Sm i) (hs : s ≤ 9) (h0 : 0 < i) : ∃ c, pyxref1_Cmp.f k (DV i s) (DV 1000000 0) = some c ∧ (c ≥ 0 ↔ ¬ i < 1000000 * 10 ^ s) := by
  have hm : Sm 1000000 := by unfold Sm; decide
  have r1 : pyxref1_RightDec.f k (DV i s) = some true := (RRight_eq hk (d := DV i s) (Sm_w2 hi)).trans (Right_DV (by omega) hi hs)
  have r2 : pyxref1_RightDec.f k (DV 1000000 0) = some true := (RRight_eq hk (d := DV 1000000 0) (Sm_w2 hm)).trans (Right_DV (by omega) hm (by decide))
  have s1 : pyxref1_Sign.f k (DV i s) = some (sgn i) := (RSign_eq hk (d := DV i s) (Sm_w2 hi)).trans (Sign_DV (by omega) hi hs)
  have s2 : pyxref1_Sign.f k (DV 1000000 0) = some (sgn 1000000) := (RSign_eq hk (d := DV 1000000 0) (Sm_w2 hm)).trans (Sign_DV (by omega) hm (by decide))
  rw [sgn_1 h0] at s1
  have x1 : pyxref1_digits.f k (DV i s) (s : Int) = some (dig (i.natAbs * 10 ^ (s - s))) := digits_eq hk _ (by unfold Sm at hi; omega) (Nat.le_refl _) (by omega)
  have y1 : pyxref1_digits.f k (DV 1000000 0) (s : Int) = some (dig (1000000 * 10 ^ (s - 0))) := digits_eq hk _ (by decide) (Nat.zero_le _) (by omega)
  rw [Nat.sub_self, Nat.pow_zero, Nat.mul_one] at x1
  rw [Nat.sub_zero] at y1
  have p1 := ten9 hs
  have c1 := CmpNat_eq (k := k) (by omega) (a := i.natAbs) (b := 1000000 * 10 ^ s) (by unfold Sm at hi; omega) (by omega)
  have hmx : (if (0 : Int) > (s : Int) then (0 : Int) else (s : Int)) = (s : Int) := if_neg (by omega)
  have hl : (i.natAbs < 1000000 * 10 ^ s) ↔ i < 1000000 * 10 ^ s := by
    rw [show (1000000 : Int) * 10 ^ s = ((1000000 * 10 ^ s : Nat) : Int) by rw [Int.natCast_mul, Int.natCast_pow]; rfl]
    omega
  refine ⟨if i.natAbs < 1000000 * 10 ^ s then -1 else if i.natAbs = 1000000 * 10 ^ s then 0 else 1, ?_, ?_⟩
  · unfold pyxref1_Cmp.f
    refine bof (v := (false, (DV i s).f_Neg, (DV i s).f_C.1, (DV i s).f_C.2, (DV i s).f_Scale, (DV 1000000 0).f_Neg, (DV 1000000 0).f_C.1, (DV 1000000 0).f_C.2, (DV 1000000 0).f_Scale)) ?_ ?_
    · exact bof r1 (bof r2 rfl)
    · dsimp only
      rw [cond_false]
      refine bof s1 (bof s2 ?_)
      rw [show ((1 : Int) != sgn 1000000) = false from rfl, cond_false]
      rw [show (if (DV 1000000 0).f_Scale > (DV i s).f_Scale then (DV 1000000 0).f_Scale else (DV i s).f_Scale) = (s : Int) from hmx]
      refine bof x1 (bof y1 (bof c1 ?_))
      rw [wrapi (by split <;> (try split) <;> omega), Int.one_mul]
  · rw [← hl]
    split
    · simp_all
    · split <;> simp_all
/-- What may be set. -/
def okR (d : Sapi_Dec) : Bool := dOk d && goodR (val d) d.f_Scale.toNat
theorem Set_eq {k : Nat} (hk : 60 < k) (T : List (Srate_Key × Sapi_Dec)) (q : Srate_Key) {d : Sapi_Dec} (hw : W2 d.f_C) :
    rate_Table_Set.f k ⟨T⟩ q d = some (cond (placed q && okR d) (0, ⟨mput (keq_Srate_Key q) q d T⟩) (1, ⟨T⟩)) := by
  unfold okR
  cases h : dOk d with
  | true =>
    obtain ⟨e, h1, h2, _⟩ := dOk_DV hw h
    have := Set_DV hk T q h1 h2
    rw [← e] at this
    exact this
  | false =>
    rw [Bool.false_and, Bool.and_false, cond_false]
    unfold rate_Table_Set.f
    refine bof (v := (placed q, T, q.f_Period, q.f_Kind, d.f_Neg, d.f_C.1, d.f_C.2, d.f_Scale)) ?_ ?_
    · by_cases h1 : q.f_Period ≥ 0
      · rw [ct h1]
        by_cases h2 : q.f_Period < 12
        · rw [ct h2]
          by_cases h3 : q.f_Kind ≥ 0
          · rw [ct h3]
            have : placed q = decide (q.f_Kind < 3) := by
              unfold placed
              by_cases h4 : q.f_Kind < 3
              · rw [decide_eq_true h4, decide_eq_true ⟨⟨h1, h2⟩, h3, h4⟩]
              · rw [decide_eq_false h4, decide_eq_false (fun h => h4 h.2.2)]
            rw [this]
          · rw [cf h3, show placed q = false from decide_eq_false (fun h => h3 h.2.1)]
        · rw [cf h2, show placed q = false from decide_eq_false (fun h => h2 h.1.2)]
      · rw [cf h1, show placed q = false from decide_eq_false (fun h => h1 h.1.1)]
    · refine bof (v := (true, T, q.f_Period, q.f_Kind, d.f_Neg, d.f_C.1, d.f_C.2, d.f_Scale)) ?_ rfl
      dsimp only
      cases placed q with
      | false => rfl
      | true =>
        have hz := Sign_val hk hw
        rw [h, if_neg (by decide)] at hz
        simp only [Bool.not_true, cond_false]
        refine bof hz ?_
        rfl
theorem puts_eq (i : Nat) (v : Sapi_Dec) : ∀ (l : List Sapi_Dec) (j : Nat), puts_Sapi_Dec i v j l = if j ≤ i then l.set (i - j) v else l
  | [], j => by
    unfold puts_Sapi_Dec
    split <;> simp
  | y :: r, j => by
    unfold puts_Sapi_Dec
    rw [puts_eq i v r (j + 1)]
    by_cases h : i = j
    · subst h
      rw [Nat.beq_refl, if_neg (by omega), if_pos (Nat.le_refl _), Nat.sub_self, List.set_cons_zero]
      rfl
    · have hb : Nat.beq i j = false := by
        cases hb : Nat.beq i j with
        | false => rfl
        | true => exact absurd (Nat.eq_of_beq_eq_true hb) h
      rw [hb]
      by_cases h' : j ≤ i
      · rw [if_pos (by omega), if_pos h', show i - j = (i - (j + 1)) + 1 by omega, List.set_cons_succ]
        rfl
      · rw [if_neg (by omega), if_neg h']
        rfl
theorem puts_set (i : Nat) (v : Sapi_Dec) (l : List Sapi_Dec) : puts_Sapi_Dec i v 0 l = l.set i v := by
  rw [puts_eq, if_pos (Nat.zero_le _), Nat.sub_zero]
theorem is_eq (k : Nat) (p : Int) : pyxref11_is.f k p = some (decide (0 ≤ p ∧ p < 12)) := by
  unfold pyxref11_is.f
  by_cases h : p ≥ 0
  · rw [ct h]
    by_cases h2 : p < 12
    · rw [decide_eq_true h2, decide_eq_true ⟨h, h2⟩]
    · rw [decide_eq_false h2, decide_eq_false (fun h => h2 h.2)]
  · rw [cf h, decide_eq_false (fun h' => h h'.1)]
theorem RRates_Set {k : Nat} (hk : 602 < k) {has : List Bool} {ds : List Sapi_Dec} (h1 : has.length = 36) (h2 : ds.length = 36) (p kd : Int) {d : Sapi_Dec} (hw : W2 d.f_C) :
    pyxref11_Rates_Set.f k ⟨has, ds⟩ p kd d = some (cond (placed ⟨p, kd⟩ && okR d) (0, ⟨has.set (idx ⟨p, kd⟩) true, ds.set (idx ⟨p, kd⟩) d⟩) (1, ⟨has, ds⟩)) := by
  have e1 : pack 36 false has = has := pack_eq false h1
  have e2 : pack 36 Sapi_Dec.zero ds = ds := pack_eq _ h2
  unfold pyxref11_Rates_Set.f
  simp only [e1, e2]
  refine bof (v := (p, kd, !(placed ⟨p, kd⟩ && okR d), ⟨has, ds⟩, d.f_Neg, d.f_C.1, d.f_C.2, d.f_Scale)) ?_ ?_
  · refine bof (is_eq k p) ?_
    by_cases g1 : 0 ≤ p ∧ p < 12
    · rw [decide_eq_true g1, Bool.not_true, cond_false]
      by_cases g2 : kd < 0
      · rw [ct g2, show placed ⟨p, kd⟩ = false from decide_eq_false (fun h => by have := h.2.1; dsimp only at this; omega)]
        rfl
      · rw [cf g2]
        by_cases g3 : kd > 2
        · rw [ct g3, show placed ⟨p, kd⟩ = false from decide_eq_false (fun h => by have := h.2.2; dsimp only at this; omega)]
          rfl
        · rw [cf g3, show placed ⟨p, kd⟩ = true from decide_eq_true ⟨g1, by dsimp only; omega⟩, Bool.true_and]
          unfold okR
          refine bof ((RRight_eq hk hw).trans (Right_val (by omega) hw)) ?_
          cases h : dOk d with
          | false => rfl
          | true =>
            obtain ⟨e, q1, q2, q3⟩ := dOk_DV hw h
            rw [Bool.not_true, cond_false, Bool.true_and]
            have hs := (RSign_eq hk hw).trans (Sign_val (by omega) hw)
            rw [h, if_pos rfl] at hs
            refine bof hs ?_
            unfold goodR
            by_cases g4 : sgn (val d) ≤ 0
            · rw [ct g4, decide_eq_false (show ¬ 0 < val d by have := (sgn_le _).1 g4; omega)]
              rfl
            · have g4' : 0 < val d := by
                have : ¬ val d ≤ 0 := fun h => g4 ((sgn_le _).2 h)
                omega
              rw [cf g4, decide_eq_true g4', Bool.true_and]
              by_cases g5 : d.f_Scale > 6
              · rw [ct g5, decide_eq_false (show ¬ d.f_Scale.toNat ≤ 6 by omega)]
                rfl
              · rw [cf g5, decide_eq_true (show d.f_Scale.toNat ≤ 6 by omega), Bool.true_and]
                refine bof (ROf_DV (n := 1000000) hk (by decide) 0) ?_
                obtain ⟨c, hc, hc2⟩ := RCmp_DV hk q1 q2 g4'
                rw [← e] at hc
                refine bof hc ?_
                have : decide (c ≥ 0) = !decide (val d < 1000000 * 10 ^ d.f_Scale.toNat) := by
                  by_cases g6 : val d < 1000000 * 10 ^ d.f_Scale.toNat
                  · rw [decide_eq_true g6, decide_eq_false (fun h => hc2.1 h g6)]; rfl
                  · rw [decide_eq_false g6, decide_eq_true (hc2.2 g6)]; rfl
                rw [this]
    · rw [decide_eq_false g1, show placed ⟨p, kd⟩ = false from decide_eq_false (fun h => g1 h.1)]
      rfl
  · dsimp only
    simp only [e1, e2]
    cases hb : placed ⟨p, kd⟩ && okR d with
    | false => rfl
    | true =>
      rw [Bool.and_eq_true] at hb
      have bd := placed_bd hb.1
      have hlt : p.toNat * 3 + kd.toNat < 36 := idx_lt hb.1
      dsimp only at bd
      rw [Bool.not_true, cond_false, inb_t bd.1.1 (by omega), inb_t bd.2.1 (by omega), cond_true, cond_true, blt_t hlt, cond_true, cond_true, cond_true, cond_true, putAll_set, puts_set]
      rfl
/-- What is got of the rates. -/
noncomputable def gotR (has : List Bool) (ds : List Sapi_Dec) (q : Srate_Key) : Sapi_Dec × Int × Spyxref11_Rates :=
  cond (placed q && has.getD (idx q) false) (ds.getD (idx q) Sapi_Dec.zero, 0, ⟨has, ds⟩) (nil0, 11, ⟨has, ds⟩)
theorem getD_map' {α β : Type} (f : α → β) (l : List α) (i : Nat) (d : α) (e : β) (h : f d = e) : (l.map f).getD i e = f (l.getD i d) := by
  rw [List.getD_eq_getElem?_getD, List.getD_eq_getElem?_getD, List.getElem?_map]
  cases l[i]? with
  | none => exact h.symm
  | some x => rfl
theorem RRates_Get (k : Nat) {has : List Bool} {ds : List Sapi_Dec} (h1 : has.length = 36) (h2 : ds.length = 36) (p kd : Int) : pyxref11_Rates_Get.f k ⟨has, ds⟩ p kd = some (gotR has ds ⟨p, kd⟩) := by
  have e1 : pack 36 false has = has := pack_eq false h1
  have e2 : pack 36 Sapi_Dec.zero ds = ds := pack_eq _ h2
  unfold pyxref11_Rates_Get.f gotR
  simp only [e1, e2]
  refine bof (v := (p, kd, !(placed ⟨p, kd⟩ && has.getD (idx ⟨p, kd⟩) false), ⟨has, ds⟩, false, 0, 0, 0)) ?_ ?_
  · refine bof (is_eq k p) ?_
    by_cases g1 : 0 ≤ p ∧ p < 12
    · rw [decide_eq_true g1, Bool.not_true, cond_false]
      by_cases g2 : kd < 0
      · rw [ct g2, show placed ⟨p, kd⟩ = false from decide_eq_false (fun h => by have := h.2.1; dsimp only at this; omega)]
        rfl
      · rw [cf g2]
        by_cases g3 : kd > 2
        · rw [ct g3, show placed ⟨p, kd⟩ = false from decide_eq_false (fun h => by have := h.2.2; dsimp only at this; omega)]
          rfl
        · have hp : placed ⟨p, kd⟩ = true := decide_eq_true ⟨g1, by dsimp only; omega⟩
          have hlt : p.toNat * 3 + kd.toNat < 36 := idx_lt hp
          rw [cf g3, hp, Bool.true_and, inb_t g1.1 (by omega), inb_t (by omega) (by omega), cond_true, cond_true, blt_t hlt, cond_true]
          rfl
    · rw [decide_eq_false g1, show placed ⟨p, kd⟩ = false from decide_eq_false (fun h => g1 h.1)]
      rfl
  · dsimp only
    simp only [e1, e2]
    cases hb : placed ⟨p, kd⟩ && has.getD (idx ⟨p, kd⟩) false with
    | false => rfl
    | true =>
      rw [Bool.and_eq_true] at hb
      have bd := placed_bd hb.1
      have hlt : p.toNat * 3 + kd.toNat < 36 := idx_lt hb.1
      dsimp only at bd
      rw [Bool.not_true, cond_false, inb_t bd.1.1 (by omega), inb_t bd.2.1 (by omega), cond_true, cond_true, blt_t hlt, cond_true,
        getD_map' (fun y : Sapi_Dec => y.f_Neg) ds _ Sapi_Dec.zero false rfl, getD_map' (fun y : Sapi_Dec => y.f_C.1) ds _ Sapi_Dec.zero 0 rfl, getD_map' (fun y : Sapi_Dec => y.f_C.2) ds _ Sapi_Dec.zero 0 rfl, getD_map' (fun y : Sapi_Dec => y.f_Scale) ds _ Sapi_Dec.zero 0 rfl]
      rfl
end Go.Proofs.Ytlaogfkgkpgofaa.Pure
