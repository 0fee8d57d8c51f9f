/- What the checks of an entry's lines compute. No conditions but size. -/
import Derived.Test.YtlaogfkgkpgofaaHl
import Derived.Test.YtlaogfkgkpgofaaVl
namespace Go.Proofs.Ytlaogfkgkpgofaa.Pure
set_option linter.unusedVariables false
set_option linter.unusedSimpArgs false
open Go Go.Ev Go.Lm Go.Pu Go.Dg

theorem Of_DV (k : Nat) {n : Int} (h : -9223372036854775808 ≤ n ∧ n < 9223372036854775808) (s : Int) : dec_Of.f k n s = some (DV n (cl s)) := by
  have e : (if (if (9 : Int) < s then 9 else s) > 0 then (if (9 : Int) < s then 9 else s) else 0) = ((cl s : Nat) : Int) := by
    unfold cl
    by_cases h9 : (9 : Int) < s
    · rw [if_pos h9, if_pos (by omega)]; omega
    · rw [if_neg h9]; split <;> omega
  have hw : w2 n.natAbs = (((n.natAbs : Nat) : Int), 0) := by
    unfold w2
    rw [Nat.mod_eq_of_lt (by omega), Nat.div_eq_of_lt (by omega)]
    rfl
  unfold dec_Of.f DV
  rw [hw]
  by_cases hn : n < 0
  · rw [ct hn, Option.bind_some]
    dsimp only
    rw [wrap64, wrap64, show (0 - n % 18446744073709551616) % 18446744073709551616 = ((n.natAbs : Nat) : Int) by omega, Of_eq, Option.bind_some, e]
  · rw [cf hn, Option.bind_some]
    dsimp only
    rw [wrap64, show n % 18446744073709551616 = ((n.natAbs : Nat) : Int) by omega, Of_eq, Option.bind_some, e]
def isW (a : Int) : Bool := a == 3 || a == 6
/-- Is a line right? -/
def rlB (s : Nat) (x : Sapi_Line) : Bool := (decide (0 ≤ x.f_Acct) && decide (x.f_Acct < 16)) && ((dOk x.f_Amount && !decide (val x.f_Amount = 0)) && ((x.f_Amount.f_Scale == (s : Int)) && (if isW x.f_Acct then decide (0 ≤ x.f_With) && decide (x.f_With < 8) else x.f_With == -1)))
theorem Kind_eq (k : Nat) (a : Int) : ∃ v, chart_Kind.f k a = some v ∧ (v == 0) = !(decide (0 ≤ a) && decide (a < 16)) := by
  unfold chart_Kind.f
  by_cases h0 : a < 0
  · rw [ct h0, Option.bind_some]
    exact ⟨_, rfl, by rw [decide_eq_false (show ¬ 0 ≤ a by omega)]; rfl⟩
  · rw [cf h0, Option.bind_some]
    dsimp only
    by_cases h1 : a ≥ 16
    · rw [ct h1]
      exact ⟨_, rfl, by rw [decide_eq_false (show ¬ a < 16 by omega), Bool.and_false]; rfl⟩
    · rw [cf h1, decide_eq_true (show 0 ≤ a by omega), decide_eq_true (show a < 16 by omega)]
      cases decide (a ≤ 3) <;> cases decide (a ≤ 6) <;> cases decide (a ≤ 8) <;> exact ⟨_, rfl, rfl⟩
theorem IsWith_eq (k : Nat) (a : Int) : chart_IsWith.f k a = some (isW a) := by
  unfold chart_IsWith.f isW
  cases a == 3 <;> rfl
theorem rightLine_eq {k : Nat} (hk : 60 < k) {x : Sapi_Line} (hw : LnW x) (s : Nat) : entry_rightLine.f k x (s : Int) = some (rlB s x) := by
  obtain ⟨a, d, w⟩ := x
  have hw : W2 d.f_C := hw
  unfold entry_rightLine.f rlB
  dsimp only
  obtain ⟨v, v1, v2⟩ := Kind_eq k a
  have sg : dec_Sign.f k ⟨d.f_Neg, (d.f_C.1, d.f_C.2), d.f_Scale⟩ = some (if dOk d then sgn (val d) else 0) := Sign_val hk hw
  have hj : (cond (decide (w ≥ 0)) (some ((s : Int), decide (w < 8), a, d.f_Neg, d.f_C.1, d.f_C.2, d.f_Scale, w)) (some ((s : Int), false, a, d.f_Neg, d.f_C.1, d.f_C.2, d.f_Scale, w)) : Option (Int × Bool × Int × Bool × Int × Int × Int × Int)) = some ((s : Int), decide (0 ≤ w) && decide (w < 8), a, d.f_Neg, d.f_C.1, d.f_C.2, d.f_Scale, w) := by
    by_cases h : w ≥ 0
    · rw [ct h, decide_eq_true (show 0 ≤ w from h), Bool.true_and]
    · rw [cf h, decide_eq_false (show ¬ 0 ≤ w from h), Bool.false_and]
  rw [hj, Option.bind_some]
  dsimp only
  rw [v1, Option.bind_some, v2, sg]
  have hz : ((if dOk d then sgn (val d) else 0) == (0 : Int)) = !(dOk d && !decide (val d = 0)) := by
    cases dOk d
    · rfl
    · rw [if_pos rfl, sgn_beq]; cases decide (val d = 0) <;> rfl
  rw [Option.bind_some, hz, show (d.f_Scale != (s : Int)) = !(d.f_Scale == (s : Int)) from rfl]
  simp only [IsWith_eq, Option.bind_some]
  cases (decide (0 ≤ a) && decide (a < 16))
  · rfl
  · cases (dOk d && !decide (val d = 0))
    · rfl
    · cases (d.f_Scale == (s : Int))
      · rfl
      · simp only [Bool.not_true, cond_false, Option.bind_some]
        cases isW a
        · rfl
        · cases (decide (0 ≤ w) && decide (w < 8)) <;> rfl
theorem Right_lines {k : Nat} (hk : 60 < k) {l : List Sapi_Line} (hl : l.length ≤ 1000) (hw : ∀ x ∈ l, LnW x) (s : Nat) : ∀ (n i : Nat), i ≤ l.length → l.length - i < n →
    iter (entry_Right.l4.once k) n (l, (s : Int), l, (l.length : Int), (i : Int)) = some (if (l.drop i).all (rlB s) then .inl (l, (s : Int)) else .inr 1) := by
  intro n
  induction n with
  | zero => intro i _ h; omega
  | succ n ih =>
    intro i hi hn
    by_cases hc : i < l.length
    · have hm := getD_mem Sapi_Line.zero (l := l) hc
      have hr := rightLine_eq hk (hw _ hm) s
      have hx : l.getD (Int.toNat (i : Int)) Sapi_Line.zero = l.getD i Sapi_Line.zero := by rw [Int.toNat_natCast]
      rw [drop_getD Sapi_Line.zero hc, List.all_cons]
      generalize l.getD i Sapi_Line.zero = x at *
      cases hb : rlB s x with
      | true =>
        rw [Bool.true_and, ← ih (i + 1) (by omega) (by omega)]
        refine iter_step ?_
        unfold entry_Right.l4.once
        dsimp only
        have hr' : entry_rightLine.f k ⟨x.f_Acct, ⟨x.f_Amount.f_Neg, (x.f_Amount.f_C.1, x.f_Amount.f_C.2), x.f_Amount.f_Scale⟩, x.f_With⟩ (s : Int) = some (rlB s x) := hr
        rw [ct (by omega), inb_t (by omega) (by omega), cond_true, hx, hr', Option.bind_some, hb, Bool.not_true, cond_false, wrapi (by omega)]
        rfl
      | false =>
        rw [Bool.false_and, if_neg (by decide)]
        refine iter_stop ?_
        unfold entry_Right.l4.once
        dsimp only
        have hr' : entry_rightLine.f k ⟨x.f_Acct, ⟨x.f_Amount.f_Neg, (x.f_Amount.f_C.1, x.f_Amount.f_C.2), x.f_Amount.f_Scale⟩, x.f_With⟩ (s : Int) = some (rlB s x) := hr
        rw [ct (by omega), inb_t (by omega) (by omega), cond_true, hx, hr', Option.bind_some, hb, Bool.not_false, cond_true]
    · rw [List.drop_eq_nil_of_le (by omega), List.all_nil, if_pos rfl]
      refine iter_stop ?_
      unfold entry_Right.l4.once
      dsimp only
      rw [cf (by omega)]
/-- The sum of the lines, one by one; none where it does not fit. -/
def runS : Int → List Sapi_Line → Option Int
  | a, [] => some a
  | a, x :: r => if (a + val x.f_Amount).natAbs < 1000000000000000000000000000000 then runS (a + val x.f_Amount) r else none
theorem rl_DV {s : Nat} {x : Sapi_Line} (hw : LnW x) (h : rlB s x = true) : x.f_Amount = DV (val x.f_Amount) s ∧ Sm (val x.f_Amount) ∧ val x.f_Amount ≠ 0 ∧ s ≤ 9 := by
  unfold rlB at h
  simp only [Bool.and_eq_true, Bool.not_eq_true', decide_eq_false_iff_not, beq_iff_eq] at h
  obtain ⟨_, ⟨h1, h2⟩, h3, _⟩ := h
  obtain ⟨g1, g2, g3, g4⟩ := dOk_DV hw h1
  have hs : x.f_Amount.f_Scale.toNat = s := by omega
  rw [hs] at g1 g3
  exact ⟨g1, g2, h2, g3⟩
def sums (s : Nat) (r : Option Int) : ((Bool × Int × Int × Int) ⊕ Int) := match r with
  | some S => .inl ((DV S s).f_Neg, (DV S s).f_C.1, (DV S s).f_C.2, (DV S s).f_Scale)
  | none => .inr 3
theorem Right_sums {k : Nat} (hk : 60 < k) {l : List Sapi_Line} (hl : l.length ≤ 1000) (hw : ∀ x ∈ l, LnW x) {s : Nat} (hr : ∀ x ∈ l, rlB s x = true) : ∀ (n i : Nat) (a : Int), i ≤ l.length → l.length - i < n → Sm a →
    iter (entry_Right.l11.once k) n (l, (l.length : Int), (i : Int), (DV a s).f_Neg, (DV a s).f_C.1, (DV a s).f_C.2, (DV a s).f_Scale) = some (sums s (runS a (l.drop i))) := by
  intro n
  induction n with
  | zero => intro i a _ h; omega
  | succ n ih =>
    intro i a hi hn ha
    by_cases hc : i < l.length
    · have hm := getD_mem Sapi_Line.zero (l := l) hc
      obtain ⟨g1, g2, g3, g4⟩ := rl_DV (hw _ hm) (hr _ hm)
      rw [drop_getD Sapi_Line.zero hc]
      have hx : l.getD (Int.toNat (i : Int)) Sapi_Line.zero = l.getD i Sapi_Line.zero := by rw [Int.toNat_natCast]
      have e1 : dec_Add.f k ⟨(DV a s).f_Neg, ((DV a s).f_C.1, (DV a s).f_C.2), (DV a s).f_Scale⟩ ⟨(l.getD i Sapi_Line.zero).f_Amount.f_Neg, ((l.getD i Sapi_Line.zero).f_Amount.f_C.1, (l.getD i Sapi_Line.zero).f_Amount.f_C.2), (l.getD i Sapi_Line.zero).f_Amount.f_Scale⟩ = some (mkD (a + val (l.getD i Sapi_Line.zero).f_Amount) s) := by
        have := Add_DV hk (i := a) (j := val (l.getD i Sapi_Line.zero).f_Amount) (s := s) (t := s) ha g2 g4 g4
        rw [← g1, Nat.max_self, Nat.sub_self, Int.pow_zero, Int.mul_one, Int.mul_one] at this
        exact this
      unfold runS
      by_cases hf : (a + val (l.getD i Sapi_Line.zero).f_Amount).natAbs < 1000000000000000000000000000000
      · rw [if_pos hf, ← ih (i + 1) _ (by omega) (by omega) hf]
        refine iter_step ?_
        unfold entry_Right.l11.once
        dsimp only
        unfold mkD at e1
        rw [if_pos hf] at e1
        rw [ct (by omega), inb_t (by omega) (by omega), cond_true, hx, e1, Option.bind_some, wrapi (by omega)]
        rfl
      · rw [if_neg hf]
        refine iter_stop ?_
        unfold entry_Right.l11.once
        dsimp only
        unfold mkD at e1
        rw [if_neg hf] at e1
        rw [ct (by omega), inb_t (by omega) (by omega), cond_true, hx, e1, Option.bind_some]
        rfl
    · rw [List.drop_eq_nil_of_le (by omega)]
      refine iter_stop ?_
      unfold entry_Right.l11.once
      dsimp only
      rw [cf (by omega)]
      rfl
theorem runS_Sm : ∀ (l : List Sapi_Line) (a S : Int), Sm a → runS a l = some S → Sm S := by
  intro l
  induction l with
  | nil => intro a S ha h; unfold runS at h; cases h; exact ha
  | cons x r ih =>
    intro a S ha h
    unfold runS at h
    split at h
    · exact ih _ _ (by assumption) h
    · cases h
/-- What the check of an entry's lines answers. -/
def rightE (s : Nat) (l : List Sapi_Line) : Int := if l.length = 0 ∨ 8 < l.length then 1 else if l.all (rlB s) then (match runS 0 l with | none => 3 | some S => if S = 0 then 0 else 9) else 1
theorem ERight_eq {k : Nat} (hk : 60 < k) {l : List Sapi_Line} (hl : l.length ≤ 1000 ∧ l.length < k) (hw : ∀ x ∈ l, LnW x) {s : Nat} (hs : s ≤ 9) : entry_Right.f k l (s : Int) = some (rightE s l) := by
  unfold entry_Right.f rightE
  have hj : (cond ((List.length l : Int) == 0) (some (l, (s : Int), true)) (some (l, (s : Int), decide ((List.length l : Int) > 8))) : Option (List Sapi_Line × Int × Bool)) = some (l, (s : Int), decide (l.length = 0 ∨ 8 < l.length)) := by
    by_cases h : l.length = 0
    · rw [show ((List.length l : Int) == 0) = true by rw [h]; rfl, cond_true, decide_eq_true (.inl h)]
    · rw [show ((List.length l : Int) == 0) = false by rw [Bool.eq_false_iff]; intro hh; rw [beq_iff_eq] at hh; omega, cond_false]
      congr 3
      rw [decide_eq_decide]; omega
  rw [hj, Option.bind_some]
  dsimp only
  by_cases h : l.length = 0 ∨ 8 < l.length
  · rw [ct h, if_pos h]
  · rw [cf h, if_neg h]
    have h4 := Right_lines hk hl.1 hw s k 0 (by omega) (by omega)
    rw [List.drop_zero] at h4
    have h4' : iter (entry_Right.l4.once k) k (l, (s : Int), l, (l.length : Int), 0) = _ := h4
    rw [h4', Option.bind_some]
    by_cases ha : l.all (rlB s) = true
    · rw [if_pos ha, if_pos ha]
      dsimp only
      rw [Of_DV k (by omega), cl_of hs, Option.bind_some]
      have h5 := Right_sums hk hl.1 hw (s := s) (fun x hx => List.all_eq_true.1 ha x hx) k 0 0 (by omega) (by omega) (by unfold Sm; decide)
      rw [List.drop_zero] at h5
      have h5' : iter (entry_Right.l11.once k) k (l, (l.length : Int), 0, (DV 0 s).f_Neg, (DV 0 s).f_C.1, (DV 0 s).f_C.2, (DV 0 s).f_Scale) = _ := h5
      rw [h5', Option.bind_some]
      unfold sums
      cases hr : runS 0 l with
      | none => rfl
      | some S =>
        dsimp only
        have hS := runS_Sm l 0 S (by unfold Sm; decide) hr
        have sg : dec_Sign.f k ⟨(DV S s).f_Neg, ((DV S s).f_C.1, (DV S s).f_C.2), (DV S s).f_Scale⟩ = _ := Sign_DV hk hS hs
        rw [sg, Option.bind_some]
        by_cases h0 : S = 0
        · rw [if_pos h0, if_pos h0]; rfl
        · rw [if_neg h0, if_neg h0]
          split <;> rfl
    · rw [if_neg ha, if_neg ha]
/-- A line turned about. -/
def turn (s : Nat) (x : Sapi_Line) : Sapi_Line := ⟨x.f_Acct, DV (-(val x.f_Amount)) s, x.f_With⟩
theorem ETurned_eq {k : Nat} (hk : 60 < k) {l : List Sapi_Line} (hl : l.length ≤ 1000 ∧ l.length < k) {s : Nat} (hs : s ≤ 9) (hr : ∀ x ∈ l, x.f_Amount = DV (val x.f_Amount) s ∧ Sm (val x.f_Amount)) : entry_Turned.f k l = some (l.map (turn s)) := by
  unfold entry_Turned.f
  have h := iter_seq (once := entry_Turned.l3.once k) (fun i => ((l.take i).map (turn s), l, (l.length : Int), (i : Int))) l.length (by
    intro i hi
    have hm := getD_mem Sapi_Line.zero (l := l) hi
    obtain ⟨g1, g2⟩ := hr _ hm
    have hx : l.getD (Int.toNat (i : Int)) Sapi_Line.zero = l.getD i Sapi_Line.zero := by rw [Int.toNat_natCast]
    have e1 : dec_Neg.f k ⟨(l.getD i Sapi_Line.zero).f_Amount.f_Neg, ((l.getD i Sapi_Line.zero).f_Amount.f_C.1, (l.getD i Sapi_Line.zero).f_Amount.f_C.2), (l.getD i Sapi_Line.zero).f_Amount.f_Scale⟩ = some (DV (-(val (l.getD i Sapi_Line.zero).f_Amount)) s) := by
      have := Neg_DV hk (i := val (l.getD i Sapi_Line.zero).f_Amount) (s := s) g2 hs
      rw [← g1] at this
      exact this
    unfold entry_Turned.l3.once
    dsimp only
    rw [ct (by omega), inb_t (by omega) (by omega), cond_true, hx, e1, Option.bind_some, okLen_t (by simp; omega), cond_true, wrapi (by omega)]
    have ht : (l.take (i + 1)).map (turn s) = (l.take i).map (turn s) ++ [turn s (l.getD i Sapi_Line.zero)] := by
      rw [List.take_add_one, List.map_append, List.getD_eq_getElem?_getD, List.getElem?_eq_getElem hi]
      rfl
    rw [ht]
    rfl) (l.map (turn s)) (by
    unfold entry_Turned.l3.once
    dsimp only
    rw [cf (by omega), List.take_length]) k 0 (by omega) (by omega)
  have h' : iter (entry_Turned.l3.once k) k ([], l, (l.length : Int), 0) = some (l.map (turn s)) := h
  rw [h', Option.bind_some]
end Go.Proofs.Ytlaogfkgkpgofaa.Pure
