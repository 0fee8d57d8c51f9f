/- The reference's book, told right beside the program's. No conditions but size. -/
import Derived.Test.YtlaogfkgkpgofaaLb
import Derived.Test.YtlaogfkgkpgofaaPe
namespace Go.Proofs.Ytlaogfkgkpgofaa.Pure
set_option linter.unusedVariables false
set_option linter.unusedSimpArgs false
open Go Go.Ev Go.Lm Go.Pu Go.Dg
theorem bof {α β : Type} {o : Option α} {v : α} {f : α → Option β} {r : Option β} (h : o = some v) (h' : f v = r) : o.bind f = r := by rw [h]; exact h'
/-- The reference's book of the same content. -/
noncomputable def rof (b : Sledger_Book) : Spyxref11_Book := ⟨b.f_scale, b.f_l, ⟨b.f_t.f_Closed, b.f_t.f_Version⟩⟩
theorem pkR {C : List Bool} {V : List Int} (hC : C.length = 12) (hV : V.length = 12) : (⟨pack 12 false C, pack 12 0 V⟩ : Spyxref11_Table) = ⟨C, V⟩ := by
  rw [pack_eq false hC, pack_eq 0 hV]
theorem Rput_eq (k : Nat) {b : Sledger_Book} (h : T12 b.f_t) (hl : b.f_l.length ≤ 40) (x : Sapi_Entry) : pyxref11_Book_put.f k (rof b) x = some ((addR b x).1, (addR b x).2.1, rof (addR b x).2.2) := by
  unfold pyxref11_Book_put.f rof
  simp only [pkR h.1 h.2]
  refine bof (v := opn b.f_t x.f_Period) (Pe.RIsOpen_eq h.1 k x.f_Period) ?_
  unfold addR
  cases opn b.f_t x.f_Period with
  | false => rfl
  | true =>
    rw [Bool.not_true, cond_false, if_pos rfl]
    by_cases h40 : b.f_l.length = 40
    · rw [if_pos h40, ct (by omega)]
    · rw [if_neg h40, cf (by omega), okLen_t (by simp; omega), cond_true, wrapi (by simp; omega), List.length_append]
      dsimp only [List.length_cons, List.length_nil]
      rw [show ((b.f_l.length + (0 + 1) : Nat) : Int) - 1 = (b.f_l.length : Int) by omega]
theorem RKind_eq (k : Nat) (a : Int) : ∃ v, pyxref11_Kind.f k a = some v ∧ (v == 0) = !(decide (0 ≤ a) && decide (a < 16)) := by
  unfold pyxref11_Kind.f
  by_cases h : a < 0
  · exact ⟨0, by rw [ct h]; rfl, by rw [decide_eq_false (show ¬ 0 ≤ a by omega)]; rfl⟩
  · rw [cf h]
    by_cases h2 : a ≥ 16
    · exact ⟨0, by rw [decide_eq_true h2]; rfl, by rw [decide_eq_false (show ¬ a < 16 by omega)]; simp⟩
    · rw [decide_eq_false h2, decide_eq_true (show 0 ≤ a by omega), decide_eq_true (show a < 16 by omega), Option.bind_some]
      dsimp only
      rw [cond_false]
      by_cases h3 : a < 4
      · exact ⟨1, ct h3, rfl⟩
      · rw [cf h3]
        by_cases h4 : a < 7
        · exact ⟨2, ct h4, rfl⟩
        · rw [cf h4]
          by_cases h5 : a < 9
          · exact ⟨3, ct h5, rfl⟩
          · exact ⟨4, cf h5, rfl⟩
theorem RIsWith_eq (k : Nat) (a : Int) : pyxref11_IsWith.f k a = some (isW a) := by
  unfold pyxref11_IsWith.f isW
  cases a == 3 <;> rfl
theorem getD_memL {α : Type} {l : List α} {i : Nat} (d : α) (h : i < l.length) : l.getD i d ∈ l := by
  rw [List.getD_eq_getElem?_getD, List.getElem?_eq_getElem h]
  exact List.getElem_mem h
theorem line_step {k : Nat} (hk : 602 < k) {l : List Sapi_Line} (hl : l.length ≤ 1000) (hw : ∀ x ∈ l, LnW x) (s : Nat) {i : Nat} (hi : i < l.length) :
    pyxref11_RightLines.l4.once k (l, (s : Int), (i : Int)) = cond (rlB s (l.getD i Sapi_Line.zero)) (some (.inl (l, (s : Int), ((i + 1 : Nat) : Int)))) (some (.inr (.inr 1))) := by
  have hx := hw _ (getD_memL Sapi_Line.zero hi)
  have hwr := wrapi (show -9223372036854775808 ≤ (i : Int) + 1 ∧ (i : Int) + 1 < 9223372036854775808 by omega)
  unfold pyxref11_RightLines.l4.once
  dsimp only
  rw [ct (show (i : Int) < (l.length : Int) by omega), inb_t (by omega) (by omega), cond_true, Int.toNat_natCast]
  generalize l.getD i Sapi_Line.zero = x at hx ⊢
  refine bof (v := (l, (s : Int), (i : Int), !rlB s x)) ?_ ?_
  · obtain ⟨a, d, w⟩ := x
    have hd : W2 d.f_C := hx
    unfold rlB
    dsimp only
    obtain ⟨v, v1, v2⟩ := RKind_eq k a
    refine bof v1 ?_
    rw [v2]
    cases hk0 : decide (0 ≤ a) && decide (a < 16) with
    | false => rfl
    | true =>
      rw [Bool.not_true, cond_false, Bool.true_and]
      refine bof ((RRight_eq hk hd).trans (Right_val (by omega) hd)) ?_
      cases hok : dOk d with
      | false => rfl
      | true =>
        rw [Bool.not_true, cond_false, Bool.true_and]
        have hs := (RSign_eq hk hd).trans (Sign_val (by omega) hd)
        rw [hok, if_pos rfl] at hs
        by_cases h1 : d.f_Scale = (s : Int)
        · rw [show (d.f_Scale != (s : Int)) = false by simp [h1], cond_false]
          refine bof hs ?_
          rw [sgn_beq, show (d.f_Scale == (s : Int)) = true by simp [h1], Bool.true_and]
          by_cases h0 : val d = 0
          · rw [decide_eq_true h0]; rfl
          · rw [decide_eq_false h0, cond_false, Bool.not_false, Bool.true_and]
            by_cases h2 : w < -1
            · rw [ct h2, decide_eq_false (show ¬ 0 ≤ w by omega), show (w == -1) = false by rw [beq_eq_false_iff_ne]; omega]
              cases isW a <;> rfl
            · rw [cf h2]
              by_cases h3 : w ≥ 8
              · rw [ct h3, decide_eq_false (show ¬ w < 8 by omega), Bool.and_false, show (w == -1) = false by rw [beq_eq_false_iff_ne]; omega]
                cases isW a <;> rfl
              · rw [cf h3]
                refine bof (RIsWith_eq k a) ?_
                by_cases h4 : w = -1
                · subst h4
                  cases isW a <;> rfl
                · rw [show (w == -1) = false by rw [beq_eq_false_iff_ne]; exact h4, decide_eq_true (show 0 ≤ w by omega), decide_eq_true (show w < 8 by omega)]
                  cases isW a <;> rfl
        · rw [show (d.f_Scale != (s : Int)) = true by simp [h1], cond_true, show (d.f_Scale == (s : Int)) = false by simp [h1]]
          simp
  · dsimp only
    cases rlB s x with
    | true => rw [Bool.not_true, cond_false, hwr]; rfl
    | false => rfl
theorem lines_iter {k : Nat} (hk : 602 < k) {l : List Sapi_Line} (hl : l.length ≤ 1000) (hw : ∀ x ∈ l, LnW x) (s : Nat) : ∀ (n i : Nat), i ≤ l.length → l.length - i < n →
    iter (pyxref11_RightLines.l4.once k) n (l, (s : Int), (i : Int)) = some (cond ((l.drop i).all (rlB s)) (.inl l) (.inr 1)) := by
  intro n
  induction n with
  | zero => intro i _ h; omega
  | succ n ih =>
    intro i hi hn
    by_cases hc : i < l.length
    · have st := line_step hk hl hw s hc
      rw [drop_getD Sapi_Line.zero hc, List.all_cons]
      cases hb : rlB s (l.getD i Sapi_Line.zero) with
      | true =>
        rw [hb, cond_true] at st
        rw [iter_step st, Bool.true_and]
        exact ih (i + 1) (by omega) (by omega)
      | false =>
        rw [hb, cond_false] at st
        rw [iter_stop st]
        rfl
    · rw [List.drop_eq_nil_of_le (by omega)]
      refine iter_stop ?_
      unfold pyxref11_RightLines.l4.once
      dsimp only
      rw [cf (show ¬ (i : Int) < (l.length : Int) by omega)]
      rfl
theorem sum_iter {k : Nat} (hk : 602 < k) {l : List Sapi_Line} (hl : l.length ≤ 1000) (hw : ∀ x ∈ l, LnW x) {s : Nat} (hr : ∀ x ∈ l, rlB s x = true) (hs : s ≤ 9) : ∀ (n i : Nat) (a : Int), i ≤ l.length → l.length - i < n → Sm a →
    iter (pyxref11_RightLines.l11.once k) n (l, (i : Int), (DV a s).f_Neg, (DV a s).f_C.1, (DV a s).f_C.2, (DV a s).f_Scale) = some (match runS a (l.drop i) with
      | some S => .inl ((DV S s).f_Neg, (DV S s).f_C.1, (DV S s).f_C.2, (DV S s).f_Scale)
      | none => .inr 3) := by
  intro n
  induction n with
  | zero => intro i a _ h; omega
  | succ n ih =>
    intro i a hi hn ha
    by_cases hc : i < l.length
    · have hm := getD_memL Sapi_Line.zero hc
      obtain ⟨e1, e2, e3, _⟩ := rl_DV (hw _ hm) (hr _ hm)
      have hwr := wrapi (show -9223372036854775808 ≤ (i : Int) + 1 ∧ (i : Int) + 1 < 9223372036854775808 by omega)
      rw [drop_getD Sapi_Line.zero hc]
      unfold runS
      have hadd := RAdd_DV hk ha e2 hs hs
      rw [Nat.max_self, Nat.sub_self, Int.pow_zero, Int.mul_one, Int.mul_one] at hadd
      rw [← e1] at hadd
      have st : pyxref11_RightLines.l11.once k (l, (i : Int), (DV a s).f_Neg, (DV a s).f_C.1, (DV a s).f_C.2, (DV a s).f_Scale) = (if (a + val (l.getD i Sapi_Line.zero).f_Amount).natAbs < 1000000000000000000000000000000 then some (.inl (l, ((i + 1 : Nat) : Int), (DV (a + val (l.getD i Sapi_Line.zero).f_Amount) s).f_Neg, (DV (a + val (l.getD i Sapi_Line.zero).f_Amount) s).f_C.1, (DV (a + val (l.getD i Sapi_Line.zero).f_Amount) s).f_C.2, (DV (a + val (l.getD i Sapi_Line.zero).f_Amount) s).f_Scale)) else some (.inr (.inr 3))) := by
        unfold pyxref11_RightLines.l11.once
        dsimp only
        rw [ct (show (i : Int) < (l.length : Int) by omega), inb_t (by omega) (by omega), cond_true, Int.toNat_natCast]
        refine bof hadd ?_
        unfold mkD
        split
        · dsimp only
          rw [show ((0 : Int) != 0) = false from rfl, cond_false, hwr]
          rfl
        · rfl
      by_cases hb : (a + val (l.getD i Sapi_Line.zero).f_Amount).natAbs < 1000000000000000000000000000000
      · rw [if_pos hb] at st ⊢
        rw [iter_step st]
        exact ih (i + 1) _ (by omega) (by omega) hb
      · rw [if_neg hb] at st ⊢
        rw [iter_stop st]
    · rw [List.drop_eq_nil_of_le (by omega)]
      refine iter_stop ?_
      unfold pyxref11_RightLines.l11.once runS
      dsimp only
      rw [cf (show ¬ (i : Int) < (l.length : Int) by omega)]
theorem RRightL_eq {k : Nat} (hk : 1002 < k) {l : List Sapi_Line} (hl : l.length ≤ 1000) (hw : ∀ x ∈ l, LnW x) {s : Nat} (hs : s ≤ 9) : pyxref11_RightLines.f k l (s : Int) = some (rightE s l) := by
  unfold pyxref11_RightLines.f rightE
  refine bof (v := (l, (s : Int), decide (l.length = 0 ∨ 8 < l.length))) ?_ ?_
  · by_cases h : (l.length : Int) < 1
    · rw [ct h, decide_eq_true (.inl (by omega))]
    · rw [cf h]
      refine congrArg some ?_
      rw [show decide ((l.length : Int) > 8) = decide (l.length = 0 ∨ 8 < l.length) from decide_eq_decide.2 ⟨fun h' => .inr (by omega), fun h' => by omega⟩]
  dsimp only
  by_cases h0 : l.length = 0 ∨ 8 < l.length
  · rw [decide_eq_true h0, cond_true, if_pos h0]
  · rw [decide_eq_false h0, cond_false, if_neg h0]
    refine bof (lines_iter (k := k) (by omega) hl hw s k 0 (Nat.zero_le _) (by omega)) ?_
    rw [List.drop_zero]
    cases ha : l.all (rlB s) with
    | false => rfl
    | true =>
      have hr : ∀ x ∈ l, rlB s x = true := List.all_eq_true.1 ha
      have h1 : 0 < l.length := by omega
      have hm := getD_memL Sapi_Line.zero h1
      obtain ⟨e1, e2, e3, _⟩ := rl_DV (hw _ hm) (hr _ hm)
      rw [cond_true, if_pos rfl]
      dsimp only
      rw [inb_t (by omega) (by omega), cond_true]
      have si := sum_iter (k := k) (by omega) hl hw hr hs k 1 (val (l.getD 0 Sapi_Line.zero).f_Amount) (by omega) (by omega) e2
      rw [← e1] at si
      have hrun : runS 0 l = runS (val (l.getD 0 Sapi_Line.zero).f_Amount) (l.drop 1) := by
        have hd := drop_getD Sapi_Line.zero h1
        rw [List.drop_zero] at hd
        refine (congrArg (runS 0) hd).trans ?_
        show (if ((0 : Int) + val (l.getD 0 Sapi_Line.zero).f_Amount).natAbs < 1000000000000000000000000000000 then runS (0 + val (l.getD 0 Sapi_Line.zero).f_Amount) (l.drop 1) else none) = _
        rw [Int.zero_add, if_pos (show (val (l.getD 0 Sapi_Line.zero).f_Amount).natAbs < 1000000000000000000000000000000 from e2)]
      refine bof si ?_
      rw [← hrun]
      cases hq : runS 0 l with
      | none => rfl
      | some S =>
        have hS := runS_Sm l 0 S (by unfold Sm; decide) hq
        dsimp only
        refine bof (v := sgn S) ((RSign_eq (d := DV S s) (by omega) (Sm_w2 hS)).trans (Sign_DV (by omega) hS hs)) ?_
        by_cases hz : S = 0
        · subst hz; rfl
        · rw [if_neg hz, show (sgn S != 0) = true by
            have := sgn_beq S
            rw [decide_eq_false hz] at this
            rw [bne, this]; rfl]
          rfl
theorem RTurned_eq {k : Nat} (hk : 602 < k) {l : List Sapi_Line} (hl : l.length ≤ 1000 ∧ l.length < k) {s : Nat} (hs : s ≤ 9) (hr : ∀ x ∈ l, x.f_Amount = DV (val x.f_Amount) s ∧ Sm (val x.f_Amount)) : pyxref11_Turned.f k l = some (l.map (turn s)) := by
  unfold pyxref11_Turned.f
  have h := iter_seq (once := pyxref11_Turned.l3.once k) (fun i => (l, (l.take i).map (turn s), (i : Int))) l.length (by
    intro i hi
    have hm := getD_memL Sapi_Line.zero hi
    obtain ⟨e1, e2⟩ := hr _ hm
    have hwr := wrapi (show -9223372036854775808 ≤ (i : Int) + 1 ∧ (i : Int) + 1 < 9223372036854775808 by omega)
    have hn := (RNeg_eq (k := k) hk (d := DV (val (l.getD i Sapi_Line.zero).f_Amount) s) (Sm_w2 e2)).trans (Neg_DV (by omega) e2 hs)
    rw [← e1] at hn
    unfold pyxref11_Turned.l3.once
    dsimp only
    rw [ct (show (i : Int) < (l.length : Int) by omega), inb_t (by omega) (by omega), cond_true, Int.toNat_natCast]
    refine bof hn ?_
    rw [okLen_t (by simp; omega), cond_true, hwr]
    rw [List.take_add_one, List.map_append, List.getElem?_eq_getElem hi]
    rw [List.getD_eq_getElem?_getD, List.getElem?_eq_getElem hi]
    rfl) (l.map (turn s)) (by
    unfold pyxref11_Turned.l3.once
    dsimp only
    rw [cf (by omega), List.take_length]) k 0 (Nat.zero_le _) (by omega)
  refine bof (v := l.map (turn s)) ?_ rfl
  exact h
theorem RPost_eq {k : Nat} (hk : 1002 < k) {b : Sledger_Book} (h : T12 b.f_t) (hl : b.f_l.length ≤ 40) {s : Nat} (hs : s ≤ 9) (hb : b.f_scale = (s : Int)) (p : Int) {l : List Sapi_Line} (hn : l.length ≤ 1000) (hw : ∀ x ∈ l, LnW x) :
    pyxref11_Book_Post.f k (rof b) p l = some ((postR s b p l).1, (postR s b p l).2.1, rof (postR s b p l).2.2) := by
  unfold pyxref11_Book_Post.f postR
  have e := pkR h.1 h.2
  have hR : pyxref11_RightLines.f k l (rof b).f_Scale = some (rightE s l) := by
    show pyxref11_RightLines.f k l b.f_scale = _
    rw [hb]; exact RRightL_eq hk hn hw hs
  refine bof hR ?_
  by_cases h0 : rightE s l = 0
  · rw [if_pos h0, show (rightE s l != 0) = false by rw [h0]; rfl, cond_false]
    refine bof (v := l) ?_ ?_
    · unfold pyxref11_lines.f
      rw [okLen_t (by simp; omega), cond_true, List.nil_append]
    · have hT := addR_T h ⟨p, l, -1⟩
      have hp : pyxref11_Book_put.f k ⟨(rof b).f_Scale, (rof b).f_L, ⟨pack 12 false (rof b).f_T.f_Closed, pack 12 0 (rof b).f_T.f_Version⟩⟩ ⟨p, l, -1⟩ = some ((addR b ⟨p, l, -1⟩).1, (addR b ⟨p, l, -1⟩).2.1, rof (addR b ⟨p, l, -1⟩).2.2) := by
        show pyxref11_Book_put.f k ⟨b.f_scale, b.f_l, ⟨pack 12 false b.f_t.f_Closed, pack 12 0 b.f_t.f_Version⟩⟩ ⟨p, l, -1⟩ = _
        rw [e]; exact Rput_eq k h hl _
      refine bof hp ?_
      dsimp only
      show some (_, _, (⟨_, _, ⟨pack 12 false (addR b ⟨p, l, -1⟩).2.2.f_t.f_Closed, pack 12 0 (addR b ⟨p, l, -1⟩).2.2.f_t.f_Version⟩⟩ : Spyxref11_Book)) = _
      rw [pkR hT.1 hT.2]
      rfl
  · rw [if_neg h0, show (rightE s l != 0) = true by rw [bne_iff_ne]; exact h0, cond_true]
    show some (_, _, (⟨_, _, ⟨pack 12 false b.f_t.f_Closed, pack 12 0 b.f_t.f_Version⟩⟩ : Spyxref11_Book)) = _
    rw [e]
    rfl
end Go.Proofs.Ytlaogfkgkpgofaa.Pure
