/- What pyxhand's raw numbers, amounts and lines compute. No conditions but size. -/
import Derived.Test.YtlaogfkgkpgofaaRe
namespace Go.Proofs.Ytlaogfkgkpgofaa.Pure
set_option linter.unusedVariables false
set_option linter.unusedSimpArgs false
open Go Go.Ev Go.Lm Go.Pu Go.Dg

theorem bind_at {α β : Type} {x : Option α} {f : α → Option β} {v : α} {r : Option β} (h : x = some v) (h' : f v = r) : x.bind f = r := by rw [h]; exact h'
theorem ex_of {α : Type} {x r : Option α} {P : α → Prop} (h : x = r) (h' : ∃ v, r = some v ∧ P v) : ∃ v, x = some v ∧ P v := by rw [h]; exact h'
theorem Zero_eq (k : Nat) (s : Nat) : pyxref11_Zero.f k (s : Int) = some (DV 0 s) := rfl
theorem W2_wrap (a b : Int) : W2 (IntKind.wrap .u64 a, IntKind.wrap .u64 b) := by
  rw [wrap64, wrap64]
  unfold W2 Wd
  dsimp only
  omega
theorem HAmount_eq {k : Nat} (hk : 602 < k) (n s : Int) : ∃ v : Int, pyxhand_Amount.f k n s = some (DV v (cl s)) ∧ v.natAbs ≤ 1000000 := by
  unfold pyxhand_Amount.f
  have hb := pick_bd n (m := 2000001) (by decide)
  rw [Pick_eq k n (by decide) (by decide), Option.bind_some, wrapi (by omega), ROf_DV hk (by omega), Option.bind_some]
  exact ⟨_, rfl, by omega⟩
theorem HDec_ok {k : Nat} (hk : 602 < k) {n s b : Int} (hn : -9223372036854775808 ≤ n ∧ n < 9223372036854775808) : ∃ d, pyxhand_Dec.f k n s b = some d ∧ W2 d.f_C := by
  unfold pyxhand_Dec.f
  have of : ∀ (x y : Int), -9223372036854775808 ≤ x ∧ x < 9223372036854775808 → ∃ d, ((pyxref1_Of.f k x y).bind fun t7 => (some (⟨t7.f_Neg, (t7.f_C.1, t7.f_C.2), t7.f_Scale⟩ : Sapi_Dec))) = some d ∧ W2 d.f_C := by
    intro x y hx
    rw [ROf_DV hk hx, Option.bind_some]
    exact ⟨_, rfl, Sm_w2 (by unfold Sm; omega)⟩
  rw [Pick_eq k b (by decide) (by decide), Option.bind_some]
  cases (pick b 11 == 0)
  · rw [cond_false]
    cases (pick b 11 == 1)
    · rw [cond_false]
      cases (pick b 11 == 2)
      · rw [cond_false]
        cases (pick b 11 == 3)
        · rw [cond_false, Pick_eq k n (by decide) (by decide), Option.bind_some, Pick_eq k s (by decide) (by decide), Option.bind_some]
          have hb := pick_bd n (m := 2000000) (by decide)
          rw [wrapi (by omega)]
          exact of _ _ (by omega)
        · rw [cond_true, Pick_eq k s (by decide) (by decide), Option.bind_some]
          exact of _ _ hn
      · rw [cond_true, Pick_eq k n (by decide) (by decide), Option.bind_some, Pick_eq k s (by decide) (by decide), Option.bind_some]
        have hb := pick_bd n (m := 7) (by decide)
        rw [wrapi (by omega)]
        exact of _ _ (by omega)
    · rw [cond_true, Pick_eq k s (by decide) (by decide), Option.bind_some, Pick_eq k _ (by decide) (by decide), Option.bind_some]
      exact ⟨_, rfl, W2_wrap _ _⟩
  · rw [cond_true, Pick_eq k n (by decide) (by decide), Option.bind_some]
    exact ⟨_, rfl, W2_wrap _ _⟩
/-- A line of a middle size, at s places. -/
def LnOk (s : Nat) (x : Sapi_Line) : Prop := ∃ v : Int, x.f_Amount = DV v s ∧ v.natAbs ≤ 100000000
theorem LnOk.w2 {s : Nat} {x : Sapi_Line} (h : LnOk s x) : W2 x.f_Amount.f_C := by
  obtain ⟨v, h1, h2⟩ := h
  rw [h1]
  exact Sm_w2 (by unfold Sm; omega)
theorem getD_mem {α : Type} {l : List α} {i : Nat} (d : α) (h : i < l.length) : l.getD i d ∈ l := by
  rw [List.getD_eq_getElem?_getD, List.getElem?_eq_getElem h]
  exact List.getElem_mem h
theorem HLines_loop {k : Nat} (hk : 700 < k) (L : List Int) (hlen : L.length ≤ 9223372036854775807) {s : Nat} (hs : s ≤ 9) (b : Int) {e : Int} (he : 1 ≤ e ∧ e ≤ 4611686018427387904) :
    ∃ out S, iter (pyxhand_Lines.l4.once k) k (L, (s : Int), b, e, 0, [], (DV 0 s).f_Neg, (DV 0 s).f_C.1, (DV 0 s).f_C.2, (DV 0 s).f_Scale) = some ((s : Int), b, out, (DV S s).f_Neg, (DV S s).f_C.1, (DV S s).f_C.2, (DV S s).f_Scale) ∧ S.natAbs ≤ 6000000 ∧ out.length ≤ 6 ∧ ∀ x ∈ out, LnOk s x := by
  obtain ⟨y, h1, h2⟩ := iter_rule (once := pyxhand_Lines.l4.once k) (fun st => ∃ (m : Nat) (out : List Sapi_Line) (S : Int), st = (L, (s : Int), b, e, 2 * (m : Int), out, (DV S s).f_Neg, (DV S s).f_C.1, (DV S s).f_C.2, (DV S s).f_Scale) ∧ m ≤ 6 ∧ out.length = m ∧ S.natAbs ≤ m * 1000000 ∧ ∀ x ∈ out, LnOk s x) (fun st => 7 - st.2.2.2.2.2.1.length)
    (fun r => ∃ out S, r = ((s : Int), b, out, (DV S s).f_Neg, (DV S s).f_C.1, (DV S s).f_C.2, (DV S s).f_Scale) ∧ S.natAbs ≤ 6000000 ∧ out.length ≤ 6 ∧ ∀ x ∈ out, LnOk s x) (by
    rintro _ ⟨m, out, S, rfl, hm, hl, hS, ho⟩
    unfold pyxhand_Lines.l4.once
    dsimp only
    by_cases hc : 2 * m + 1 < L.length ∧ m < 6
    · left
      rw [wrapi (by omega), ct (by omega), Option.bind_some]
      dsimp only
      rw [ct (by omega), inb_t (by omega) (by omega), cond_true, Pick_eq k _ (by decide) (by decide), Option.bind_some, wrapi (by omega), inb_t (by omega) (by omega), cond_true]
      obtain ⟨v, v1, v2⟩ := HAmount_eq (k := k) (by omega) (L.getD (Int.toNat (2 * (m : Int) + 1)) 0) (s : Int)
      rw [cl_of hs] at v1
      rw [v1, Option.bind_some]
      have key : ∀ (acct w : Int), ∃ x', ((((pyxref1_Sign.f k (⟨(DV v s).f_Neg, ((DV v s).f_C.1, (DV v s).f_C.2), (DV v s).f_Scale⟩ : Sapi_Dec)).bind fun t45 => (((cond (t45 == 0) ((pyxref1_Of.f k 1 (s : Int)).bind fun t46 => (some (L, (s : Int), b, e, 2 * (m : Int), out, (DV S s).f_Neg, (DV S s).f_C.1, (DV S s).f_C.2, (DV S s).f_Scale, acct, t46.f_Neg, t46.f_C.1, t46.f_C.2, t46.f_Scale, w))) (some (L, (s : Int), b, e, 2 * (m : Int), out, (DV S s).f_Neg, (DV S s).f_C.1, (DV S s).f_C.2, (DV S s).f_Scale, acct, (DV v s).f_Neg, (DV v s).f_C.1, (DV v s).f_C.2, (DV v s).f_Scale, w))) : Option (List Int × Int × Int × Int × Int × List Sapi_Line × Bool × Int × Int × Int × Int × Bool × Int × Int × Int × Int)).bind fun y63 => (cond (okLen (List.length y63.2.2.2.2.2.1 + List.length [(⟨y63.2.2.2.2.2.2.2.2.2.2.1, (⟨y63.2.2.2.2.2.2.2.2.2.2.2.1, (y63.2.2.2.2.2.2.2.2.2.2.2.2.1, y63.2.2.2.2.2.2.2.2.2.2.2.2.2.1), y63.2.2.2.2.2.2.2.2.2.2.2.2.2.2.1⟩ : Sapi_Dec), y63.2.2.2.2.2.2.2.2.2.2.2.2.2.2.2⟩ : Sapi_Line)]) 48) ((pyxref1_Add.f k (⟨y63.2.2.2.2.2.2.1, (y63.2.2.2.2.2.2.2.1, y63.2.2.2.2.2.2.2.2.1), y63.2.2.2.2.2.2.2.2.2.1⟩ : Sapi_Dec) (⟨y63.2.2.2.2.2.2.2.2.2.2.2.1, (y63.2.2.2.2.2.2.2.2.2.2.2.2.1, y63.2.2.2.2.2.2.2.2.2.2.2.2.2.1), y63.2.2.2.2.2.2.2.2.2.2.2.2.2.2.1⟩ : Sapi_Dec)).bind fun t64 => (some (y63.1, y63.2.1, y63.2.2.1, y63.2.2.2.1, y63.2.2.2.2.1, y63.2.2.2.2.2.1 ++ [(⟨y63.2.2.2.2.2.2.2.2.2.2.1, (⟨y63.2.2.2.2.2.2.2.2.2.2.2.1, (y63.2.2.2.2.2.2.2.2.2.2.2.2.1, y63.2.2.2.2.2.2.2.2.2.2.2.2.2.1), y63.2.2.2.2.2.2.2.2.2.2.2.2.2.2.1⟩ : Sapi_Dec), y63.2.2.2.2.2.2.2.2.2.2.2.2.2.2.2⟩ : Sapi_Line)], t64.1.f_Neg, t64.1.f_C.1, t64.1.f_C.2, t64.1.f_Scale))) none))) : Option (List Int × Int × Int × Int × Int × List Sapi_Line × Bool × Int × Int × Int)).bind fun y75 => (some (.inl (y75.1, y75.2.1, y75.2.2.1, y75.2.2.2.1, IntKind.wrap .i64 (y75.2.2.2.2.1 + 2), y75.2.2.2.2.2.1, y75.2.2.2.2.2.2.1, y75.2.2.2.2.2.2.2.1, y75.2.2.2.2.2.2.2.2.1, y75.2.2.2.2.2.2.2.2.2)) : Option (_ ⊕ ((Int × Int × List Sapi_Line × Bool × Int × Int × Int))))) = some (.inl x') ∧ (∃ (m : Nat) (out : List Sapi_Line) (S : Int), x' = (L, (s : Int), b, e, 2 * (m : Int), out, (DV S s).f_Neg, (DV S s).f_C.1, (DV S s).f_C.2, (DV S s).f_Scale) ∧ m ≤ 6 ∧ out.length = m ∧ S.natAbs ≤ m * 1000000 ∧ ∀ x ∈ out, LnOk s x) ∧ 7 - x'.2.2.2.2.2.1.length < 7 - out.length := by
        intro acct w
        have hv : Sm v := by unfold Sm; omega
        have sg : pyxref1_Sign.f k (⟨(DV v s).f_Neg, ((DV v s).f_C.1, (DV v s).f_C.2), (DV v s).f_Scale⟩ : Sapi_Dec) = some (if v = 0 then 0 else if v < 0 then -1 else 1) := (RSign_eq (d := DV v s) (by omega) (Sm_w2 hv)).trans (Sign_DV (by omega) hv hs)
        rw [sg, Option.bind_some]
        have fin : ∀ z : Int, z.natAbs ≤ 1000000 → ∃ x', (((cond (okLen (List.length out + List.length [(⟨acct, (⟨(DV z s).f_Neg, ((DV z s).f_C.1, (DV z s).f_C.2), (DV z s).f_Scale⟩ : Sapi_Dec), w⟩ : Sapi_Line)]) 48) ((pyxref1_Add.f k (⟨(DV S s).f_Neg, ((DV S s).f_C.1, (DV S s).f_C.2), (DV S s).f_Scale⟩ : Sapi_Dec) (⟨(DV z s).f_Neg, ((DV z s).f_C.1, (DV z s).f_C.2), (DV z s).f_Scale⟩ : Sapi_Dec)).bind fun t64 => (some (L, (s : Int), b, e, 2 * (m : Int), out ++ [(⟨acct, (⟨(DV z s).f_Neg, ((DV z s).f_C.1, (DV z s).f_C.2), (DV z s).f_Scale⟩ : Sapi_Dec), w⟩ : Sapi_Line)], t64.1.f_Neg, t64.1.f_C.1, t64.1.f_C.2, t64.1.f_Scale))) none) : Option (List Int × Int × Int × Int × Int × List Sapi_Line × Bool × Int × Int × Int)).bind fun y75 => (some (.inl (y75.1, y75.2.1, y75.2.2.1, y75.2.2.2.1, IntKind.wrap .i64 (y75.2.2.2.2.1 + 2), y75.2.2.2.2.2.1, y75.2.2.2.2.2.2.1, y75.2.2.2.2.2.2.2.1, y75.2.2.2.2.2.2.2.2.1, y75.2.2.2.2.2.2.2.2.2)) : Option (_ ⊕ ((Int × Int × List Sapi_Line × Bool × Int × Int × Int))))) = some (.inl x') ∧ (∃ (m : Nat) (out : List Sapi_Line) (S : Int), x' = (L, (s : Int), b, e, 2 * (m : Int), out, (DV S s).f_Neg, (DV S s).f_C.1, (DV S s).f_C.2, (DV S s).f_Scale) ∧ m ≤ 6 ∧ out.length = m ∧ S.natAbs ≤ m * 1000000 ∧ ∀ x ∈ out, LnOk s x) ∧ 7 - x'.2.2.2.2.2.1.length < 7 - out.length := by
          intro z hz
          have ad : pyxref1_Add.f k (⟨(DV S s).f_Neg, ((DV S s).f_C.1, (DV S s).f_C.2), (DV S s).f_Scale⟩ : Sapi_Dec) (⟨(DV z s).f_Neg, ((DV z s).f_C.1, (DV z s).f_C.2), (DV z s).f_Scale⟩ : Sapi_Dec) = _ := RAdd_DV (k := k) (by omega) (i := S) (j := z) (s := s) (t := s) (by unfold Sm; omega) (by unfold Sm; omega) hs hs
          rw [ad, okLen_t (by simp; omega), cond_true, Nat.max_self, Nat.sub_self, Int.pow_zero, Int.mul_one, Int.mul_one, Option.bind_some, Option.bind_some]
          unfold mkD
          rw [if_pos (by omega)]
          refine ⟨_, rfl, ⟨m + 1, out ++ [⟨acct, DV z s, w⟩], S + z, ?_, by omega, by simp [hl], by omega, ?_⟩, ?_⟩
          · dsimp only
            rw [wrapi (by omega), show 2 * (m : Int) + 2 = 2 * ((m + 1 : Nat) : Int) by omega]
          · intro x hx
            rcases List.mem_append.1 hx with hx | hx
            · exact ho x hx
            · simp only [List.mem_cons, List.not_mem_nil, or_false] at hx
              subst hx
              exact ⟨z, rfl, by omega⟩
          · dsimp only
            rw [List.length_append, List.length_singleton]
            omega
        by_cases h0 : v = 0
        · rw [if_pos h0, show ((0 : Int) == 0) = true from rfl, cond_true]
          rw [ROf_DV (k := k) (by omega) (by omega), cl_of hs, Option.bind_some, Option.bind_some]
          exact fin 1 (by decide)
        · have : ((if v = 0 then (0 : Int) else if v < 0 then -1 else 1) == 0) = false := by
            rw [if_neg h0]; split <;> rfl
          rw [this, cond_false, Option.bind_some]
          exact fin v (by omega)
      obtain ⟨bb, hbb⟩ : ∃ bb, pyxref11_IsWith.f k (pick (L.getD (Int.toNat (2 * (m : Int))) 0) 16) = some bb := by
        unfold pyxref11_IsWith.f
        cases (pick (L.getD (Int.toNat (2 * (m : Int))) 0) 16 == 3) <;> exact ⟨_, rfl⟩
      rw [hbb, Option.bind_some]
      cases bb
      · rw [cond_false, Option.bind_some]
        exact key _ _
      · rw [cond_true, Pick_eq k _ (by split <;> omega) (by split <;> omega), Option.bind_some, cond_true, Option.bind_some]
        exact key _ _
    · right
      by_cases h1 : 2 * m + 1 < L.length
      · rw [wrapi (by omega), ct (by omega), Option.bind_some]
        dsimp only
        rw [cf (by omega)]
        exact ⟨_, rfl, out, S, rfl, by omega, by omega, ho⟩
      · have : ¬ (IntKind.wrap .i64 (2 * (m : Int) + 1) < (L.length : Int)) := by
          rw [wrapi (by omega)]; omega
        rw [cf this, Option.bind_some, cond_false]
        exact ⟨_, rfl, out, S, rfl, by omega, by omega, ho⟩) k _ ⟨0, [], 0, rfl, by omega, rfl, by decide, fun x hx => by cases hx⟩ (by dsimp only [List.length_nil]; omega)
  obtain ⟨out, S, rfl, h3⟩ := h2
  exact ⟨out, S, h1, h3⟩
theorem HLines_fill {k : Nat} (hk : 700 < k) (b : Int) {out : List Sapi_Line} (h0 : 0 < out.length) (h9 : out.length ≤ 9) (P : Sapi_Line → Prop) (hP : ∀ x ∈ out, P x) :
    ∃ out', iter (pyxhand_Lines.l28.once k) k (b, out) = some (b, out') ∧ out'.length = 9 ∧ ∀ x ∈ out', P x := by
  obtain ⟨y, h1, h2⟩ := iter_rule (once := pyxhand_Lines.l28.once k) (fun st => ∃ (o : List Sapi_Line), st = (b, o) ∧ 0 < o.length ∧ o.length ≤ 9 ∧ ∀ x ∈ o, P x) (fun st => 9 - st.2.length)
    (fun r => ∃ o, r = (b, o) ∧ o.length = 9 ∧ ∀ x ∈ o, P x) (by
    rintro _ ⟨o, rfl, g0, g9, hp⟩
    unfold pyxhand_Lines.l28.once
    dsimp only
    by_cases hc : o.length < 9
    · left
      rw [ct (by omega), inb_t (by omega) (by omega), cond_true, blt_t (by omega), cond_true, okLen_t (by simp; omega), cond_true]
      refine ⟨_, rfl, ⟨_, rfl, ?_, ?_, ?_⟩, ?_⟩
      · simp
      · simp; omega
      · intro x hx
        rcases List.mem_append.1 hx with hx | hx
        · exact hp x hx
        · simp only [List.mem_cons, List.not_mem_nil, or_false] at hx
          subst hx
          exact hp _ (getD_mem Sapi_Line.zero (by omega))
      · dsimp only
        rw [List.length_append, List.length_singleton]
        omega
    · right
      rw [cf (by omega)]
      exact ⟨_, rfl, o, rfl, by omega, hp⟩) k (b, out) ⟨out, rfl, h0, h9, hP⟩ (by dsimp only; omega)
  obtain ⟨o, rfl, h3⟩ := h2
  exact ⟨o, h1, h3⟩
/-- Is its number one of two words? -/
def LnW (x : Sapi_Line) : Prop := W2 x.f_Amount.f_C
theorem mem_set {α : Type} {l : List α} {i : Nat} {v x : α} (h : x ∈ l.set i v) : x ∈ l ∨ x = v := List.mem_or_eq_of_mem_set h
/-- Raw numbers as lines: some lines, each of whose amounts is of two words. -/
theorem HLines_ok {k : Nat} (hk : 700 < k) (L : List Int) (hlen : L.length ≤ 9223372036854775807) {s : Nat} (hs : s ≤ 9) {b : Int} (hb : -9223372036854775808 ≤ b ∧ b < 9223372036854775808) {e : Int} (he : 1 ≤ e ∧ e ≤ 4611686018427387904) :
    ∃ out, pyxhand_Lines.f k L (s : Int) b e = some out ∧ out.length ≤ 9 ∧ ∀ x ∈ out, LnW x := by
  unfold pyxhand_Lines.f
  rw [Zero_eq, Option.bind_some]
  obtain ⟨o1, S, l1, l2, l3, l4⟩ := HLines_loop hk L hlen hs b he
  rw [l1, Option.bind_some]
  have hS : Sm S := by unfold Sm; omega
  have sg : pyxref1_Sign.f k (⟨(DV S s).f_Neg, ((DV S s).f_C.1, (DV S s).f_C.2), (DV S s).f_Scale⟩ : Sapi_Dec) = some (if S = 0 then 0 else if S < 0 then -1 else 1) := (RSign_eq (d := DV S s) (by omega) (Sm_w2 hS)).trans (Sign_DV (by omega) hS hs)
  dsimp only
  rw [sg, Option.bind_some]
  -- the balance
  have bal : ∀ bb : Bool, (bb = false → o1 ≠ []) → ∃ o2 : List Sapi_Line, (((cond bb ((pyxref1_Neg.f k (⟨(DV S s).f_Neg, ((DV S s).f_C.1, (DV S s).f_C.2), (DV S s).f_Scale⟩ : Sapi_Dec)).bind fun t94 => (((cond ((List.length o1 : Int) == 0) ((pyxref1_Of.f k 5 (s : Int)).bind fun t95 => ((pyxref1_Of.f k (-5) (s : Int)).bind fun t96 => (cond (okLen (List.length o1 + List.length [(⟨8, (⟨t96.f_Neg, (t96.f_C.1, t96.f_C.2), t96.f_Scale⟩ : Sapi_Dec), (-1)⟩ : Sapi_Line)]) 48) (some (b, o1 ++ [(⟨8, (⟨t96.f_Neg, (t96.f_C.1, t96.f_C.2), t96.f_Scale⟩ : Sapi_Dec), (-1)⟩ : Sapi_Line)], 0, t95.f_Neg, t95.f_C.1, t95.f_C.2, t95.f_Scale, (-1))) none))) (some (b, o1, 0, t94.f_Neg, t94.f_C.1, t94.f_C.2, t94.f_Scale, (-1)))) : Option (Int × List Sapi_Line × Int × Bool × Int × Int × Int × Int)).bind fun y105 => (cond (okLen (List.length y105.2.1 + List.length [(⟨y105.2.2.1, (⟨y105.2.2.2.1, (y105.2.2.2.2.1, y105.2.2.2.2.2.1), y105.2.2.2.2.2.2.1⟩ : Sapi_Dec), y105.2.2.2.2.2.2.2⟩ : Sapi_Line)]) 48) (some (y105.1, y105.2.1 ++ [(⟨y105.2.2.1, (⟨y105.2.2.2.1, (y105.2.2.2.2.1, y105.2.2.2.2.2.1), y105.2.2.2.2.2.2.1⟩ : Sapi_Dec), y105.2.2.2.2.2.2.2⟩ : Sapi_Line)])) none))) (some (b, o1))) : Option (Int × List Sapi_Line))) = some (b, o2) ∧ 0 < o2.length ∧ o2.length ≤ 8 ∧ ∀ x ∈ o2, LnOk s x := by
    intro bb hbb
    cases bb
    · refine ⟨o1, rfl, ?_, by omega, l4⟩
      have := hbb rfl
      cases o1 with
      | nil => exact absurd rfl this
      | cons a r => exact Nat.succ_pos _
    · have ng : pyxref1_Neg.f k (⟨(DV S s).f_Neg, ((DV S s).f_C.1, (DV S s).f_C.2), (DV S s).f_Scale⟩ : Sapi_Dec) = some (DV (-S) s) := (RNeg_eq (d := DV S s) (by omega) (Sm_w2 hS)).trans (Neg_DV (by omega) hS hs)
      rw [cond_true, ng, Option.bind_some]
      cases o1 with
      | nil =>
        rw [show ((([] : List Sapi_Line).length : Int) == 0) = true from rfl, cond_true, ROf_DV (k := k) (by omega) (by omega), ROf_DV (k := k) (by omega) (by omega), cl_of hs, Option.bind_some, Option.bind_some]
        refine ⟨[⟨8, DV (-5) s, -1⟩, ⟨0, DV 5 s, -1⟩], rfl, Nat.succ_pos _, by simp, fun x hx => ?_⟩
        simp only [List.mem_cons, List.not_mem_nil, or_false] at hx
        rcases hx with rfl | rfl
        · exact ⟨-5, rfl, by decide⟩
        · exact ⟨5, rfl, by decide⟩
      | cons a r =>
        have : (((a :: r).length : Int) == 0) = false := by
          rw [List.length_cons]
          simp
          omega
        rw [this, cond_false, Option.bind_some]
        dsimp only
        rw [okLen_t (by simp only [List.length_cons, List.length_nil] at l3 ⊢; omega), cond_true]
        refine ⟨_, rfl, by simp, by simp only [List.length_append, List.length_cons, List.length_nil] at l3 ⊢; omega, fun x hx => ?_⟩
        rcases List.mem_append.1 hx with hx | hx
        · exact l4 x hx
        · simp only [List.mem_cons, List.not_mem_nil, or_false] at hx
          subst hx
          exact ⟨-S, rfl, by omega⟩
  have join : ∃ bb : Bool, (bb = false → o1 ≠ []) ∧ (cond ((if S = 0 then (0 : Int) else if S < 0 then -1 else 1) != 0) (some ((s : Int), b, true, o1, (DV S s).f_Neg, (DV S s).f_C.1, (DV S s).f_C.2, (DV S s).f_Scale)) (some ((s : Int), b, (List.length o1 : Int) == 0, o1, (DV S s).f_Neg, (DV S s).f_C.1, (DV S s).f_C.2, (DV S s).f_Scale)) : Option (Int × Int × Bool × List Sapi_Line × Bool × Int × Int × Int)) = some ((s : Int), b, bb, o1, (DV S s).f_Neg, (DV S s).f_C.1, (DV S s).f_C.2, (DV S s).f_Scale) := by
    cases ((if S = 0 then (0 : Int) else if S < 0 then -1 else 1) != 0)
    · refine ⟨_, ?_, rfl⟩
      rintro h rfl
      cases h
    · exact ⟨true, (fun h => by cases h), rfl⟩
  obtain ⟨bb, hbb, hj⟩ := join
  rw [hj, Option.bind_some]
  dsimp only
  obtain ⟨o2, b1, b2, b3, b4⟩ := bal bb hbb
  refine ex_of (bind_at b1 rfl) ?_
  dsimp only
  have pb := pick_bd (IntKind.wrap .i64 (Int.tdiv b 20)) (m := (o2.length : Int)) (by omega)
  rw [Pick_eq k _ (by omega) (by omega), Option.bind_some, Pick_eq k _ (by decide) (by decide), Option.bind_some]
  generalize pick (IntKind.wrap .i64 (Int.tdiv b 20)) (o2.length : Int) = w at *
  have hin : inb w (List.length o2) = true := inb_t (by omega) (by omega)
  have hbl : Nat.blt (Int.toNat w) (List.length o2) = true := blt_t (by omega)
  have hgm := getD_mem Sapi_Line.zero (l := o2) (i := Int.toNat w) (by omega)
  have hgw := (b4 _ hgm).w2
  have put : ∀ (v : Sapi_Line), W2 v.f_Amount.f_C → ∃ out, some (List.set o2 (Int.toNat w) v) = some out ∧ out.length ≤ 9 ∧ ∀ x ∈ out, LnW x := by
    intro v hv
    refine ⟨_, rfl, by rw [List.length_set]; omega, fun x hx => ?_⟩
    rcases mem_set hx with hx | rfl
    · exact (b4 x hx).w2
    · exact hv
  rw [hin, hbl]
  simp only [cond_true]
  cases (pick b 20 == 12)
  · rw [cond_false]
    cases (pick b 20 == 13)
    · rw [cond_false]
      cases (pick b 20 == 14)
      · rw [cond_false]
        cases (pick b 20 == 15)
        · rw [cond_false]
          cases (pick b 20 == 16)
          · rw [cond_false]
            exact ⟨o2, rfl, by omega, fun x hx => (b4 x hx).w2⟩
          · rw [cond_true]
            obtain ⟨v, v1, v2⟩ := b4 _ hgm
            have ng : pyxref1_Neg.f k (⟨((List.getD o2 (Int.toNat w) Sapi_Line.zero).f_Amount).f_Neg, ((((List.getD o2 (Int.toNat w) Sapi_Line.zero).f_Amount).f_C).1, (((List.getD o2 (Int.toNat w) Sapi_Line.zero).f_Amount).f_C).2), ((List.getD o2 (Int.toNat w) Sapi_Line.zero).f_Amount).f_Scale⟩ : Sapi_Dec) = some (DV (-v) s) := by
              rw [v1]
              exact (RNeg_eq (d := DV v s) (by omega) (Sm_w2 (by unfold Sm; omega))).trans (Neg_DV (by omega) (by unfold Sm; omega) hs)
            rw [ng, Option.bind_some]
            exact put _ (Sm_w2 (by unfold Sm; omega))
        · rw [cond_true]
          obtain ⟨o3, f1, f2, f3⟩ := HLines_fill hk b b2 (by omega) LnW (fun x hx => (b4 x hx).w2)
          rw [f1, Option.bind_some]
          dsimp only
          have p3 := pick_bd (IntKind.wrap .i64 (Int.tdiv b 160)) (m := 3) (by decide)
          rw [Pick_eq k _ (by decide) (by decide), Option.bind_some, wrapi (by omega), inS_t (by omega) (by omega) (by omega), cond_true]
          refine ⟨_, rfl, by rw [List.length_take]; omega, fun x hx => f3 x (List.mem_of_mem_take hx)⟩
      · rw [cond_true, Pick_eq k _ (by decide) (by decide), Option.bind_some]
        exact put _ hgw
    · rw [cond_true]
      obtain ⟨d, d1, d2⟩ := HDec_ok (k := k) (by omega) (s := IntKind.wrap .i64 (Int.tdiv b 7)) (b := IntKind.wrap .i64 (Int.tdiv b 160)) hb
      rw [d1, Option.bind_some]
      exact put _ d2
  · rw [cond_true, Pick_eq k _ (by decide) (by decide), Option.bind_some]
    exact put _ hgw
end Go.Proofs.Ytlaogfkgkpgofaa.Pure
