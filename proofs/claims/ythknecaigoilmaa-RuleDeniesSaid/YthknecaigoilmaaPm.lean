/- What rule.May says of a policy that is right. No conditions but size. -/
import Derived.Test.YthknecaigoilmaaPr
namespace Go.Proofs.Ythknecaigoilmaa.Pure
set_option linter.unusedVariables false
set_option linter.unusedSimpArgs false
open Go Go.Ev Go.Pu
theorem filter_take' {α : Type} (p : α → Bool) (d : α) {l : List α} {i : Nat} (h : i < l.length) : (l.take (i + 1)).filter p = (l.take i).filter p ++ (if p (l.getD i d) then [l.getD i d] else []) := by
  rw [List.take_add_one, List.filter_append, List.getD_eq_getElem?_getD, List.getElem?_eq_getElem h, Option.getD_some]
  congr 1
  cases hp : p l[i] <;> simp [hp]
theorem dropD {α : Type} {l : List α} {i : Nat} (d : α) (h : i < l.length) : l.drop i = l.getD i d :: l.drop (i + 1) := by
  rw [List.drop_eq_getElem_cons h, List.getD_eq_getElem?_getD, List.getElem?_eq_getElem h]
  rfl
theorem All_ex {k : Nat} (hk : 1000 < k) {p : Sapi_Policy} (h : PolOk p) (roles : Int) : ∃ v, role_All.f k p.f_Up roles = some v ∧ True := by
  obtain ⟨hu, hu2⟩ := up_ok h
  unfold role_All.f
  rw [roleRight_ok hk (by omega) hu2, Option.bind_some, Bool.not_true, cond_false, (bit_eq k (i := (p.f_Up.length : Int)) (by omega)).2, Option.bind_some, hu, wrapi (by omega)]
  refine bex (fun _ => True) ?_ (fun v _ => ⟨_, rfl, trivial⟩)
  refine iter_rule (once := role_All.l5.once k) (fun st => ∃ (v i : Int), st = (p.f_Up, v, i) ∧ -1 ≤ i ∧ i ≤ 3) (fun st => (st.2.2 + 1).toNat) _ (by
    rintro _ ⟨v, i, rfl, h1, h2⟩
    by_cases hc : i ≥ 0
    · left
      have hx := hu2 i.toNat (by omega)
      refine step_of ?_
      unfold role_All.l5.once
      dsimp only
      rw [ct hc]
      refine bex (fun y => ∃ v', y = (p.f_Up, v', i)) ?_ ?_
      · refine bex (fun y => ∃ b : Bool, (b = true → 0 ≤ p.f_Up.getD i.toNat 0) ∧ y = (p.f_Up, v, i, b)) ?_ ?_
        · rw [(bit_eq k (i := i) (by omega)).2, Option.bind_some]
          by_cases hb : bits .and .u64 v (2 ^ i.toNat) > 0
          · rw [ct hb, inb_t (by omega) (by omega), cond_true]
            exact ⟨_, rfl, _, (fun hh => of_decide_eq_true hh), rfl⟩
          · rw [cf hb]
            exact ⟨_, rfl, false, (fun hh => by cases hh), rfl⟩
        · rintro _ ⟨b, hb, rfl⟩
          dsimp only
          cases b with
          | false => exact ⟨_, rfl, v, rfl⟩
          | true =>
            have := hb rfl
            rw [cond_true, inb_t (by omega) (by omega), cond_true, (bit_eq k (i := p.f_Up.getD i.toNat 0) (by omega)).2, Option.bind_some]
            exact ⟨_, rfl, _, rfl⟩
      · rintro _ ⟨v', rfl⟩
        dsimp only
        rw [wrapi (by omega)]
        exact ⟨_, rfl, _, rfl, ⟨v', i - 1, rfl, by omega, by omega⟩, by dsimp only; omega⟩
    · right
      unfold role_All.l5.once
      dsimp only
      rw [cf hc]
      exact ⟨_, rfl, trivial⟩) k _ ⟨_, _, rfl, by omega, by omega⟩ (by dsimp only; omega)
theorem Has_ex {k : Nat} (hk : 1000 < k) {p : Sapi_Policy} (h : PolOk p) (roles role : Int) : ∃ b, role_Has.f k p.f_Up roles role = some b := by
  obtain ⟨hu, hu2⟩ := up_ok h
  obtain ⟨v, hv, _⟩ := All_ex hk h roles
  unfold role_Has.f
  by_cases h1 : role ≥ 0
  · rw [ct h1]
    by_cases h2 : role < (p.f_Up.length : Int)
    · rw [ct h2, hv, Option.bind_some, (bit_eq k (i := role) (by omega)).2, Option.bind_some]
      exact ⟨_, rfl⟩
    · rw [cf h2]; exact ⟨_, rfl⟩
  · rw [cf h1]; exact ⟨_, rfl⟩
noncomputable def hasB (k : Nat) (up : List Int) (roles role : Int) : Bool := (role_Has.f k up roles role).getD false
theorem Has_eq {k : Nat} (hk : 1000 < k) {p : Sapi_Policy} (h : PolOk p) (roles role : Int) : role_Has.f k p.f_Up roles role = some (hasB k p.f_Up roles role) := by
  obtain ⟨b, hb⟩ := Has_ex hk h roles role
  unfold hasB
  rw [hb]
  rfl
def isDeny (r : Sapi_Rule) : Bool := r.f_Tag == 2
theorem Deny_eq {k : Nat} (hk : 1000 < k) {l : List Sapi_Rule} (hl : l.length ≤ 1000) : slices_ContainsFunc_api_Rule_c79.f k l () = some (l.any isDeny) := by
  unfold slices_ContainsFunc_api_Rule_c79.f slices_IndexFunc_api_Rule_c79.f
  have key : ∀ (m i : Nat), i ≤ l.length → l.length - i < m → ∃ r, iter (slices_IndexFunc_api_Rule_c79.l2.once k) m (l, (l.length : Int), (i : Int)) = some r ∧ ((r = .inl () ∧ (l.drop i).any isDeny = false) ∨ ∃ j : Nat, r = .inr (j : Int) ∧ (l.drop i).any isDeny = true) := by
    intro m
    induction m with
    | zero => intro i _ h; omega
    | succ m ih =>
      intro i hi hm
      by_cases hc : i < l.length
      · rw [dropD Sapi_Rule.zero hc, List.any_cons]
        have e : slices_IndexFunc_api_Rule_c79.l2.once k (l, (l.length : Int), (i : Int)) = cond (isDeny (l.getD i Sapi_Rule.zero)) (some (.inr (.inr (i : Int)))) (some (.inl (l, (l.length : Int), ((i + 1 : Nat) : Int)))) := by
          unfold slices_IndexFunc_api_Rule_c79.l2.once
          dsimp only
          rw [ct (by omega), inb_t (by omega) (by omega), cond_true, Int.toNat_natCast, wrapi (by omega)]
          rfl
        cases hd : isDeny (l.getD i Sapi_Rule.zero) with
        | true =>
          rw [hd] at e
          exact ⟨_, iter_stop e, .inr ⟨i, rfl, rfl⟩⟩
        | false =>
          rw [hd] at e
          rw [iter_step e, Bool.false_or]
          exact ih (i + 1) (by omega) (by omega)
      · refine ⟨.inl (), iter_stop ?_, .inl ⟨rfl, by rw [List.drop_eq_nil_of_le (by omega)]; rfl⟩⟩
        unfold slices_IndexFunc_api_Rule_c79.l2.once
        dsimp only
        rw [cf (by omega)]
  obtain ⟨r, h1, h2⟩ := key k 0 (by omega) (by omega)
  rw [List.drop_zero] at h2
  rcases h2 with ⟨rfl, h2⟩ | ⟨j, rfl, h2⟩
  · rw [h2]
    exact bof (v := -1) (bof h1 rfl) rfl
  · rw [h2]
    refine bof (v := (j : Int)) (bof h1 rfl) ?_
    rw [decide_eq_true (by omega)]
section
variable (k : Nat) (p : Sapi_Policy) (who verb ent : Int)
noncomputable def apB (r : Sapi_Rule) : Bool := !(r.f_Tag == 3) && (r.f_Verb == verb && hasB k p.f_Up (p.f_Who.getD who.toNat Sapi_Who.zero).f_Roles r.f_Role)
noncomputable def ownB (r : Sapi_Rule) : Bool := apB k p who verb r && (r.f_Ent == ent)
noncomputable def wideB (r : Sapi_Rule) : Bool := apB k p who verb r && (!(r.f_Ent == ent) && (r.f_Ent == -1))
end
/-- What is said of two lists of rules: of the entity's own, of any entity's. -/
def says (own wide : List Sapi_Rule) : Bool := decide (0 < (if 0 < own.length then own else wide).length) && !((if 0 < own.length then own else wide).any isDeny)
theorem May_eq {k : Nat} (hk : 1000 < k) {p : Sapi_Policy} (h : PolOk p) {who verb ent : Int} (h1 : 0 ≤ who ∧ who < p.f_Who.length) (h2 : 1 ≤ verb ∧ verb ≤ 3) (h3 : 0 ≤ ent ∧ ent < p.f_Ents.length) :
    rule_May.f k p who verb ent = some (says (p.f_Rules.filter (ownB k p who verb ent)) (p.f_Rules.filter (wideB k p who verb ent))) := by
  have hn := h.ents
  have hw := h.who
  have hr := h.rules
  unfold rule_May.f
  refine bof (v := (who, verb, ent, false, p.f_Ents, p.f_Groups, p.f_Who, p.f_Up, p.f_Rules)) (by
    refine bof (Right_ok hk h) ?_
    rw [Bool.not_true, cond_false, wrapi (by omega), within_t k (by omega), Option.bind_some, Bool.not_true, cond_false, within_t k h2, Option.bind_some, Bool.not_true, cond_false, wrapi (by omega), within_t k (by omega), Option.bind_some]
    rfl) ?_
  dsimp only
  rw [cond_false]
  have hs := iter_seq (once := rule_May.l5.once k) (fun i => (who, verb, ent, (p.f_Rules.take i).filter (ownB k p who verb ent), (p.f_Rules.take i).filter (wideB k p who verb ent), p.f_Rules, (p.f_Rules.length : Int), (i : Int), p.f_Ents, p.f_Groups, p.f_Who, p.f_Up, p.f_Rules)) p.f_Rules.length (by
    intro i hi
    have l1 := List.length_filter_le (ownB k p who verb ent) (p.f_Rules.take i)
    have l2 := List.length_filter_le (wideB k p who verb ent) (p.f_Rules.take i)
    have l3 : (p.f_Rules.take i).length ≤ i := by rw [List.length_take]; omega
    rw [filter_take' _ Sapi_Rule.zero hi, filter_take' _ Sapi_Rule.zero hi]
    unfold rule_May.l5.once
    dsimp only
    rw [ct (by omega), inb_t (by omega) (by omega), cond_true, Int.toNat_natCast]
    generalize p.f_Rules.getD i Sapi_Rule.zero = r at *
    generalize (p.f_Rules.take i).filter (ownB k p who verb ent) = own at *
    generalize (p.f_Rules.take i).filter (wideB k p who verb ent) = wide at *
    refine bof (v := (who, verb, ent, own, wide, p.f_Rules, (p.f_Rules.length : Int), (i : Int), !(apB k p who verb r), p.f_Ents, p.f_Groups, p.f_Who, p.f_Up, p.f_Rules, r)) (by
      unfold apB
      cases h3 : r.f_Tag == 3
      · rw [cond_false]
        cases hv : r.f_Verb == verb
        · rw [show (r.f_Verb != verb) = true by unfold bne; rw [hv]; rfl, cond_true]
          rfl
        · rw [show (r.f_Verb != verb) = false by unfold bne; rw [hv]; rfl, cond_false, inb_t h1.1 h1.2, cond_true]
          refine bof (Has_eq hk h _ _) ?_
          rfl
      · rfl) ?_
    dsimp only
    unfold ownB wideB
    cases ha : apB k p who verb r
    · rw [Bool.not_false, cond_true, Bool.false_and, Bool.false_and, if_neg (by decide), List.append_nil, List.append_nil, wrapi (by omega)]
      rfl
    · rw [Bool.not_true, cond_false, Bool.true_and, Bool.true_and]
      cases he : r.f_Ent == ent
      · rw [cond_false, if_neg (by decide), List.append_nil, Bool.not_false, Bool.true_and]
        cases hm : r.f_Ent == -1
        · rw [cond_false, if_neg (by decide), List.append_nil, wrapi (by omega)]
          rfl
        · rw [cond_true, okLen_t' (by simp only [List.length_cons, List.length_nil]; omega), cond_true, if_pos rfl, wrapi (by omega)]
          rfl
      · rw [cond_true, okLen_t' (by simp only [List.length_cons, List.length_nil]; omega), cond_true, if_pos rfl, Bool.not_true, Bool.false_and, if_neg (by decide), List.append_nil, wrapi (by omega)]
        rfl) (p.f_Rules.filter (ownB k p who verb ent), p.f_Rules.filter (wideB k p who verb ent)) (by
    unfold rule_May.l5.once
    dsimp only
    rw [cf (by omega), List.take_length]) k 0 (by omega) (by omega)
  refine bof hs ?_
  dsimp only
  have l1 := List.length_filter_le (ownB k p who verb ent) p.f_Rules
  have l2 := List.length_filter_le (wideB k p who verb ent) p.f_Rules
  generalize p.f_Rules.filter (ownB k p who verb ent) = own at *
  generalize p.f_Rules.filter (wideB k p who verb ent) = wide at *
  unfold says
  refine bof (v := if 0 < own.length then own else wide) (by
    by_cases hc : 0 < own.length
    · rw [ct (by omega), if_pos hc]
    · rw [cf (by omega), if_neg hc]) ?_
  have l3 : (if 0 < own.length then own else wide).length ≤ 1000 := by split <;> omega
  generalize (if 0 < own.length then own else wide) = l at *
  by_cases hc : 0 < l.length
  · rw [ct (by omega), decide_eq_true hc, Bool.true_and]
    exact bof (Deny_eq hk l3) rfl
  · rw [cf (by omega), decide_eq_false hc, Bool.false_and]
end Go.Proofs.Ythknecaigoilmaa.Pure
