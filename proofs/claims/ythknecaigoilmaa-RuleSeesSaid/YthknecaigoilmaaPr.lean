/- What rule.Right and rule.May say of policies that are right. No conditions but size. -/
import Derived.Test.YthknecaigoilmaaPo
namespace Go.Proofs.Ythknecaigoilmaa.Pure
set_option linter.unusedVariables false
set_option linter.unusedSimpArgs false
open Go Go.Ev Go.Pu
theorem memD {α : Type} {l : List α} {i : Nat} (d : α) (h : i < l.length) : l.getD i d ∈ l := by
  rw [List.getD_eq_getElem?_getD, List.getElem?_eq_getElem h]
  exact List.getElem_mem h
theorem within_eq (k : Nat) (a b c : Int) : rule_within.f k a b c = some (decide (b ≤ a) && decide (a ≤ c)) := by
  unfold rule_within.f
  by_cases h : b ≤ a
  · rw [ct h, decide_eq_true h, Bool.true_and]
  · rw [cf (by omega), decide_eq_false h, Bool.false_and]
theorem within_t (k : Nat) {a b c : Int} (h : b ≤ a ∧ a ≤ c) : rule_within.f k a b c = some true := by
  rw [within_eq, decide_eq_true h.1, decide_eq_true h.2]; rfl
theorem bit_eq (k : Nat) {i : Int} (h : 0 ≤ i ∧ i < 64) : label_bit.f k i = some (2 ^ i.toNat) ∧ role_bit.f k i = some (2 ^ i.toNat) := by
  have e : IntKind.wrap .u64 (1 * 2 ^ (min (Int.toNat (IntKind.wrap .u64 i)) 64)) = 2 ^ i.toNat := by
    rw [wrapu (n := i) (by omega), show min i.toNat 64 = i.toNat by omega, Int.one_mul]
    refine wrapu ⟨Int.le_of_lt (Int.pow_pos (by decide)), ?_⟩
    have h2 : (2 : Nat) ^ i.toNat ≤ 2 ^ 63 := Nat.pow_le_pow_right (by decide) (by omega)
    have h3 : ((2 ^ i.toNat : Nat) : Int) = (2 : Int) ^ i.toNat := by simp
    have h4 : (2 : Nat) ^ 63 = 9223372036854775808 := by decide
    omega
  unfold label_bit.f role_bit.f
  rw [cf (by rw [wrapu (by omega)]; omega), e]
  exact ⟨rfl, rfl⟩
theorem LRight_ok (k : Nat) {a : Sapi_Label} (h1 : 0 ≤ a.f_Set ∧ a.f_Set < 256) (h2 : 0 ≤ a.f_Level ∧ a.f_Level ≤ 3) : label_Right.f k a = some true := by
  unfold label_Right.f
  rw [(bit_eq k (i := 8) (by omega)).1, Option.bind_some, ct (show a.f_Set < 2 ^ (8 : Int).toNat from h1.2), ct h2.1, decide_eq_true h2.2]
theorem rightEnt_ok (k : Nat) {e : Sapi_Ent} {i : Nat} (hi : i < 1000) (h : EntOk i e) : rule_rightEnt.f k e (i : Int) = some true := by
  obtain ⟨h1, h2, h3, h4, h5⟩ := h
  unfold rule_rightEnt.f
  rw [within_t k h1, Option.bind_some, cond_true, within_t k h2, Option.bind_some, cond_true, wrapi (by omega), within_t k (by omega), Option.bind_some, cond_true, within_t k h4, Option.bind_some, cond_true]
  by_cases h : e.f_Parent = -1
  · rw [show (e.f_Parent == -1) = true from beq_iff_eq.2 h, Bool.not_true, cond_false, h5 h]
    rfl
  · rw [show (e.f_Parent == -1) = false from beq_eq_false_iff_ne.2 h, Bool.not_false, cond_true]
theorem Sign_units {k : Nat} (hk : 1000 < k) {u : Sapi_Dec} (h : u ∈ units) : dec_Sign.f k u = some 1 ∧ u.f_Scale ≤ 2 := by
  obtain ⟨j, rfl⟩ : ∃ j, k = j + 1000 := ⟨k - 1000, by omega⟩
  unfold units at h
  simp only [List.mem_cons, List.not_mem_nil, or_false] at h
  rcases h with rfl | rfl | rfl | rfl <;> exact ⟨by kernel_rfl, by decide⟩
theorem rightRule_ok {k : Nat} (hk : 1000 < k) {p : Sapi_Policy} {r : Sapi_Rule} (hu : p.f_Up.length = 4) (hn : p.f_Ents.length ≤ 1000) (hm : p.f_Groups.length ≤ 1000) (h : RuleOk p.f_Ents.length p.f_Groups.length r) : rule_rightRule.f k p r = some true := by
  obtain ⟨tag, role, verb, ent, grp, lin, u, to⟩ := r
  obtain ⟨hr, h⟩ := h
  unfold rule_rightRule.f
  dsimp only at *
  rw [hu, wrapi (by decide), within_t k (by omega), Option.bind_some, Bool.not_true, cond_false]
  rcases h with ⟨h1, rfl, rfl, rfl, rfl, h6, h7⟩ | ⟨rfl, rfl, rfl, h4, h5, h6, h7, h8⟩
  · refine bof (v := (tag, true, p.f_Ents, p.f_Groups, p.f_Who, p.f_Up, p.f_Rules, (⟨tag, role, verb, ent, 0, 0, ⟨false, (0, 0), 0⟩, ⟨0, 0⟩⟩ : Sapi_Rule))) (by
      rcases h1 with rfl | rfl
      · exact rfl
      · exact rfl) ?_
    dsimp only
    rw [cond_true]
    refine bof (v := (true, p.f_Ents, p.f_Groups, p.f_Who, p.f_Up, p.f_Rules, _)) (by exact rfl) ?_
    dsimp only
    rw [cond_true, within_t k h6, Option.bind_some, cond_true, wrapi (by omega), within_t k (by omega), Option.bind_some]
  · obtain ⟨s1, s2⟩ := Sign_units hk h6
    refine bof (v := (3, false, p.f_Ents, p.f_Groups, p.f_Who, p.f_Up, p.f_Rules, _)) (by exact rfl) ?_
    dsimp only
    rw [cond_false, show ((3 : Int) == 3) = true from rfl, cond_true]
    refine bof (v := (true, p.f_Ents, p.f_Groups, p.f_Who, p.f_Up, p.f_Rules, _)) (by
      refine bof s1 ?_
      rw [ct (by decide), decide_eq_true s2]) ?_
    dsimp only
    rw [cond_true, show ((0 : Int) == 0) = true from rfl, cond_true, show ((-1 : Int) == -1) = true from rfl, cond_true, wrapi (by omega), within_t k (by omega), Option.bind_some, cond_true, within_t k h5, Option.bind_some, cond_true]
    refine bof (LRight_ok k h7 h8) ?_
    rfl
theorem roleRight_ok {k : Nat} (hk : 1000 < k) {up : List Int} (hl : up.length ≤ 8) (h : ∀ i, i < up.length → -1 ≤ up.getD i 0 ∧ up.getD i 0 < i) : role_Right.f k up = some true := by
  unfold role_Right.f
  have hs := iter_seq (once := role_Right.l2.once k) (fun i => (up, up, (up.length : Int), (i : Int))) up.length (by
    intro i hi
    have := h i hi
    unfold role_Right.l2.once
    dsimp only
    rw [ct (by omega), inb_t (by omega) (by omega), cond_true, Int.toNat_natCast, cf (by omega), Option.bind_some]
    dsimp only
    rw [decide_eq_false (by omega), cond_false, wrapi (by omega)]
    rfl) (.inl up) (by
    unfold role_Right.l2.once
    dsimp only
    rw [cf (by omega)]) k 0 (by omega) (by omega)
  refine bof hs ?_
  dsimp only
  rw [decide_eq_true (by omega)]
theorem up_ok {p : Sapi_Policy} (h : PolOk p) : p.f_Up.length = 4 ∧ ∀ i, i < p.f_Up.length → -1 ≤ p.f_Up.getD i 0 ∧ p.f_Up.getD i 0 < i := by
  obtain ⟨a, b, hu, ha, hb⟩ := h.up
  rw [hu]
  refine ⟨rfl, fun i hi => ?_⟩
  have hi : i < 4 := hi
  have : i = 0 ∨ i = 1 ∨ i = 2 ∨ i = 3 := by omega
  rcases this with rfl | rfl | rfl | rfl
  · show (-1 : Int) ≤ -1 ∧ (-1 : Int) < 0; omega
  · show -1 ≤ a ∧ a < 1; omega
  · show -1 ≤ b ∧ b < 2; omega
  · show (-1 : Int) ≤ -1 ∧ (-1 : Int) < 3; omega
theorem Cont_groups {k : Nat} (hk : 1000 < k) {p : Sapi_Policy} (h : PolOk p) : slices_ContainsFunc__uint64_uint64_c87.f k p.f_Groups p = some false := by
  unfold slices_ContainsFunc__uint64_uint64_c87.f slices_IndexFunc__uint64_uint64_c87.f
  have hg := h.groups
  have hn := h.ents
  have hs := iter_seq (once := slices_IndexFunc__uint64_uint64_c87.l2.once k) (fun i => (p.f_Groups, p.f_Ents, p.f_Groups, p.f_Who, p.f_Up, p.f_Rules, (p.f_Groups.length : Int), (i : Int))) p.f_Groups.length (by
    intro i hi
    have hx := h.groupsOk _ (memD 0 hi)
    unfold slices_IndexFunc__uint64_uint64_c87.l2.once
    dsimp only
    rw [ct (by omega), inb_t (by omega) (by omega), cond_true, Int.toNat_natCast]
    generalize p.f_Groups.getD i 0 = x at *
    have hb : IntKind.wrap .u64 (1 * 2 ^ (min (Int.toNat (IntKind.wrap .u64 ((p.f_Ents.length : Int)))) 64)) = 2 ^ p.f_Ents.length := by
      generalize p.f_Ents.length = n at *
      have : n = 2 ∨ n = 3 ∨ n = 4 := by omega
      rcases this with rfl | rfl | rfl <;> decide
    have hr : rule_Right_1.f k x ⟨p.f_Ents, p.f_Groups, p.f_Who, p.f_Up, p.f_Rules⟩ = some false := by
      unfold rule_Right_1.f
      rw [show (x == 0) = false from beq_eq_false_iff_ne.2 (by omega), cond_false]
      dsimp only
      rw [cf (by rw [wrapu (by omega)]; omega), hb, decide_eq_false (by omega)]
    rw [hr, Option.bind_some, cond_false, wrapi (by omega)]
    rfl) (.inl ()) (by
    unfold slices_IndexFunc__uint64_uint64_c87.l2.once
    dsimp only
    rw [cf (by omega)]) k 0 (by omega) (by omega)
  refine bof (v := -1) (bof hs rfl) rfl
theorem Cont_who {k : Nat} (hk : 1000 < k) {p : Sapi_Policy} (h : PolOk p) : slices_ContainsFunc_api_Who_c89.f k p.f_Who () = some false := by
  unfold slices_ContainsFunc_api_Who_c89.f slices_IndexFunc_api_Who_c89.f
  have hw := h.who
  have hs := iter_seq (once := slices_IndexFunc_api_Who_c89.l2.once k) (fun i => (p.f_Who, (p.f_Who.length : Int), (i : Int))) p.f_Who.length (by
    intro i hi
    obtain ⟨h1, h2, h3⟩ := h.whoOk _ (memD Sapi_Who.zero hi)
    unfold slices_IndexFunc_api_Who_c89.l2.once
    dsimp only
    rw [ct (by omega), inb_t (by omega) (by omega), cond_true, Int.toNat_natCast]
    generalize p.f_Who.getD i Sapi_Who.zero = x at *
    have hr : rule_Right_2.f k ⟨⟨x.f_Clear.f_Set, x.f_Clear.f_Level⟩, x.f_Roles⟩ = some false := by
      unfold rule_Right_2.f
      refine bof (LRight_ok k h1 h2) ?_
      rw [Bool.not_true, cond_false]
      dsimp only
      rw [decide_eq_false (by omega)]
    rw [hr, Option.bind_some, cond_false, wrapi (by omega)]
    rfl) (.inl ()) (by
    unfold slices_IndexFunc_api_Who_c89.l2.once
    dsimp only
    rw [cf (by omega)]) k 0 (by omega) (by omega)
  refine bof (v := -1) (bof hs rfl) rfl
theorem Cont_rules {k : Nat} (hk : 1000 < k) {p : Sapi_Policy} (h : PolOk p) : slices_ContainsFunc_api_Rule_c91.f k p.f_Rules p = some false := by
  unfold slices_ContainsFunc_api_Rule_c91.f slices_IndexFunc_api_Rule_c91.f
  have hw := h.rules
  have hn := h.ents
  have hg := h.groups
  have hu := (up_ok h).1
  have hs := iter_seq (once := slices_IndexFunc_api_Rule_c91.l2.once k) (fun i => (p.f_Rules, p.f_Ents, p.f_Groups, p.f_Who, p.f_Up, p.f_Rules, (p.f_Rules.length : Int), (i : Int))) p.f_Rules.length (by
    intro i hi
    have hx := h.rulesOk _ (memD Sapi_Rule.zero hi)
    unfold slices_IndexFunc_api_Rule_c91.l2.once
    dsimp only
    rw [ct (by omega), inb_t (by omega) (by omega), cond_true, Int.toNat_natCast]
    generalize p.f_Rules.getD i Sapi_Rule.zero = x at *
    refine bof (v := false) (by
      have hr : rule_Right_3.f k x p = some false := by
        unfold rule_Right_3.f
        refine bof (rightRule_ok (p := p) hk hu (by omega) (by omega) hx) ?_
        rfl
      exact hr) ?_
    rw [cond_false, wrapi (by omega)]
    rfl) (.inl ()) (by
    unfold slices_IndexFunc_api_Rule_c91.l2.once
    dsimp only
    rw [cf (by omega)]) k 0 (by omega) (by omega)
  refine bof (v := -1) (bof hs rfl) rfl
theorem Right_ok {k : Nat} (hk : 1000 < k) {p : Sapi_Policy} (h : PolOk p) : rule_Right.f k p = some true := by
  have hn := h.ents
  have hg := h.groups
  have hw := h.who
  have hr := h.rules
  obtain ⟨hu, hu2⟩ := up_ok h
  unfold rule_Right.f
  refine bof (v := (false, p.f_Ents, p.f_Groups, p.f_Who, p.f_Up, p.f_Rules)) (by
    rw [within_t k (by omega), Option.bind_some, Bool.not_true, cond_false, cf (by omega), within_t k (by omega), Option.bind_some, Bool.not_true, cond_false, roleRight_ok hk (by omega) hu2, Option.bind_some, Bool.not_true, cond_false, decide_eq_false (by omega)]) ?_
  dsimp only
  rw [cond_false]
  have hs := iter_seq (once := rule_Right.l4.once k) (fun i => (p.f_Ents, (p.f_Ents.length : Int), (i : Int), p.f_Ents, p.f_Groups, p.f_Who, p.f_Up, p.f_Rules)) p.f_Ents.length (by
    intro i hi
    have hx := h.entsOk i hi
    unfold rule_Right.l4.once
    dsimp only
    rw [ct (by omega), inb_t (by omega) (by omega), cond_true, Int.toNat_natCast]
    refine bof (rightEnt_ok k (by omega) hx) ?_
    rw [Bool.not_true, cond_false, wrapi (by omega)]
    rfl) (.inl (p.f_Ents, p.f_Groups, p.f_Who, p.f_Up, p.f_Rules)) (by
    unfold rule_Right.l4.once
    dsimp only
    rw [cf (by omega)]) k 0 (by omega) (by omega)
  refine bof hs ?_
  dsimp only
  refine bof (Cont_groups hk h) ?_
  refine bof (Cont_who hk h) ?_
  refine bof (Cont_rules hk h) ?_
  rfl
end Go.Proofs.Ythknecaigoilmaa.Pure
