/- RuleDenies: a rule of Deny never lets one do more, one of Allow never less. No conditions but size. -/
import Derived.Test.YthknecaigoilmaaPm
namespace Go.Proofs.Ythknecaigoilmaa.Pure
set_option linter.unusedVariables false
set_option linter.unusedSimpArgs false
open Go Go.Ev Go.Pu
/-- Of one more rule at the end: what is said. -/
theorem says_more (own wide : List Sapi_Rule) (r : Sapi_Rule) (o w : Bool) (how : o = true → w = false) :
    (isDeny r = true → says own wide = true ∨ says (own ++ if o = true then [r] else []) (wide ++ if w = true then [r] else []) = false) ∧
    (isDeny r = false → says own wide = false ∨ says (own ++ if o = true then [r] else []) (wide ++ if w = true then [r] else []) = true) ∧
    (o = false → w = false → says (own ++ if o = true then [r] else []) (wide ++ if w = true then [r] else []) = says own wide) := by
  refine ⟨fun hd => ?_, fun hd => ?_, fun ho hw => by rw [ho, hw, if_neg (by decide), List.append_nil, List.append_nil]⟩
  · cases o with
    | true =>
      right
      unfold says
      rw [if_pos rfl, if_pos (by simp)]
      simp [hd]
    | false =>
      rw [if_neg (by decide), List.append_nil]
      cases w with
      | false => rw [if_neg (by decide), List.append_nil]; cases says own wide <;> simp
      | true =>
        rw [if_pos rfl]
        unfold says
        by_cases hc : 0 < own.length
        · rw [if_pos hc, if_pos hc]
          cases (decide (0 < own.length) && !(own.any isDeny)) <;> simp
        · right
          rw [if_neg hc]
          simp [hd]
  · cases o with
    | true =>
      rw [how rfl, if_pos rfl, if_neg (by decide), List.append_nil]
      unfold says
      rw [if_pos (show 0 < (own ++ [r]).length by simp)]
      by_cases hc : 0 < own.length
      · rw [if_pos hc, decide_eq_true hc, Bool.true_and, List.any_append]
        cases own.any isDeny <;> simp [hd]
      · have : own = [] := List.eq_nil_of_length_eq_zero (by omega)
        subst this
        simp [hd]
    | false =>
      rw [if_neg (by decide), List.append_nil]
      cases w with
      | false => rw [if_neg (by decide), List.append_nil]; cases says own wide <;> simp
      | true =>
        rw [if_pos rfl]
        unfold says
        by_cases hc : 0 < own.length
        · rw [if_pos hc, if_pos hc]
          cases (decide (0 < own.length) && !(own.any isDeny)) <;> simp
        · rw [if_neg hc, if_neg hc, List.any_append]
          cases hw : wide.any isDeny <;> simp [hd]
theorem says_perm {o o' w w' : List Sapi_Rule} (h1 : o.Perm o') (h2 : w.Perm w') : says o w = says o' w' := by
  have a1 : o.any isDeny = o'.any isDeny := by
    rw [Bool.eq_iff_iff, List.any_eq_true, List.any_eq_true]
    exact ⟨fun ⟨x, hx, h⟩ => ⟨x, h1.mem_iff.1 hx, h⟩, fun ⟨x, hx, h⟩ => ⟨x, h1.mem_iff.2 hx, h⟩⟩
  have a2 : w.any isDeny = w'.any isDeny := by
    rw [Bool.eq_iff_iff, List.any_eq_true, List.any_eq_true]
    exact ⟨fun ⟨x, hx, h⟩ => ⟨x, h2.mem_iff.1 hx, h⟩, fun ⟨x, hx, h⟩ => ⟨x, h2.mem_iff.2 hx, h⟩⟩
  unfold says
  rw [h1.length_eq]
  by_cases hc : 0 < o'.length
  · rw [if_pos hc, if_pos hc, h1.length_eq, a1]
  · rw [if_neg hc, if_neg hc, h2.length_eq, a2]
theorem filter_one {p : Sapi_Rule → Bool} (r : Sapi_Rule) : [r].filter p = if p r = true then [r] else [] := by
  rw [List.filter_cons, List.filter_nil]
theorem PolOk_rules {p : Sapi_Policy} (h : PolOk p) {rs : List Sapi_Rule} (h1 : rs.length ≤ 32) (h2 : ∀ x ∈ rs, RuleOk p.f_Ents.length p.f_Groups.length x) : PolOk ⟨p.f_Ents, p.f_Groups, p.f_Who, p.f_Up, rs⟩ :=
  ⟨h.ents, h.entsOk, h.groups, h.groupsOk, h.who, h.whoOk, h.up, h1, h2⟩
theorem known10 {k : Nat} (hk : 1000 < k) : pyxlaw10_known.f k = some true := by
  obtain ⟨j, rfl⟩ : ∃ j, k = j + 1000 := ⟨k - 1000, by omega⟩
  kernel_rfl
theorem RuleDenies (l0 : List Int) (w0 : (l0.length ≤ 9223372036854775807 ∧ l0.length * 8 ≤ 140737488351232 ∧ ∀ z ∈ l0, (Lit.int .i64 z).wf = true)) (a1 : Int) (w1 : (Lit.int .i64 a1).wf = true) (a2 : Int) (w2 : (Lit.int .i64 a2).wf = true) (a3 : Int) (w3 : (Lit.int .i64 a3).wf = true) (a4 : Int) (w4 : (Lit.int .i64 a4).wf = true) (a5 : Int) (w5 : (Lit.int .i64 a5).wf = true) (a6 : Int) (w6 : (Lit.int .i64 a6).wf = true) : ∃ k, pyxlaw10_RuleDenies.f k l0 a1 a2 a3 a4 a5 a6 = some true := by
  refine ⟨2000, ?_⟩
  generalize hk : (2000 : Nat) = k
  have hk1 : 1000 < k := by omega
  obtain ⟨p, p1, hp, p2⟩ := Policy_ok hk1 w0.1
  have hn := hp.ents
  have hw := hp.who
  have hu := (up_ok hp).1
  unfold pyxlaw10_RuleDenies.f
  refine bof p1 ?_
  refine bof (pickP k a4 (m := (p.f_Who.length : Int)) (by omega) (by omega)) ?_
  have b4 := pick_bd a4 (m := (p.f_Who.length : Int)) (by omega)
  generalize pick a4 (p.f_Who.length : Int) = who at *
  refine bof (pickP k a5 (m := (p.f_Ents.length : Int)) (by omega) (by omega)) ?_
  have b5 := pick_bd a5 (m := (p.f_Ents.length : Int)) (by omega)
  generalize pick a5 (p.f_Ents.length : Int) = ent at *
  refine bof (pickP k a2 (m := 3) (by decide) (by decide)) ?_
  have b2 := pick_bd a2 (m := 3) (by decide)
  generalize pick a2 3 = v0 at *
  refine bof (pickP k a1 (m := (p.f_Up.length : Int)) (by omega) (by omega)) ?_
  have b1 := pick_bd a1 (m := (p.f_Up.length : Int)) (by omega)
  generalize pick a1 (p.f_Up.length : Int) = role at *
  rw [wrapi (n := (p.f_Ents.length : Int) + 1) (by omega), wrapi (n := 1 + v0) (by omega)]
  refine bof (pickP k a3 (m := (p.f_Ents.length : Int) + 1) (by omega) (by omega)) ?_
  have b3 := pick_bd a3 (m := (p.f_Ents.length : Int) + 1) (by omega)
  generalize pick a3 ((p.f_Ents.length : Int) + 1) = e0 at *
  rw [wrapi (n := e0 - 1) (by omega)]
  obtain ⟨v, hv⟩ : ∃ v, 1 + v0 = v := ⟨_, rfl⟩
  obtain ⟨e, he⟩ : ∃ e, e0 - 1 = e := ⟨_, rfl⟩
  rw [hv, he]
  have hE := May_eq hk1 hp (who := who) (verb := v) (ent := ent) b4 (by omega) b5
  have hD : PolOk ⟨p.f_Ents, p.f_Groups, p.f_Who, p.f_Up, p.f_Rules ++ [⟨2, role, v, e, 0, 0, ⟨false, (0, 0), 0⟩, ⟨0, 0⟩⟩]⟩ := PolOk_rules hp (by rw [List.length_append, List.length_singleton]; omega) (fun x hx => by
    rcases List.mem_append.1 hx with hx | hx
    · exact hp.rulesOk x hx
    · simp only [List.mem_cons, List.not_mem_nil, or_false] at hx
      subst hx
      exact ⟨by dsimp only; omega, .inl ⟨.inr rfl, rfl, rfl, rfl, rfl, by dsimp only; omega, by dsimp only; omega⟩⟩)
  have hA : PolOk ⟨p.f_Ents, p.f_Groups, p.f_Who, p.f_Up, p.f_Rules ++ [⟨1, role, v, e, 0, 0, ⟨false, (0, 0), 0⟩, ⟨0, 0⟩⟩]⟩ := PolOk_rules hp (by rw [List.length_append, List.length_singleton]; omega) (fun x hx => by
    rcases List.mem_append.1 hx with hx | hx
    · exact hp.rulesOk x hx
    · simp only [List.mem_cons, List.not_mem_nil, or_false] at hx
      subst hx
      exact ⟨by dsimp only; omega, .inl ⟨.inl rfl, rfl, rfl, rfl, rfl, by dsimp only; omega, by dsimp only; omega⟩⟩)
  have hDm := May_eq hk1 hD (who := who) (verb := v) (ent := ent) b4 (by omega) b5
  have hAm := May_eq hk1 hA (who := who) (verb := v) (ent := ent) b4 (by omega) b5
  -- the same test of rules, whatever the rules
  have eo : ∀ rs, ownB k ⟨p.f_Ents, p.f_Groups, p.f_Who, p.f_Up, rs⟩ who v ent = ownB k p who v ent := fun _ => rfl
  have ew : ∀ rs, wideB k ⟨p.f_Ents, p.f_Groups, p.f_Who, p.f_Up, rs⟩ who v ent = wideB k p who v ent := fun _ => rfl
  rw [eo, ew, List.filter_append, List.filter_append, filter_one, filter_one] at hDm hAm
  have excl : ∀ r, ownB k p who v ent r = true → wideB k p who v ent r = false := by
    intro r h
    unfold ownB at h
    unfold wideB
    rw [Bool.and_eq_true] at h
    rw [h.2]
    simp
  obtain ⟨d1, _, d3⟩ := says_more (p.f_Rules.filter (ownB k p who v ent)) (p.f_Rules.filter (wideB k p who v ent)) ⟨2, role, v, e, 0, 0, ⟨false, (0, 0), 0⟩, ⟨0, 0⟩⟩ _ _ (excl ⟨2, role, v, e, 0, 0, ⟨false, (0, 0), 0⟩, ⟨0, 0⟩⟩)
  obtain ⟨_, a2', a3'⟩ := says_more (p.f_Rules.filter (ownB k p who v ent)) (p.f_Rules.filter (wideB k p who v ent)) ⟨1, role, v, e, 0, 0, ⟨false, (0, 0), 0⟩, ⟨0, 0⟩⟩ _ _ (excl ⟨1, role, v, e, 0, 0, ⟨false, (0, 0), 0⟩, ⟨0, 0⟩⟩)
  have d1 := d1 rfl
  have a2' := a2' rfl
  have other : ¬ e < 0 → ¬ e = ent → ∀ tag : Int, ownB k p who v ent ⟨tag, role, v, e, 0, 0, ⟨false, (0, 0), 0⟩, ⟨0, 0⟩⟩ = false ∧ wideB k p who v ent ⟨tag, role, v, e, 0, 0, ⟨false, (0, 0), 0⟩, ⟨0, 0⟩⟩ = false := by
    intro h1 h2 tag
    unfold ownB wideB
    dsimp only
    rw [show (e == ent) = false from beq_eq_false_iff_ne.2 h2, show (e == -1) = false from beq_eq_false_iff_ne.2 (by omega)]
    simp
  have hD3 := fun h1 h2 => d3 (other h1 h2 2).1 (other h1 h2 2).2
  have hA3 := fun h1 h2 => a3' (other h1 h2 1).1 (other h1 h2 1).2
  clear d3 a3' other
  generalize hW : says (p.f_Rules.filter (ownB k p who v ent)) (p.f_Rules.filter (wideB k p who v ent)) = was at *
  generalize says (p.f_Rules.filter (ownB k p who v ent) ++ if ownB k p who v ent ⟨2, role, v, e, 0, 0, ⟨false, (0, 0), 0⟩, ⟨0, 0⟩⟩ = true then [⟨2, role, v, e, 0, 0, ⟨false, (0, 0), 0⟩, ⟨0, 0⟩⟩] else []) (p.f_Rules.filter (wideB k p who v ent) ++ if wideB k p who v ent ⟨2, role, v, e, 0, 0, ⟨false, (0, 0), 0⟩, ⟨0, 0⟩⟩ = true then [⟨2, role, v, e, 0, 0, ⟨false, (0, 0), 0⟩, ⟨0, 0⟩⟩] else []) = denied at *
  generalize says (p.f_Rules.filter (ownB k p who v ent) ++ if ownB k p who v ent ⟨1, role, v, e, 0, 0, ⟨false, (0, 0), 0⟩, ⟨0, 0⟩⟩ = true then [⟨1, role, v, e, 0, 0, ⟨false, (0, 0), 0⟩, ⟨0, 0⟩⟩] else []) (p.f_Rules.filter (wideB k p who v ent) ++ if wideB k p who v ent ⟨1, role, v, e, 0, 0, ⟨false, (0, 0), 0⟩, ⟨0, 0⟩⟩ = true then [⟨1, role, v, e, 0, 0, ⟨false, (0, 0), 0⟩, ⟨0, 0⟩⟩] else []) = allowed at *
  refine bof hE ?_
  rw [okLen_t' (by simp only [List.length_nil]; omega), cond_true, List.nil_append, okLen_t' (by simp only [List.length_cons, List.length_nil]; omega), cond_true]
  refine bof hDm ?_
  rw [okLen_t' (by simp only [List.length_cons, List.length_nil]; omega), cond_true, cond_true]
  refine bof hAm ?_
  rw [wrapi (n := (p.f_Rules.length : Int) + 1) (by omega)]
  refine bof (pickP k a6 (m := (p.f_Rules.length : Int) + 1) (by omega) (by omega)) ?_
  have b6 := pick_bd a6 (m := (p.f_Rules.length : Int) + 1) (by omega)
  obtain ⟨t, ht⟩ : ∃ t : Nat, pick a6 ((p.f_Rules.length : Int) + 1) = (t : Int) := ⟨(pick a6 ((p.f_Rules.length : Int) + 1)).toNat, by omega⟩
  rw [ht] at b6 ⊢
  have i1 : inS (t : Int) (p.f_Rules.length : Int) p.f_Rules.length = true := by unfold inS; simp; omega
  have i2 : inS 0 (t : Int) p.f_Rules.length = true := by unfold inS; simp; omega
  rw [i1, cond_true, Int.toNat_natCast, List.nil_append, okLen_t' (by rw [List.length_drop]; simp only [List.length_nil]; omega), cond_true, i2, cond_true, okLen_t' (by rw [List.length_drop, List.length_take]; omega), cond_true]
  have perm : (p.f_Rules.drop t ++ p.f_Rules.take t).Perm p.f_Rules := by
    have := List.perm_append_comm (l₁ := p.f_Rules.drop t) (l₂ := p.f_Rules.take t)
    rwa [List.take_append_drop] at this
  have hT : PolOk ⟨p.f_Ents, p.f_Groups, p.f_Who, p.f_Up, p.f_Rules.drop t ++ p.f_Rules.take t⟩ := PolOk_rules hp (by rw [perm.length_eq]; omega) (fun x hx => hp.rulesOk x (perm.mem_iff.1 hx))
  have hTm := May_eq hk1 hT (who := who) (verb := v) (ent := ent) b4 (by omega) b5
  rw [eo, ew, says_perm (perm.filter _) (perm.filter _), hW] at hTm
  refine bof (known10 hk1) ?_
  rw [cond_true]
  have hTm' : rule_May.f k ⟨p.f_Ents, p.f_Groups, p.f_Who, p.f_Up, p.f_Rules.drop t ++ p.f_Rules.take t⟩ who v ent = some was := hTm
  rw [hTm', Option.bind_some, beq_self_eq_true]
  have last : (cond (decide (e < 0)) (some true) (cond (e == ent) (some true) (cond (denied == was) (some (allowed == was)) (some false))) : Option Bool) = some true := by
    by_cases h1 : e < 0
    · rw [ct h1]
    · rw [cf h1]
      by_cases h2 : e = ent
      · rw [show (e == ent) = true from beq_iff_eq.2 h2, cond_true]
      · rw [show (e == ent) = false from beq_eq_false_iff_ne.2 h2, cond_false, hD3 h1 h2, hA3 h1 h2, beq_self_eq_true]
        rfl
  simp only [cond_true, last]
  clear hE hDm hAm hTm hTm' last hD3 hA3
  revert d1 a2'
  cases was <;> cases denied <;> cases allowed <;> simp
end Go.Proofs.Ythknecaigoilmaa.Pure
