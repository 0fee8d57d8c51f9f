/- RuleSees: who sees a group sees each of its entities, and what lies below; who sees more sees what it saw; a group's label is the least above its entities'. No conditions but size. -/
import Derived.Test.YthknecaigoilmaaSe
namespace Go.Proofs.Ythknecaigoilmaa.Pure
set_option linter.unusedVariables false
set_option linter.unusedSimpArgs false
open Go Go.Ev Go.Pu Go.Lm
theorem known10 {k : Nat} (hk : 1000 < k) : pyxlaw10_known.f k = some true := by
  obtain ⟨j, rfl⟩ : ∃ j, k = j + 1000 := ⟨k - 1000, by omega⟩
  kernel_rfl
theorem and_high {g n i : Nat} (hg : g < 2 ^ n) (hi : n ≤ i) : g &&& 2 ^ i = 0 := by
  apply Nat.eq_of_testBit_eq
  intro j
  rw [Nat.testBit_and, Nat.zero_testBit, Nat.testBit_two_pow]
  by_cases h : i = j
  · subst h
    rw [Nat.testBit_lt_two_pow (Nat.lt_of_lt_of_le hg (Nat.pow_le_pow_right (by decide) hi)), Bool.false_and]
  · rw [decide_eq_false h, Bool.and_false]
theorem Members_ok {k : Nat} (hk : 1000 < k) {g : Int} {n : Nat} (hg : 0 ≤ g ∧ g < 2 ^ n) (hn : n ≤ 4) : ∃ ms, label_Members.f k ⟨g, 0⟩ = some ms ∧ ms.length ≤ 8 ∧ ∀ m ∈ ms, 0 ≤ m ∧ m < (n : Int) := by
  obtain ⟨gn, rfl⟩ : ∃ gn : Nat, g = (gn : Int) := ⟨g.toNat, by omega⟩
  have hgn : gn < 2 ^ n := by
    have := hg.2
    rw [show (2 : Int) ^ n = ((2 ^ n : Nat) : Int) by rw [Int.natCast_pow]; rfl] at this
    omega
  have h16 : gn < 16 := Nat.lt_of_lt_of_le hgn (Nat.pow_le_pow_right (by decide) hn)
  unfold label_Members.f
  have st := iter_rule (once := label_Members.l3.once k)
    (fun x => ∃ (acc : List Int) (i : Nat), x = (acc, (i : Int), (gn : Int), 0) ∧ i ≤ 8 ∧ acc.length ≤ i ∧ ∀ m ∈ acc, 0 ≤ m ∧ m < (n : Int))
    (fun x => 8 - x.2.1.toNat)
    (fun y => y.length ≤ 8 ∧ ∀ m ∈ y, 0 ≤ m ∧ m < (n : Int))
    (by
      rintro _ ⟨acc, i, rfl, hi, hl, ha⟩
      have hwr := wrapi (show -9223372036854775808 ≤ (i : Int) + 1 ∧ (i : Int) + 1 < 9223372036854775808 by omega)
      unfold label_Members.l3.once
      dsimp only
      by_cases h : i < 8
      · rw [ct (show (i : Int) < 8 by omega)]
        have hb := (bit_eq k (i := (i : Int)) (by omega)).1
        rw [Int.toNat_natCast, show (2 : Int) ^ i = ((2 ^ i : Nat) : Int) by rw [Int.natCast_pow]; rfl] at hb
        have h2 : 2 ^ i < 18446744073709551616 := Nat.lt_of_le_of_lt (Nat.pow_le_pow_right (by decide) (show i ≤ 8 by omega)) (by decide)
        by_cases hc : bits .and .u64 (gn : Int) ((2 ^ i : Nat) : Int) > 0
        · have hin : i < n := by
            refine Classical.byContradiction fun hno => ?_
            rw [and64 (by omega) h2, and_high hgn (by omega)] at hc
            exact absurd hc (by decide)
          refine .inl ⟨_, bof hb ((ct hc).trans ?_), ⟨acc ++ [(i : Int)], i + 1, rfl, by omega, by simp; omega, fun m hm => ?_⟩, by dsimp only; omega⟩
          · rw [okLen_t' (by simp; omega), cond_true, hwr]
            rfl
          · rcases List.mem_append.1 hm with hm | hm
            · exact ha m hm
            · have : m = (i : Int) := by simpa using hm
              omega
        · refine .inl ⟨_, bof hb ((cf hc).trans ?_), ⟨acc, i + 1, rfl, by omega, by omega, ha⟩, by dsimp only; omega⟩
          rw [hwr]
          rfl
      · exact .inr ⟨_, cf (by omega), by omega, ha⟩)
  obtain ⟨y, hy, q1, q2⟩ := st k ([], 0, (gn : Int), 0) ⟨[], 0, rfl, by omega, Nat.le_refl _, fun m hm => (List.not_mem_nil hm).elim⟩ (by dsimp only; omega)
  exact ⟨y, bof hy rfl, q1, q2⟩
/-- The least label above all. -/
noncomputable def foldJ (p : Sapi_Policy) (ms : List Int) : Sapi_Label := ms.foldl (fun a m => join a (labE p m)) ⟨0, 0⟩
theorem fold_ok {p : Sapi_Policy} (h : PolOk p) : ∀ (ms : List Int) (a : Sapi_Label), LabOk a → (∀ m ∈ ms, 0 ≤ m ∧ m < (p.f_Ents.length : Int)) → LabOk (ms.foldl (fun a m => join a (labE p m)) a)
  | [], a, ha, _ => ha
  | m :: r, a, ha, hm => fold_ok h r _ (ha.join (labE_ok h (hm m List.mem_cons_self))) (fun x hx => hm x (List.mem_cons_of_mem _ hx))
theorem fold_below (p : Sapi_Policy) : ∀ (ms : List Int) (a : Sapi_Label), below a (ms.foldl (fun a m => join a (labE p m)) a) ∧ ∀ m ∈ ms, below (labE p m) (ms.foldl (fun a m => join a (labE p m)) a)
  | [], a => ⟨below.refl a, fun m hm => (List.not_mem_nil hm).elim⟩
  | m :: r, a => by
    obtain ⟨h1, h2⟩ := fold_below p r (join a (labE p m))
    refine ⟨(below_left a _).trans h1, fun x hx => ?_⟩
    rcases List.mem_cons.1 hx with rfl | hx
    · exact (below_right a _).trans h1
    · exact h2 x hx
theorem take_fold (p : Sapi_Policy) {ms : List Int} {i : Nat} (hi : i < ms.length) : foldJ p (ms.take (i + 1)) = join (foldJ p (ms.take i)) (labE p (ms.getD i 0)) := by
  unfold foldJ
  rw [List.take_add_one, List.getElem?_eq_getElem hi, List.foldl_append, List.getD_eq_getElem?_getD, List.getElem?_eq_getElem hi]
  rfl
theorem foldJ_ok {p : Sapi_Policy} (h : PolOk p) {ms : List Int} (hm : ∀ m ∈ ms, 0 ≤ m ∧ m < (p.f_Ents.length : Int)) (i : Nat) : LabOk (foldJ p (ms.take i)) :=
  fold_ok h _ _ (by unfold LabOk; dsimp only; omega) (fun m hx => hm m (List.mem_of_mem_take hx))
theorem Group_eq {k : Nat} (hk : 1000 < k) {p : Sapi_Policy} (h : PolOk p) {group : Int} (hgr : 0 ≤ group ∧ group < p.f_Groups.length) {ms : List Int} (hms : label_Members.f k ⟨p.f_Groups.getD group.toNat 0, 0⟩ = some ms) (hl : ms.length ≤ 8)
    (hm : ∀ m ∈ ms, 0 ≤ m ∧ m < (p.f_Ents.length : Int)) : rule_Group.f k p group = some (foldJ p ms) := by
  have hg := h.groups
  unfold rule_Group.f
  refine bof (v := (group, false, p.f_Ents, p.f_Groups, p.f_Who, p.f_Up, p.f_Rules, 0, 0, 0, 0)) ?_ ?_
  · refine bof (Right_ok hk h) ?_
    rw [Bool.not_true, cond_false, wrapi (by omega)]
    exact bof (within_t k (by omega)) rfl
  dsimp only
  rw [cond_false, inb_t (by omega) (by omega), cond_true]
  refine bof hms ?_
  have it := iter_seq (once := rule_Group.l5.once k) (fun i => (ms, (ms.length : Int), (i : Int), p.f_Ents, p.f_Groups, p.f_Who, p.f_Up, p.f_Rules, 0, 0, (foldJ p (ms.take i)).f_Set, (foldJ p (ms.take i)).f_Level)) ms.length (by
    intro i hi
    have hwr := wrapi (show -9223372036854775808 ≤ (i : Int) + 1 ∧ (i : Int) + 1 < 9223372036854775808 by omega)
    have hmi := hm _ (memD 0 hi)
    unfold rule_Group.l5.once
    dsimp only
    rw [ct (by omega), inb_t (by omega) (by omega), cond_true, Int.toNat_natCast, take_fold p hi]
    refine bof (Label_eq hk h hmi) ?_
    refine bof (Join_eq k (foldJ_ok h hm i) (labE_ok h hmi)) ?_
    rw [hwr]
    rfl) (0, 0, (foldJ p ms).f_Set, (foldJ p ms).f_Level) (by
    unfold rule_Group.l5.once
    dsimp only
    rw [cf (by omega), List.take_length]) k 0 (Nat.zero_le _) (by omega)
  exact bof it rfl
theorem RuleSees (l0 : List Int) (w0 : (l0.length ≤ 9223372036854775807 ∧ l0.length * 8 ≤ 140737488351232 ∧ ∀ z ∈ l0, (Lit.int .i64 z).wf = true)) (a1 : Int) (w1 : (Lit.int .i64 a1).wf = true) (a2 : Int) (w2 : (Lit.int .i64 a2).wf = true) (a3 : Int) (w3 : (Lit.int .i64 a3).wf = true) (a4 : Int) (w4 : (Lit.int .i64 a4).wf = true) :
    ∃ k, pyxlaw10_RuleSees.f k l0 a1 a2 a3 a4 = some true := by
  refine ⟨2000, ?_⟩
  generalize hk : (2000 : Nat) = k
  have hk1 : 1000 < k := by omega
  obtain ⟨p, p1, hp, p2⟩ := Policy_ok hk1 w0.1
  have hn := hp.ents
  have hw := hp.who
  have hgl := hp.groups
  unfold pyxlaw10_RuleSees.f
  refine bof p1 ?_
  refine bof (pickP k a1 (m := (p.f_Who.length : Int)) (by omega) (by omega)) ?_
  have b1 := pick_bd a1 (m := (p.f_Who.length : Int)) (by omega)
  generalize pick a1 (p.f_Who.length : Int) = who at *
  refine bof (pickP k a2 (m := (p.f_Groups.length : Int)) (by omega) (by omega)) ?_
  have b2 := pick_bd a2 (m := (p.f_Groups.length : Int)) (by omega)
  generalize pick a2 (p.f_Groups.length : Int) = group at *
  have hgm := hp.groupsOk _ (memD 0 (show group.toNat < p.f_Groups.length by omega))
  obtain ⟨ms, m1, m2, m3⟩ := Members_ok hk1 (g := p.f_Groups.getD group.toNat 0) (n := p.f_Ents.length) ⟨by omega, hgm.2⟩ (by omega)
  refine bof (Group_eq hk1 hp b2 m1 m2 m3) ?_
  rw [inb_t (by omega) (by omega), cond_true]
  refine bof m1 ?_
  have hcl := hp.whoOk _ (memD Sapi_Who.zero (show who.toNat < p.f_Who.length by omega))
  have hcO : LabOk (p.f_Who.getD who.toNat Sapi_Who.zero).f_Clear := ⟨hcl.1, hcl.2.1⟩
  have hgO : LabOk (foldJ p ms) := by have := foldJ_ok hp m3 ms.length; rwa [List.take_length] at this
  obtain ⟨v, v1, v2⟩ := Sees_eq hk1 hp b1 hgO
  have it := iter_seq (once := pyxlaw10_RuleSees.l7.once k) (fun i => (who, a3, a4, ms, (ms.length : Int), (i : Int), p.f_Ents, p.f_Groups, p.f_Who, p.f_Up, p.f_Rules, (foldJ p ms).f_Set, (foldJ p ms).f_Level, (foldJ p (ms.take i)).f_Set, (foldJ p (ms.take i)).f_Level)) ms.length (by
    intro i hi
    have hwr := wrapi (show -9223372036854775808 ≤ (i : Int) + 1 ∧ (i : Int) + 1 < 9223372036854775808 by omega)
    have hmm := memD 0 hi
    have hmi := m3 _ hmm
    unfold pyxlaw10_RuleSees.l7.once
    dsimp only
    rw [ct (by omega), inb_t (by omega) (by omega), cond_true, Int.toNat_natCast, take_fold p hi]
    generalize ms.getD i 0 = m at hmi hmm
    have hL := Label_eq hk1 hp hmi
    have hlv : (labE p m).f_Level = (p.f_Ents.getD m.toNat Sapi_Ent.zero).f_Level := rfl
    refine bof (v := (who, a3, a4, m, ms, (ms.length : Int), (i : Int), false, p.f_Ents, p.f_Groups, p.f_Who, p.f_Up, p.f_Rules, (foldJ p ms).f_Set, (foldJ p ms).f_Level, (foldJ p (ms.take i)).f_Set, (foldJ p (ms.take i)).f_Level)) ?_ ?_
    · refine bof v1 ?_
      have hin : inb m (List.length p.f_Ents) = true := inb_t (by omega) (by omega)
      cases hv : v with
      | true =>
        obtain ⟨u, u1, u2⟩ := Sees_eq hk1 hp b1 (labE_ok hp hmi)
        have hu : u = true := u2.2 (((fold_below p ms ⟨0, 0⟩).2 m hmm).trans (v2.1 hv))
        subst hu
        rw [cond_true]
        refine bof hL (bof u1 ?_)
        rw [Bool.not_true, cond_false]
        refine bof hL ?_
        rw [hin, cond_true, hlv]
        simp
      | false =>
        rw [cond_false]
        refine bof hL ?_
        rw [hin, cond_true, hlv]
        simp
    dsimp only
    rw [cond_false]
    refine bof hL ?_
    refine bof (Join_eq k (foldJ_ok hp m3 i) (labE_ok hp hmi)) ?_
    rw [hwr]
    rfl) (.inl (who, a3, a4, p.f_Ents, p.f_Groups, p.f_Who, p.f_Up, p.f_Rules, (foldJ p ms).f_Set, (foldJ p ms).f_Level, (foldJ p ms).f_Set, (foldJ p ms).f_Level)) (by
    unfold pyxlaw10_RuleSees.l7.once
    dsimp only
    rw [cf (by omega), List.take_length]) k 0 (Nat.zero_le _) (by omega)
  refine bof it ?_
  dsimp only
  refine bof (pickP k a3 (m := 256) (by decide) (by decide)) ?_
  have b3 := pick_bd a3 (m := 256) (by decide)
  generalize pick a3 256 = xs at *
  refine bof (pickP k a4 (m := 4) (by decide) (by decide)) ?_
  have b4 := pick_bd a4 (m := 4) (by decide)
  generalize pick a4 4 = xl at *
  rw [wrapu (n := xs) (by omega)]
  have hxO : LabOk ⟨xs, xl⟩ := ⟨b3, by dsimp only; omega⟩
  simp only [List.nil_append]
  have hinb : inb who (List.length p.f_Who) = true := inb_t (by omega) (by omega)
  have hblt : Nat.blt who.toNat (List.length p.f_Who) = true := blt_t (by omega)
  rw [okLen_t' (by simp; omega), cond_true, hinb, cond_true, hblt, cond_true]
  generalize hc : (p.f_Who.getD who.toNat Sapi_Who.zero).f_Clear = c at *
  refine bof (Join_eq k hcO hxO) ?_
  simp only [cond_true]
  refine bof (known10 hk1) ?_
  rw [cond_true, show (((foldJ p ms).f_Set == (foldJ p ms).f_Set) && ((foldJ p ms).f_Level == (foldJ p ms).f_Level)) = true by simp, cond_true]
  have hjO := hcO.join hxO
  have hq : PolOk ⟨p.f_Ents, p.f_Groups, p.f_Who.set who.toNat ⟨join c ⟨xs, xl⟩, (p.f_Who.getD who.toNat Sapi_Who.zero).f_Roles⟩, p.f_Up, p.f_Rules⟩ := by
    refine ⟨hp.ents, hp.entsOk, hp.groups, hp.groupsOk, by dsimp only; rw [List.length_set]; exact hp.who, fun z hz => ?_, hp.up, hp.rules, hp.rulesOk⟩
    rcases List.mem_or_eq_of_mem_set hz with hz | hz
    · exact hp.whoOk z hz
    · rw [hz]; exact ⟨hjO.1, hjO.2, hcl.2.2⟩
  have hqw : ((p.f_Who.set who.toNat ⟨join c ⟨xs, xl⟩, (p.f_Who.getD who.toNat Sapi_Who.zero).f_Roles⟩).getD who.toNat Sapi_Who.zero).f_Clear = join c ⟨xs, xl⟩ := by
    rw [List.getD_eq_getElem?_getD, List.getElem?_set, if_pos rfl, if_pos (by omega)]
    rfl
  have bq : 0 ≤ who ∧ who < ((⟨p.f_Ents, p.f_Groups, p.f_Who.set who.toNat ⟨join c ⟨xs, xl⟩, (p.f_Who.getD who.toNat Sapi_Who.zero).f_Roles⟩, p.f_Up, p.f_Rules⟩ : Sapi_Policy).f_Who.length : Int) := by
    dsimp only; rw [List.length_set]; exact b1
  obtain ⟨s1, s1a, s1b⟩ := Sees_eq hk1 hq bq hxO
  have hs1 : s1 = true := s1b.2 (by dsimp only; rw [hqw]; exact below_right _ _)
  subst hs1
  obtain ⟨s2, s2a, s2b⟩ := Sees_eq hk1 hq bq hgO
  obtain ⟨s3, s3a, s3b⟩ := Sees_eq hk1 hp b1 (hxO.meet hcO)
  rw [hc] at s3b
  have hs3 : s3 = true := s3b.2 (meet_right _ _)
  subst hs3
  refine bof v1 ?_
  cases hv : v with
  | false =>
    rw [Bool.not_false, cond_true]
    refine bof s1a ?_
    rw [cond_true]
    exact bof (Meet_eq k hxO hcO) (bof s3a rfl)
  | true =>
    rw [Bool.not_true, cond_false]
    have hs2 : s2 = true := s2b.2 (by dsimp only; rw [hqw]; exact (v2.1 hv).trans (below_left _ _))
    subst hs2
    refine bof s2a ?_
    rw [cond_true]
    refine bof s1a ?_
    rw [cond_true]
    exact bof (Meet_eq k hxO hcO) (bof s3a rfl)
end Go.Proofs.Ythknecaigoilmaa.Pure
