/- What the law RoleGrows computes is true, whatever the numbers. No conditions but that each number is one of its type. -/
import Derived.Test.YtojkgadihooplaaRol
namespace Go.Proofs.Ytojkgadihooplaa.Pure
set_option linter.unusedVariables false
set_option linter.unusedSimpArgs false
open Go Go.Ev Go.Pu

def Sub (a b : Nat) : Prop := ∀ j, a.testBit j = true → b.testBit j = true
theorem Sub.trans {a b c : Nat} (h : Sub a b) (h' : Sub b c) : Sub a c := fun j hj => h' j (h j hj)
theorem Sub.antisymm {a b : Nat} (h : Sub a b) (h' : Sub b a) : a = b := Nat.eq_of_testBit_eq fun j => by rw [Bool.eq_iff_iff]; exact ⟨h j, h' j⟩
def Closed (up : List Int) (n k s : Nat) : Prop := ∀ j, k ≤ j → j < n → s.testBit j = true → up.getD j 0 ≥ 0 → s.testBit (up.getD j 0).toNat = true

theorem pstep_sub (up : List Int) (k o : Nat) : Sub o (pstep up k o) := fun j hj => by
  unfold pstep
  split
  · rw [tb_or_pow, hj]; rfl
  · exact hj
theorem Pall_sub (up : List Int) : ∀ (k o : Nat), Sub o (Pall up k o)
  | 0, _ => fun _ h => h
  | k + 1, o => (pstep_sub up k o).trans (Pall_sub up k _)
theorem Pall_min {up : List Int} {n s : Nat} (hs : Closed up n 0 s) : ∀ (k o : Nat), k ≤ n → Sub o s → Sub (Pall up k o) s
  | 0, _, _, h => h
  | k + 1, o, hk, h => by
    refine Pall_min hs k _ (by omega) fun j hj => ?_
    unfold pstep at hj
    split at hj
    · rename_i hc
      rw [tb_or_pow, Bool.or_eq_true] at hj
      rcases hj with hj | hj
      · exact h j hj
      · simp only [decide_eq_true_eq] at hj
        subst hj
        exact hs k (by omega) (by omega) (h k hc.1) hc.2
    · exact h j hj
theorem Pall_closed {up : List Int} (hr : Rt up) {n : Nat} (hn : n = up.length) : ∀ (k o : Nat), k ≤ n → Closed up n k o → Closed up n 0 (Pall up k o)
  | 0, _, _, h => h
  | k + 1, o, hk, h => by
    refine Pall_closed hr hn k _ (by omega) fun j hj hjn hb hu => ?_
    have hlt := hr j (by omega)
    have hltk := hr k (by omega)
    unfold pstep at hb ⊢
    by_cases hc : o.testBit k = true ∧ up.getD k 0 ≥ 0
    · rw [if_pos hc] at hb ⊢
      rw [tb_or_pow] at hb ⊢
      have hne : ¬ (up.getD k 0).toNat = j := by omega
      simp only [hne, decide_false, Bool.or_false] at hb
      by_cases e : j = k
      · subst e; simp
      · rw [h j (by omega) hjn hb hu]; rfl
    · rw [if_neg hc] at hb ⊢
      by_cases e : j = k
      · subst e; exact (hc ⟨hb, hu⟩).elim
      · exact h j (by omega) hjn hb hu

theorem All_closed {up : List Int} (hr : Rt up) (roles : Nat) : Closed up up.length 0 (All up roles) := Pall_closed hr rfl _ _ (Nat.le_refl _) (fun j h1 h2 => by omega)
theorem All_sub {up : List Int} (roles : Nat) : Sub (roles &&& (2 ^ up.length - 1)) (All up roles) := Pall_sub _ _ _
theorem All_min {up : List Int} {roles s : Nat} (hs : Closed up up.length 0 s) (h : Sub (roles &&& (2 ^ up.length - 1)) s) : Sub (All up roles) s := Pall_min hs _ _ (Nat.le_refl _) h
theorem mask_bit (a n j : Nat) : (a &&& (2 ^ n - 1)).testBit j = (a.testBit j && decide (j < n)) := by rw [Nat.testBit_and, Nat.testBit_two_pow_sub_one]
theorem mask_self {a n : Nat} (h : a < 2 ^ n) : a &&& (2 ^ n - 1) = a := by rw [Nat.and_two_pow_sub_one_eq_mod, Nat.mod_eq_of_lt h]
theorem All_idem {up : List Int} (h : Rt up ∧ up.length ≤ 8) (roles : Nat) : All up (All up roles) = All up roles := by
  refine Sub.antisymm (All_min (All_closed h.1 roles) ?_) ?_
  · rw [mask_self (All_lt h)]; exact fun _ h => h
  · have := All_sub (up := up) (All up roles)
    rwa [mask_self (All_lt h)] at this
theorem All_or {up : List Int} (h : Rt up ∧ up.length ≤ 8) (a b : Nat) : All up (a ||| b) = All up a ||| All up b := by
  refine Sub.antisymm (All_min (fun j h1 h2 h3 h4 => ?_) fun j hj => ?_) fun j hj => ?_
  · rw [Nat.testBit_or, Bool.or_eq_true] at h3 ⊢
    rcases h3 with h3 | h3
    · exact .inl (All_closed h.1 a j h1 h2 h3 h4)
    · exact .inr (All_closed h.1 b j h1 h2 h3 h4)
  · rw [mask_bit, Nat.testBit_or, Bool.and_eq_true, Bool.or_eq_true] at hj
    rw [Nat.testBit_or, Bool.or_eq_true]
    rcases hj.1 with h1 | h1
    · exact .inl (All_sub a j (by rw [mask_bit, h1, hj.2]; rfl))
    · exact .inr (All_sub b j (by rw [mask_bit, h1, hj.2]; rfl))
  · rw [Nat.testBit_or, Bool.or_eq_true] at hj
    rcases hj with hj | hj
    · exact All_min (All_closed h.1 (a ||| b)) (fun i hi => All_sub (a ||| b) i (by rw [mask_bit, Bool.and_eq_true] at hi; rw [mask_bit, Nat.testBit_or, hi.1, hi.2]; rfl)) j hj
    · exact All_min (All_closed h.1 (a ||| b)) (fun i hi => All_sub (a ||| b) i (by rw [mask_bit, Bool.and_eq_true] at hi; rw [mask_bit, Nat.testBit_or, hi.1, hi.2]; simp)) j hj

theorem Has_eq {up : List Int} (h : Rt up ∧ up.length ≤ 8) {roles : Nat} (hro : roles < 18446744073709551616) {k : Nat} (hk : 20 < k) {q : Nat} (hq : q < up.length) : role_Has.f k up (roles : Int) (q : Int) = some ((All up roles).testBit q) := by
  unfold role_Has.f
  have hlt := Nat.lt_of_lt_of_le (All_lt (roles := roles) h) (le8 h.2)
  rw [ct (by omega), ct (by omega), (All_eq (by omega) hro hk).1 h, Option.bind_some, bit_eq k (by omega), Option.bind_some, and64 (by omega) (p64 (by omega))]
  congr 1
  rw [Bool.eq_iff_iff, decide_eq_true_eq, and_bit]

theorem RoleGrows (l : List Int) (_h0 : l.length ≤ 9223372036854775807 ∧ l.length * 8 ≤ 140737488351232 ∧ ∀ z ∈ l, (Lit.int .i64 z).wf = true) (roles : Int) (w1 : (Lit.int .u64 roles).wf = true)
    (more : Int) (w2 : (Lit.int .u64 more).wf = true) : ∃ k, pyxlaw9_RoleGrows.f k l roles more = some true := by
  refine ⟨300, ?_⟩
  unfold pyxlaw9_RoleGrows.f
  obtain ⟨up0, h1, hl0, hp0⟩ := parents_some l 0 (k := 300) (by decide)
  obtain ⟨ro, rfl⟩ := Int.eq_ofNat_of_zero_le (wf64 w1).1
  obtain ⟨mo, rfl⟩ := Int.eq_ofNat_of_zero_le (wf64 w2).1
  have hro : ro < 18446744073709551616 := by have := (wf64 w1).2; omega
  have hmo : mo < 18446744073709551616 := by have := (wf64 w2).2; omega
  rw [h1, Option.bind_some]
  obtain ⟨up, hup, hR⟩ : ∃ up, (cond (decide ((up0.length : Int) > 8)) (cond (inS 0 8 up0.length) (some ((ro : Int), (mo : Int), List.take 8 up0)) none) (some ((ro : Int), (mo : Int), up0)) : Option (Int × Int × List Int)) = some ((ro : Int), (mo : Int), up) ∧ Rt up ∧ up.length ≤ 8 := by
    by_cases h8 : (up0.length : Int) > 8
    · rw [ct h8]
      have : inS 0 8 up0.length = true := by unfold inS; simp; omega
      rw [this, cond_true]
      refine ⟨_, rfl, fun i hi => ?_, by simp; omega⟩
      have hi' : i < 8 := by simp at hi; omega
      have := hp0 rfl i (by omega)
      rw [List.getD_eq_getElem?_getD, List.getElem?_take_of_lt hi', ← List.getD_eq_getElem?_getD]
      exact this
    · rw [cf h8]
      exact ⟨_, rfl, hp0 rfl, by omega⟩
  rw [hup, Option.bind_some]
  dsimp only
  have hl := hR.2
  have hA := fun {r : Nat} (h : r < 18446744073709551616) => (All_eq (up := up) (by omega) h (k := 300) (by decide)).1 hR
  have hAlt := fun r : Nat => Nat.lt_of_lt_of_le (All_lt (roles := r) hR) (le8 hR.2)
  have hn := Nat.two_pow_pos up.length
  have h256 := le8 hl
  rw [cf (by rw [wrapu (by omega)]; omega), hA hro, Option.bind_some, hA hmo, Option.bind_some, known9, Option.bind_some, bit_w (by omega)]
  rw [show (!true) = false by rfl, cond_false, show IntKind.wrap .u64 (((2 ^ up.length : Nat) : Int) - 1) = ((2 ^ up.length - 1 : Nat) : Int) by rw [wrapu (by omega)]; omega]
  have a1 := hAlt ro
  have a2 := hAlt mo
  rw [and64 (by omega) (by omega), mask_self (All_lt hR), bne_self_eq_false, cond_false, and64 (by omega) hro, and64 hro (by omega)]
  have e1 : All up ro &&& ro = ro &&& (2 ^ up.length - 1) := by
    apply Nat.eq_of_testBit_eq
    intro j
    rw [mask_bit, Nat.testBit_and, Bool.eq_iff_iff, Bool.and_eq_true, Bool.and_eq_true]
    constructor
    · rintro ⟨h1, h2⟩
      refine ⟨h2, ?_⟩
      rw [decide_eq_true_eq]
      by_cases hj : j < up.length
      · exact hj
      · rw [Nat.testBit_lt_two_pow (Nat.lt_of_lt_of_le (All_lt hR) (Nat.pow_le_pow_right (by decide) (by omega)))] at h1
        cases h1
    · rintro ⟨h1, h2⟩
      exact ⟨All_sub ro j (by rw [mask_bit, h1, h2]; rfl), h1⟩
  rw [e1, bne_self_eq_false, cond_false, hA (by omega), Option.bind_some, All_idem hR, bne_self_eq_false, cond_false, or64 hro hmo, hA (or_lt hro hmo), Option.bind_some, All_or hR, or64 (by omega) (by omega), bne_self_eq_false, Option.bind_some]
  dsimp only
  rw [cond_false]
  obtain ⟨y, g1, g2⟩ := iter_rule (once := pyxlaw9_RoleGrows.l10.once 300) (fun x => ∃ i : Nat, x = ((ro : Int), up, ((All up ro : Nat) : Int), up, (up.length : Int), (i : Int)) ∧ i ≤ up.length)
    (fun x => up.length - x.2.2.2.2.2.toNat) (fun y => y = .inl ()) (by
    rintro _ ⟨i, rfl, hi⟩
    unfold pyxlaw9_RoleGrows.l10.once
    dsimp only
    by_cases hlt : i < up.length
    · left
      refine ⟨((ro : Int), up, ((All up ro : Nat) : Int), up, (up.length : Int), ((i + 1 : Nat) : Int)), ?_, ⟨i + 1, rfl, by omega⟩, by dsimp only; omega⟩
      rw [ct (by omega), inb_t (by omega) (by omega), cond_true, Has_eq hR hro (by decide) hlt, Option.bind_some, cf (by rw [wrapu (by omega)]; omega), shr_bit (by omega), beq_self_eq_true, Int.toNat_natCast]
      rw [show (!true) = false by rfl, cond_false]
      have hw : IntKind.wrap .i64 ((i : Int) + 1) = ((i + 1 : Nat) : Int) := by rw [wrapi (by omega)]; rfl
      by_cases hp : up.getD i 0 ≥ 0
      · rw [ct hp, Option.bind_some]
        cases hb : (All up ro).testBit i with
        | false => rw [cond_false, Option.bind_some]; dsimp only; rw [cond_false, hw]
        | true =>
          have hc := All_closed hR.1 ro i (by omega) hlt hb hp
          obtain ⟨v, hv⟩ := Int.eq_ofNat_of_zero_le hp
          have hr := hR.1 i hlt
          rw [hv] at hc hr ⊢
          rw [Int.toNat_natCast] at hc
          rw [cond_true, Has_eq hR hro (by decide) (by omega), hc, Option.bind_some, Option.bind_some]
          dsimp only
          rw [show (!true) = false by rfl, cond_false, hw]
      · rw [cf hp, Option.bind_some]
        dsimp only
        rw [cond_false, hw]
    · right
      rw [cf (by omega)]
      exact ⟨_, rfl, rfl⟩) 300 ((ro : Int), up, ((All up ro : Nat) : Int), up, (up.length : Int), 0) ⟨0, rfl, by omega⟩ (by dsimp only; omega)
  rw [g1, g2, Option.bind_some]
end Go.Proofs.Ytojkgadihooplaa.Pure
