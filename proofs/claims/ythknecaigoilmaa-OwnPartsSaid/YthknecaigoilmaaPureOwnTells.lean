/- What the law OwnTells computes is true, whatever the numbers. No conditions but that each number is one of its type. -/
import Derived.Test.YthknecaigoilmaaOwn
namespace Go.Proofs.Ythknecaigoilmaa.Pure
set_option linter.unusedVariables false
set_option linter.unusedSimpArgs false
open Go Go.Ev Go.Lm Go.Pu Go.Dg
theorem En_append_left {l t : List Sapi_Ent} {i : Nat} (h : i < l.length) : En (l ++ t) i = En l i := by
  unfold En
  rw [List.getD_eq_getElem?_getD, List.getElem?_append_left h, ← List.getD_eq_getElem?_getD]
theorem En_append_right {l : List Sapi_Ent} {e : Sapi_Ent} : En (l ++ [e]) l.length = e := by
  unfold En
  rw [List.getD_eq_getElem?_getD, List.getElem?_append_right (Nat.le_refl _)]; simp
theorem OkL_snoc {l : List Sapi_Ent} (h : OkL l) {e : Sapi_Ent} (he : okE e l.length = true) : OkL (l ++ [e]) := by
  intro i hi
  rw [List.length_append, List.length_singleton] at hi
  by_cases h' : i < l.length
  · rw [En_append_left h']; exact h i h'
  · obtain rfl : i = l.length := by omega
    rw [En_append_right]; exact he
theorem OkL_take {l : List Sapi_Ent} (h : OkL l) (n : Nat) : OkL (l.take n) := by
  intro i hi
  rw [List.length_take] at hi
  have := h i (by omega)
  unfold En at *
  rwa [List.getD_eq_getElem?_getD, List.getElem?_take_of_lt (by omega), ← List.getD_eq_getElem?_getD]
def base : Sapi_Ent := ⟨0, 0, (-1), 10000⟩
/-- Entities of raw numbers. -/
theorem ents_raw {l : List Int} (hl : l.length ≤ 9223372036854775800) (bend by' : Int) : ∃ e : List Sapi_Ent, OkL e ∧ 1 ≤ e.length ∧ e.length ≤ 9 ∧ ∃ y, iter (pyxlaw19_ents.l3.once 700) 700 (l, bend, by', 0, []) = some y ∧ y.1 = bend ∧ y.2.1 = by' ∧ e = (if y.2.2.length = 0 then [base] else y.2.2) := by
  obtain ⟨y, e1, e2, e3, e4, e5⟩ := iter_rule (once := pyxlaw19_ents.l3.once 700) (fun x => ∃ (j : Nat) (acc : List Sapi_Ent), x = (l, bend, by', (j : Int), acc) ∧ j = 2 * acc.length ∧ j ≤ 18 ∧ OkL acc) (fun x => 20 - x.2.2.2.1.toNat) (fun y => y.1 = bend ∧ y.2.1 = by' ∧ y.2.2.length ≤ 9 ∧ OkL y.2.2) (by
    rintro x ⟨j, acc, rfl, hj, hj', hok⟩
    have hw : IntKind.wrap .i64 ((j : Int) + 1) = ((j + 1 : Nat) : Int) := by rw [wrapi (by omega)]; omega
    have first : (cond (decide (IntKind.wrap .i64 ((j : Int) + 1) < (l.length : Int))) (some (l, bend, by', (j : Int), decide ((j : Int) < 18), acc)) (some (l, bend, by', (j : Int), false, acc)) : Option (List Int × Int × Int × Int × Bool × List Sapi_Ent)) = some (l, bend, by', (j : Int), decide (j + 1 < l.length ∧ j < 18), acc) := by
      rw [hw]
      by_cases h1 : j + 1 < l.length
      · rw [ct (by omega)]
        by_cases h2 : j < 18
        · rw [decide_eq_true (show (j : Int) < 18 by omega), decide_eq_true ⟨h1, h2⟩]
        · rw [decide_eq_false (show ¬ (j : Int) < 18 by omega), decide_eq_false (fun h => h2 h.2)]
      · rw [cf (by omega), decide_eq_false (fun h => h1 h.1)]
    by_cases h : j + 1 < l.length ∧ j < 18
    · left
      rw [decide_eq_true h] at first
      have p1 := pick_bd (l.getD j 0) (show (0 : Int) < (acc.length : Int) + 1 by omega)
      have p2 := pick_bd (l.getD (j + 1) 0) (show (0 : Int) < 10000 by decide)
      have w1 : IntKind.wrap .i64 ((acc.length : Int) + 1) = (acc.length : Int) + 1 := wrapi (by omega)
      have hstep : ∃ e : Sapi_Ent, okE e acc.length = true ∧ pyxlaw19_ents.l3.once 700 (l, bend, by', (j : Int), acc) = some (.inl (l, bend, by', ((j + 2 : Nat) : Int), acc ++ [e])) := by
        refine ⟨⟨0, 0, pick (l.getD j 0) ((acc.length : Int) + 1) - 1, if pick (l.getD j 0) ((acc.length : Int) + 1) - 1 < 0 then 10000 else 1 + pick (l.getD (j + 1) 0) 10000⟩, ?_, ?_⟩
        · unfold okE
          refine decide_eq_true ?_
          dsimp only
          split <;> omega
        · unfold pyxlaw19_ents.l3.once
          dsimp only
          refine bind_of first ?_
          dsimp only
          rw [cond_true, inb_t (by omega) (by omega), cond_true, Int.toNat_natCast, w1, Pick_eq _ _ (by omega) (by omega), Option.bind_some, hw, inb_t (by omega) (by omega), cond_true, Int.toNat_natCast, Pick_eq _ _ (by decide) (by decide), Option.bind_some]
          generalize pick (l.getD j 0) ((acc.length : Int) + 1) = a at *
          generalize pick (l.getD (j + 1) 0) 10000 = b at *
          rw [wrapi (n := a - 1) (by omega), wrapi (n := 1 + b) (by omega)]
          by_cases h3 : a - 1 < 0
          · rw [ct h3, if_pos h3, Option.bind_some]
            dsimp only
            rw [okLen_t (by simp only [List.length_cons, List.length_nil]; omega), cond_true, Option.bind_some]
            dsimp only
            rw [wrapi (n := (j : Int) + 2) (by omega)]
            rfl
          · rw [cf h3, if_neg h3, Option.bind_some]
            dsimp only
            rw [okLen_t (by simp only [List.length_cons, List.length_nil]; omega), cond_true, Option.bind_some]
            dsimp only
            rw [wrapi (n := (j : Int) + 2) (by omega)]
            rfl
      obtain ⟨e, he, hs⟩ := hstep
      exact ⟨_, hs, ⟨j + 2, _, rfl, by simp; omega, by omega, OkL_snoc hok he⟩, by dsimp only; omega⟩
    · right
      rw [decide_eq_false h] at first
      refine ⟨(bend, by', acc), ?_, rfl, rfl, by dsimp only; omega, hok⟩
      unfold pyxlaw19_ents.l3.once
      dsimp only
      refine bind_of first ?_
      rfl) 700 (l, bend, by', ((0 : Nat) : Int), []) ⟨0, [], rfl, rfl, by omega, fun i hi => by simp at hi⟩ (by dsimp only; omega)
  refine ⟨if y.2.2.length = 0 then [base] else y.2.2, ?_, ?_, ?_, ⟨y, e1, e2, e3, rfl⟩⟩
  · split
    · intro i hi
      obtain rfl : i = 0 := by simp at hi; exact hi
      rfl
    · exact e5
  · split
    · exact Nat.le_refl _
    · omega
  · split
    · decide
    · exact e4
theorem bind_ex {α β : Type} {o : Option α} {v : α} {f : α → Option β} {P : β → Prop} (h : o = some v) (h' : ∃ r, f v = some r ∧ P r) : ∃ r, o.bind f = some r ∧ P r := by rw [h]; exact h'
/-- Entities: right, when nothing is bent. -/
theorem ents_eq {l : List Int} (hl : l.length ≤ 9223372036854775800) (bend by' : Int) : ∃ e : List Sapi_Ent, OkL e ∧ 1 ≤ e.length ∧ e.length ≤ 9 ∧ ∃ e', pyxlaw19_ents.f 700 l bend by' = some e' ∧ e'.length = e.length ∧ (bend = 0 → e' = e) := by
  obtain ⟨e, h1, h2, h3, y, y1, y2, y3, y4⟩ := ents_raw hl bend by'
  refine ⟨e, h1, h2, h3, ?_⟩
  unfold pyxlaw19_ents.f
  have first : (cond ((y.2.2.length : Int) == 0) (some (y.1, y.2.1, [(⟨0, 0, (-1), 10000⟩ : Sapi_Ent)])) (some (y.1, y.2.1, y.2.2)) : Option (Int × Int × List Sapi_Ent)) = some (bend, by', e) := by
    rw [y2, y3, y4]
    by_cases h : y.2.2.length = 0
    · rw [if_pos h, h]; rfl
    · rw [if_neg h, show ((y.2.2.length : Int) == 0) = false by simp only [beq_eq_false_iff_ne, ne_eq]; omega, cond_false]
  have pk := pick_bd by' (show (0 : Int) < (e.length : Int) by omega)
  have pb := pick_bd bend (show (0 : Int) < 9 by decide)
  rw [y1, Option.bind_some]
  refine bind_ex first ?_
  dsimp only
  rw [Pick_eq _ _ (by omega) (by omega), Option.bind_some, Pick_eq _ _ (by decide) (by decide), Option.bind_some]
  have p10005 := Pick_eq 700 by' (m := 10005) (by decide) (by decide)
  have p12 := Pick_eq 700 (IntKind.wrap .i64 (Int.tdiv by' 9)) (m := 12) (by decide) (by decide)
  have p7 := Pick_eq 700 (IntKind.wrap .i64 (Int.tdiv by' 9)) (m := 7) (by decide) (by decide)
  have hc : bend = 0 → pick bend 9 = 0 := by rintro rfl; rfl
  generalize pick bend 9 = c at *
  generalize pick by' (e.length : Int) = t at *
  by_cases c6 : c = 6
  · rw [c6, beq_self_eq_true, cond_true, p10005, Option.bind_some, inb_t (by omega) (by omega), cond_true, blt_t (by omega), cond_true]
    exact ⟨_, rfl, List.length_set, fun h => by have := hc h; omega⟩
  rw [show (c == 6) = false by simp [c6], cond_false]
  by_cases c7 : c = 7
  · rw [c7, beq_self_eq_true, cond_true, p12, Option.bind_some, inb_t (by omega) (by omega), cond_true, blt_t (by omega), cond_true]
    exact ⟨_, rfl, List.length_set, fun h => by have := hc h; omega⟩
  rw [show (c == 7) = false by simp [c7], cond_false]
  by_cases c8 : c = 8
  · rw [c8, beq_self_eq_true, cond_true, p7, Option.bind_some, inb_t (by omega) (by omega), cond_true, blt_t (by omega), cond_true]
    exact ⟨_, rfl, List.length_set, fun h => by have := hc h; omega⟩
  rw [show (c == 8) = false by simp [c8], cond_false]
  exact ⟨e, rfl, rfl, fun _ => rfl⟩
theorem ok3 : OkL [base, ⟨0, 0, 0, 5000⟩, ⟨0, 0, 1, 5000⟩] := by
  intro i hi
  have : i = 0 ∨ i = 1 ∨ i = 2 := by simp at hi; omega
  rcases this with rfl | rfl | rfl <;> rfl
theorem known19 : pyxlaw19_known.f 700 = some true := by
  unfold pyxlaw19_known.f
  have h0 := (OPart_no (l := []) (i := 0) (by decide) (by decide) (fun h => by have := h.2.1; simp at this)).2
  have h1 := OPart ok3 (by decide) (by decide) (i := 2) (by decide) (by decide)
  have h2 := OTop ok3 (by decide) (by decide) (i := 2) (by decide) (by decide)
  have h3 : pyxref1_Of.f 700 250000 6 = some (DN 250000 6) := ROf_eq (n := 250000) (by decide) (s := 6) (by decide)
  have c : chain [base, ⟨0, 0, 0, 5000⟩, ⟨0, 0, 1, 5000⟩] 8 2 1000000 = 250000 := by decide +kernel
  have t : top [base, ⟨0, 0, 0, 5000⟩, ⟨0, 0, 1, 5000⟩] 8 2 = 0 := by decide +kernel
  rw [c] at h1
  rw [t] at h2
  unfold base at *
  rw [h0, Option.bind_some, show ((-1 : Int) == -1) = true from rfl, cond_true, h1, Option.bind_some, h3, Option.bind_some]
  unfold DN
  dsimp only
  rw [beq_self_eq_true, beq_self_eq_true, beq_self_eq_true, beq_self_eq_true, Bool.and_self, Bool.and_self, Bool.and_self, cond_true, h2]
  rfl
theorem OwnTells (l : List Int) (h0 : l.length ≤ 9223372036854775807 ∧ l.length * 8 ≤ 140737488351232 ∧ ∀ z ∈ l, (Lit.int .i64 z).wf = true) (bend : Int) (h1 : (Lit.int .i64 bend).wf = true) (by' : Int) (h2 : (Lit.int .i64 by').wf = true) (kk : Int) (h3 : (Lit.int .i64 kk).wf = true) : ∃ k, pyxlaw19_OwnTells.f k l bend by' kk = some true := by
  refine ⟨700, ?_⟩
  unfold pyxlaw19_OwnTells.f
  obtain ⟨e0, _, _, e3, e, e4, e5, _⟩ := ents_eq (l := l) (by omega) bend by'
  have hp := pick_bd kk (show (0 : Int) < 12 by decide)
  rw [e4, Option.bind_some, Pick_eq _ _ (by decide) (by decide), Option.bind_some, known19, Option.bind_some, cond_true, wrapi (by omega)]
  generalize hi : pick kk 12 - 2 = i at *
  by_cases h : OkL e ∧ 1 ≤ e.length ∧ e.length ≤ 8 ∧ 0 ≤ i ∧ i < e.length
  · obtain ⟨g1, g2, g3, g4, g5⟩ := h
    rw [OPart g1 g2 g3 g4 g5, Option.bind_some, RPart g1 g2 g3 g4 g5, Option.bind_some, OTop g1 g2 g3 g4 g5, Option.bind_some, RTop g1 g2 g3 g4 g5, Option.bind_some]
    simp
  · have o := OPart_no (l := e) (by omega) (i := i) (by omega) h
    have r := RPart_no (l := e) (by omega) h
    rw [o.1, Option.bind_some, r.1, Option.bind_some, o.2, Option.bind_some, r.2, Option.bind_some]
    rfl
end Go.Proofs.Ythknecaigoilmaa.Pure
