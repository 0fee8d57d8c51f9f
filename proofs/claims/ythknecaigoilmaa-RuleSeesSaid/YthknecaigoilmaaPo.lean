/- What pyxhand.Policy makes: a policy that is right. No conditions but size. -/
import Derived.Test.YthknecaigoilmaaFs
import Derived.Test.YthknecaigoilmaaPu
namespace Go.Proofs.Ythknecaigoilmaa.Pure
set_option linter.unusedVariables false
set_option linter.unusedSimpArgs false
open Go Go.Ev Go.Pu
theorem bex {α β : Type} {X : Option α} {G : α → Option β} {P : β → Prop} (Q : α → Prop) (h : ∃ v, X = some v ∧ Q v) (h' : ∀ v, Q v → ∃ r, G v = some r ∧ P r) : ∃ r, X.bind G = some r ∧ P r := by
  obtain ⟨v, rfl, hv⟩ := h
  exact h' v hv
theorem bof {α β : Type} {o : Option α} {v : α} {f : α → Option β} {r : Option β} (h : o = some v) (h' : f v = r) : o.bind f = r := by rw [h]; exact h'
theorem step_of {X Y : Type} {o : Option (X ⊕ Y)} {P : X → Prop} (h : ∃ r, o = some r ∧ ∃ x', r = .inl x' ∧ P x') : ∃ x', o = some (.inl x') ∧ P x' := by
  obtain ⟨_, h1, x', rfl, h2⟩ := h
  exact ⟨x', h1, h2⟩
theorem pickP (k : Nat) (n : Int) {m : Int} (h0 : 0 < m) (h1 : m ≤ 4611686018427387904) : pyxhand_Pick.f k n m = some (pick n m) := by
  unfold pyxhand_Pick.f pick
  rw [show (m == 0) = false by simp; omega, cond_false]
  have h2 : -m < Int.tmod n m := Int.lt_tmod_of_pos n h0
  have h3 := Int.tmod_lt_of_pos n h0
  by_cases h : Int.tmod n m < 0
  · rw [ct h, if_pos h, wrapi (by omega)]
  · rw [cf h, if_neg h]
theorem pick_ex (k : Nat) (n : Int) {m : Int} (h0 : 0 < m) (h1 : m ≤ 4611686018427387904) : ∃ v, pyxhand_Pick.f k n m = some v ∧ 0 ≤ v ∧ v < m := ⟨_, pickP k n h0 h1, pick_bd n h0⟩
theorem at_ex (k : Nat) {l : List Int} (hl : l.length ≤ 9223372036854775807) {i : Int} (h0 : 0 ≤ i ∧ i ≤ 1000) : ∃ v, pyxhand_at.f k l i = some v ∧ True := by
  unfold pyxhand_at.f
  by_cases hc : l.length = 0
  · rw [show ((l.length : Int) == 0) = true by simp [hc], cond_true]
    exact ⟨_, rfl, trivial⟩
  · have h1 : 0 ≤ Int.tmod i (l.length : Int) := Int.tmod_nonneg _ h0.1
    have h2 : Int.tmod i (l.length : Int) < (l.length : Int) := Int.tmod_lt_of_pos _ (by omega)
    have h3 : 0 ≤ Int.tdiv i (l.length : Int) := Int.tdiv_nonneg h0.1 (by omega)
    have h4 : Int.tdiv i (l.length : Int) ≤ i := by
      rw [Int.tdiv_eq_ediv_of_nonneg h0.1]
      exact Int.ediv_le_self _ h0.1
    rw [show ((l.length : Int) == 0) = false from beq_eq_false_iff_ne.2 (by omega), cond_false, cond_false, inb_t h1 h2, cond_true, cond_false, wrapi (n := Int.tdiv i (l.length : Int)) (by omega), wrapi (n := 1 + Int.tdiv i (l.length : Int)) (by omega),
      show (1 + Int.tdiv i (l.length : Int) == 0) = false from beq_eq_false_iff_ne.2 (by omega), cond_false]
    exact ⟨_, rfl, trivial⟩
theorem at_w (k : Nat) {l : List Int} (hl : l.length ≤ 9223372036854775807) {i : Int} (h0 : 0 ≤ i ∧ i ≤ 1000) : ∃ v, pyxhand_at.f k l (IntKind.wrap .i64 i) = some v ∧ True := by
  rw [wrapi (by omega)]
  exact at_ex k hl h0
theorem pow_n {n : Nat} (h : 2 ≤ n ∧ n ≤ 4) : IntKind.wrap .i64 (1 * 2 ^ (min (Int.toNat (IntKind.wrap .u64 (n : Int))) 64)) = 2 ^ n ∧ (4 : Int) ≤ 2 ^ n ∧ (2 : Int) ^ n ≤ 16 := by
  have : n = 2 ∨ n = 3 ∨ n = 4 := by omega
  rcases this with rfl | rfl | rfl <;> decide
/-- An entity, the i-th. -/
def EntOk (i : Nat) (e : Sapi_Ent) : Prop := (0 ≤ e.f_Level ∧ e.f_Level ≤ 3) ∧ (0 ≤ e.f_Scale ∧ e.f_Scale ≤ 4) ∧ (-1 ≤ e.f_Parent ∧ e.f_Parent < i) ∧ (1 ≤ e.f_Share ∧ e.f_Share ≤ 10000) ∧ (e.f_Parent = -1 → e.f_Share = 10000)
def EntsOk (l : List Sapi_Ent) : Prop := ∀ i, i < l.length → EntOk i (l.getD i Sapi_Ent.zero)
theorem EntsOk_app {l : List Sapi_Ent} (h : EntsOk l) {e : Sapi_Ent} (he : EntOk l.length e) : EntsOk (l ++ [e]) := by
  intro i hi
  rw [List.length_append, List.length_singleton] at hi
  by_cases hc : i < l.length
  · rw [List.getD_eq_getElem?_getD, List.getElem?_append_left hc, ← List.getD_eq_getElem?_getD]
    exact h i hc
  · obtain rfl : i = l.length := by omega
    rw [List.getD_eq_getElem?_getD, List.getElem?_append_right (Nat.le_refl _), Nat.sub_self]
    exact he
theorem okLen_t' {n b : Nat} (h : n * b ≤ 140737488355328) : okLen n b = true := decide_eq_true h
theorem Of_units (k : Nat) (hk : 1000 < k) : pyxref1_Of.f k 1 0 = some ⟨false, (1, 0), 0⟩ ∧ pyxref1_Of.f k 100 0 = some ⟨false, (100, 0), 0⟩ ∧ pyxref1_Of.f k 5 1 = some ⟨false, (5, 0), 1⟩ ∧ pyxref1_Of.f k 2500 2 = some ⟨false, (2500, 0), 2⟩ := by
  obtain ⟨j, rfl⟩ : ∃ j, k = j + 1000 := ⟨k - 1000, by omega⟩
  exact ⟨by kernel_rfl, by kernel_rfl, by kernel_rfl, by kernel_rfl⟩
section
variable {k : Nat} (hk : 1000 < k) {l : List Int} (hl : l.length ≤ 9223372036854775807) {n : Nat} (hn : 2 ≤ n ∧ n ≤ 4)
include hk hl hn
theorem Pol_ents (z4 : List Sapi_Ent) (z5 : List Int) (z6 : List Sapi_Who) (z7 : List Int) (z8 : List Sapi_Rule) (g : List Int) (w : List Sapi_Who) (u : List Int) (r : List Sapi_Rule) :
    ∃ y, iter (pyxhand_Policy.l4.once k) k (l, (n : Int), 0, z4, z5, z6, z7, z8, [], g, w, u, r) = some y ∧ ∃ e, y = (l, (n : Int), z4, z5, z6, z7, z8, e, g, w, u, r) ∧ e.length = n ∧ EntsOk e := by
  refine iter_rule (once := pyxhand_Policy.l4.once k) (fun st => ∃ (i : Nat) (e : List Sapi_Ent), st = (l, (n : Int), (i : Int), z4, z5, z6, z7, z8, e, g, w, u, r) ∧ i ≤ n ∧ e.length = i ∧ EntsOk e) (fun st => n - st.2.2.1.toNat) _ (by
    rintro _ ⟨i, e, rfl, hi, he, hE⟩
    by_cases hc : i < n
    · left
      refine step_of ?_
      unfold pyxhand_Policy.l4.once
      dsimp only
      rw [ct (by omega)]
      refine bex (fun y => ∃ x, EntOk i x ∧ y = (l, (n : Int), (i : Int), z4, z5, z6, z7, z8, e ++ [x], g, w, u, r)) ?_ ?_
      · refine bex _ (at_w k hl (by omega)) fun v1 _ => ?_
        refine bex _ (pick_ex k _ (by decide) (by decide)) fun lv hlv => ?_
        refine bex _ (at_w k hl (by omega)) fun v2 _ => ?_
        refine bex _ (pick_ex k _ (by decide) (by decide)) fun s hs => ?_
        rw [inb_t hs.1 hs.2, cond_true]
        have hsc : 0 ≤ List.getD [(2 : Int), 2, 0, 3] (Int.toNat s) 0 ∧ List.getD [(2 : Int), 2, 0, 3] (Int.toNat s) 0 ≤ 4 := by
          have : s = 0 ∨ s = 1 ∨ s = 2 ∨ s = 3 := by omega
          rcases this with rfl | rfl | rfl | rfl <;> decide
        generalize List.getD [(2 : Int), 2, 0, 3] (Int.toNat s) 0 = sc at *
        refine bex (fun y => ∃ b : Bool, (b = true → 0 < i) ∧ y = (l, (n : Int), (i : Int), b, z4, z5, z6, z7, z8, e, g, w, u, r, lv, sc, -1, 10000)) ?_ ?_
        · by_cases h0 : 0 < i
          · rw [ct (by omega)]
            refine bex _ (at_w k hl (by omega)) fun v3 _ => ?_
            refine bex _ (pick_ex k _ (by decide) (by decide)) fun v4 _ => ?_
            exact ⟨_, rfl, _, (fun _ => h0), rfl⟩
          · rw [cf (by omega)]
            exact ⟨_, rfl, false, (fun h => by cases h), rfl⟩
        · rintro _ ⟨b, hb, rfl⟩
          dsimp only
          refine bex (fun y => ∃ p sh : Int, ((-1 ≤ p ∧ p < i) ∧ (1 ≤ sh ∧ sh ≤ 10000) ∧ (p = -1 → sh = 10000)) ∧ y = (l, (n : Int), (i : Int), z4, z5, z6, z7, z8, e, g, w, u, r, lv, sc, p, sh)) ?_ ?_
          · cases b with
            | false => exact ⟨_, rfl, -1, 10000, ⟨by omega, by omega, fun _ => rfl⟩, rfl⟩
            | true =>
              have h0 := hb rfl
              rw [cond_true]
              refine bex _ (at_w k hl (by omega)) fun v3 _ => ?_
              refine bex _ (pick_ex k _ (m := (i : Int)) (by omega) (by omega)) fun p hp => ?_
              refine bex _ (at_w k hl (by omega)) fun v4 _ => ?_
              refine bex _ (pick_ex k _ (by decide) (by decide)) fun sh hsh => ?_
              rw [wrapi (by omega)]
              exact ⟨_, rfl, p, 1 + sh, ⟨by omega, by omega, by omega⟩, rfl⟩
          · rintro _ ⟨p, sh, hp, rfl⟩
            dsimp only
            rw [okLen_t' (by rw [he]; simp only [List.length_cons, List.length_nil]; omega), cond_true]
            exact ⟨_, rfl, _, (by unfold EntOk; dsimp only; omega), rfl⟩
      · rintro _ ⟨x, hx, rfl⟩
        dsimp only
        rw [wrapi (by omega)]
        refine ⟨_, rfl, _, rfl, ⟨i + 1, _, rfl, by omega, by rw [List.length_append, he]; rfl, EntsOk_app hE (by rw [he]; exact hx)⟩, by dsimp only; omega⟩
    · right
      unfold pyxhand_Policy.l4.once
      dsimp only
      rw [cf (by omega)]
      exact ⟨_, rfl, e, rfl, by omega, hE⟩) k _ ⟨0, [], rfl, by omega, rfl, fun i hi => absurd hi (Nat.not_lt_zero _)⟩ (by dsimp only; omega)
theorem Pol_groups (z4 : List Sapi_Ent) (z5 : List Int) (z6 : List Sapi_Who) (z7 : List Int) (z8 : List Sapi_Rule) (e : List Sapi_Ent) (w : List Sapi_Who) (u : List Int) (r : List Sapi_Rule) {g0 : Int} (h0 : 0 < g0 ∧ g0 < 2 ^ n) :
    ∃ y, iter (pyxhand_Policy.l14.once k) k (l, (n : Int), 0, z4, z5, z6, z7, z8, e, [g0], w, u, r) = some y ∧ ∃ g, y = (l, (n : Int), z4, z5, z6, z7, z8, e, g, w, u, r) ∧ (1 ≤ g.length ∧ g.length ≤ 4) ∧ ∀ x ∈ g, 0 < x ∧ x < 2 ^ n := by
  refine iter_rule (once := pyxhand_Policy.l14.once k) (fun st => ∃ (i : Nat) (g : List Int), st = (l, (n : Int), (i : Int), z4, z5, z6, z7, z8, e, g, w, u, r) ∧ i ≤ 3 ∧ (1 ≤ g.length ∧ g.length ≤ i + 1) ∧ ∀ x ∈ g, 0 < x ∧ x < 2 ^ n) (fun st => 3 - st.2.2.1.toNat) _ (by
    rintro _ ⟨i, g, rfl, hi, hg, hG⟩
    have hp := pow_n hn
    obtain ⟨v, v1, _⟩ := at_ex k hl (i := 17) (by omega)
    obtain ⟨t, t1, t2⟩ := pick_ex k v (m := 3) (by decide) (by decide)
    by_cases hc : (i : Int) < t
    · left
      refine step_of ?_
      unfold pyxhand_Policy.l14.once
      dsimp only
      rw [v1, Option.bind_some, t1, Option.bind_some, ct hc]
      refine bex (fun y => ∃ g' : List Int, ((1 ≤ g'.length ∧ g'.length ≤ i + 2) ∧ ∀ x ∈ g', 0 < x ∧ x < 2 ^ n) ∧ y = (l, (n : Int), (i : Int), z4, z5, z6, z7, z8, e, g', w, u, r)) ?_ ?_
      · refine bex _ (at_w k hl (by omega)) fun v1 _ => ?_
        rw [cf (by rw [wrapu (by omega)]; omega), hp.1]
        refine bex _ (pick_ex k _ (m := 2 ^ n) (by omega) (by omega)) fun q hq => ?_
        rw [wrapu (by omega)]
        by_cases h1 : q > 0
        · rw [ct h1, okLen_t' (by simp only [List.length_cons, List.length_nil]; omega), cond_true]
          refine ⟨_, rfl, _, ⟨by rw [List.length_append, List.length_singleton]; omega, fun x hx => ?_⟩, rfl⟩
          rcases List.mem_append.1 hx with hx | hx
          · exact hG x hx
          · simp only [List.mem_cons, List.not_mem_nil, or_false] at hx
            subst hx
            omega
        · rw [cf h1]
          exact ⟨_, rfl, _, ⟨by omega, hG⟩, rfl⟩
      · rintro _ ⟨g', hg', rfl⟩
        dsimp only
        rw [wrapi (by omega)]
        exact ⟨_, rfl, _, rfl, ⟨i + 1, g', rfl, by omega, by omega, hg'.2⟩, by dsimp only; omega⟩
    · right
      unfold pyxhand_Policy.l14.once
      dsimp only
      rw [v1, Option.bind_some, t1, Option.bind_some, cf hc]
      exact ⟨_, rfl, g, rfl, by omega, hG⟩) k _ ⟨0, [g0], rfl, by omega, by simp, fun x hx => by simp only [List.mem_cons, List.not_mem_nil, or_false] at hx; subst hx; exact h0⟩ (by dsimp only; omega)
def WhoOk (w : Sapi_Who) : Prop := (0 ≤ w.f_Clear.f_Set ∧ w.f_Clear.f_Set < 256) ∧ (0 ≤ w.f_Clear.f_Level ∧ w.f_Clear.f_Level ≤ 3) ∧ (0 ≤ w.f_Roles ∧ w.f_Roles < 256)
theorem Pol_who (z4 : List Sapi_Ent) (z5 : List Int) (z6 : List Sapi_Who) (z7 : List Int) (z8 : List Sapi_Rule) (e : List Sapi_Ent) (g : List Int) (u : List Int) (r : List Sapi_Rule) {w0 : Sapi_Who} (h0 : WhoOk w0) :
    ∃ y, iter (pyxhand_Policy.l22.once k) k (l, (n : Int), 0, z4, z5, z6, z7, z8, e, g, [w0], u, r) = some y ∧ ∃ w, y = (l, (n : Int), z4, z5, z6, z7, z8, e, g, w, u, r) ∧ (2 ≤ w.length ∧ w.length ≤ 4) ∧ ∀ x ∈ w, WhoOk x := by
  refine iter_rule (once := pyxhand_Policy.l22.once k) (fun st => ∃ (i : Nat) (w : List Sapi_Who), st = (l, (n : Int), (i : Int), z4, z5, z6, z7, z8, e, g, w, u, r) ∧ i ≤ 3 ∧ w.length = i + 1 ∧ ∀ x ∈ w, WhoOk x) (fun st => 3 - st.2.2.1.toNat) _ (by
    rintro _ ⟨i, w, rfl, hi, hw, hW⟩
    have hp := pow_n hn
    obtain ⟨v, v1, _⟩ := at_ex k hl (i := 23) (by omega)
    obtain ⟨t, t1, t2⟩ := pick_ex k v (m := 3) (by decide) (by decide)
    by_cases hc : (i : Int) < 1 + t
    · left
      refine step_of ?_
      unfold pyxhand_Policy.l22.once
      dsimp only
      rw [v1, Option.bind_some, t1, Option.bind_some, wrapi (n := 1 + t) (by omega), ct hc]
      refine bex _ (at_w k hl (by omega)) fun v1 _ => ?_
      rw [cf (by rw [wrapu (by omega)]; omega), hp.1]
      refine bex _ (pick_ex k _ (m := 2 ^ n) (by omega) (by omega)) fun q hq => ?_
      refine bex _ (at_w k hl (by omega)) fun v2 _ => ?_
      refine bex _ (pick_ex k _ (by decide) (by decide)) fun lv hlv => ?_
      refine bex _ (at_w k hl (by omega)) fun v3 _ => ?_
      refine bex _ (pick_ex k _ (by decide) (by decide)) fun ro hro => ?_
      rw [okLen_t' (by rw [hw]; simp only [List.length_cons, List.length_nil]; omega), cond_true, wrapi (by omega), wrapu (by omega), wrapu (by omega)]
      refine ⟨_, rfl, _, rfl, ⟨i + 1, _, rfl, by omega, by rw [List.length_append, hw]; rfl, fun x hx => ?_⟩, by dsimp only; omega⟩
      rcases List.mem_append.1 hx with hx | hx
      · exact hW x hx
      · simp only [List.mem_cons, List.not_mem_nil, or_false] at hx
        subst hx
        unfold WhoOk
        dsimp only
        omega
    · right
      unfold pyxhand_Policy.l22.once
      dsimp only
      rw [v1, Option.bind_some, t1, Option.bind_some, wrapi (n := 1 + t) (by omega), cf hc]
      exact ⟨_, rfl, w, rfl, by omega, hW⟩) k _ ⟨0, [w0], rfl, by omega, rfl, fun x hx => by simp only [List.mem_cons, List.not_mem_nil, or_false] at hx; subst hx; exact h0⟩ (by dsimp only; omega)
def units : List Sapi_Dec := [⟨false, (1, 0), 0⟩, ⟨false, (100, 0), 0⟩, ⟨false, (5, 0), 1⟩, ⟨false, (2500, 0), 2⟩]
/-- A rule, of n entities and m groups. -/
def RuleOk (n m : Nat) (r : Sapi_Rule) : Prop := (0 ≤ r.f_Role ∧ r.f_Role ≤ 3) ∧
  (((r.f_Tag = 1 ∨ r.f_Tag = 2) ∧ r.f_Group = 0 ∧ r.f_Line = 0 ∧ r.f_Unit = ⟨false, (0, 0), 0⟩ ∧ r.f_To = ⟨0, 0⟩ ∧ (1 ≤ r.f_Verb ∧ r.f_Verb ≤ 3) ∧ (-1 ≤ r.f_Ent ∧ r.f_Ent < n)) ∨
   (r.f_Tag = 3 ∧ r.f_Verb = 0 ∧ r.f_Ent = -1 ∧ (0 ≤ r.f_Group ∧ r.f_Group < m) ∧ (0 ≤ r.f_Line ∧ r.f_Line ≤ 5) ∧ r.f_Unit ∈ units ∧ (0 ≤ r.f_To.f_Set ∧ r.f_To.f_Set < 256) ∧ (0 ≤ r.f_To.f_Level ∧ r.f_To.f_Level ≤ 3)))
theorem Pol_rules (z4 : List Sapi_Ent) (z5 : List Int) (z6 : List Sapi_Who) (z7 : List Int) (z8 : List Sapi_Rule) (e : List Sapi_Ent) (g : List Int) (w : List Sapi_Who) (u : List Int) :
    ∃ y, iter (pyxhand_Policy.l26.once k) k (l, (n : Int), 1, z4, z5, z6, z7, z8, e, g, w, u, []) = some y ∧ ∃ r, y = (l, (n : Int), z4, z5, z6, z7, z8, e, g, w, u, r) ∧ r.length = 6 ∧ ∀ x ∈ r, RuleOk n g.length x := by
  refine iter_rule (once := pyxhand_Policy.l26.once k) (fun st => ∃ (i : Nat) (r : List Sapi_Rule), st = (l, (n : Int), ((i + 1 : Nat) : Int), z4, z5, z6, z7, z8, e, g, w, u, r) ∧ i ≤ 3 ∧ r.length = 2 * i ∧ ∀ x ∈ r, RuleOk n g.length x) (fun st => 4 - st.2.2.1.toNat) _ (by
    rintro _ ⟨i, r, rfl, hi, hr, hR⟩
    by_cases hc : i < 3
    · left
      refine step_of ?_
      unfold pyxhand_Policy.l26.once
      dsimp only
      rw [ct (by omega)]
      refine bex _ (at_w k hl (by omega)) fun v1 _ => ?_
      refine bex _ (pick_ex k _ (m := (n : Int)) (by omega) (by omega)) fun q hq => ?_
      rw [okLen_t' (by rw [hr]; simp only [List.length_cons, List.length_nil]; omega), cond_true, wrapi (by omega)]
      refine ⟨_, rfl, _, rfl, ⟨i + 1, _, rfl, by omega, by rw [List.length_append, hr]; simp only [List.length_cons, List.length_nil]; omega, fun x hx => ?_⟩, by dsimp only; omega⟩
      rcases List.mem_append.1 hx with hx | hx
      · exact hR x hx
      · simp only [List.mem_cons, List.not_mem_nil, or_false] at hx
        rcases hx with rfl | rfl
        · exact ⟨by dsimp only; omega, .inl ⟨.inl rfl, rfl, rfl, rfl, rfl, by dsimp only; omega, by dsimp only; omega⟩⟩
        · exact ⟨by dsimp only; omega, .inl ⟨.inl rfl, rfl, rfl, rfl, rfl, by dsimp only; omega, by dsimp only; omega⟩⟩
    · right
      unfold pyxhand_Policy.l26.once
      dsimp only
      rw [cf (by omega)]
      exact ⟨_, rfl, r, rfl, by omega, hR⟩) k _ ⟨0, [], rfl, by omega, rfl, fun x hx => absurd hx List.not_mem_nil⟩ (by dsimp only; omega)
theorem Pol_more (z4 : List Sapi_Ent) (z5 : List Int) (z6 : List Sapi_Who) (z7 : List Int) (z8 : List Sapi_Rule) (e : List Sapi_Ent) (g : List Int) (w : List Sapi_Who) (u : List Int) {r0 : List Sapi_Rule} (h0 : r0.length = 6) (h1 : ∀ x ∈ r0, RuleOk n g.length x) :
    ∃ y, iter (pyxhand_Policy.l30.once k) k (l, (n : Int), 0, z4, z5, z6, z7, z8, e, g, w, u, r0) = some y ∧ ∃ r, y = (l, (n : Int), z4, z5, z6, z7, z8, e, g, w, u, r) ∧ (6 ≤ r.length ∧ r.length ≤ 10) ∧ ∀ x ∈ r, RuleOk n g.length x := by
  refine iter_rule (once := pyxhand_Policy.l30.once k) (fun st => ∃ (i : Nat) (r : List Sapi_Rule), st = (l, (n : Int), (i : Int), z4, z5, z6, z7, z8, e, g, w, u, r) ∧ i ≤ 4 ∧ r.length = 6 + i ∧ ∀ x ∈ r, RuleOk n g.length x) (fun st => 4 - st.2.2.1.toNat) _ (by
    rintro _ ⟨i, r, rfl, hi, hr, hR⟩
    obtain ⟨v, v1, _⟩ := at_ex k hl (i := 37) (by omega)
    obtain ⟨t, t1, t2⟩ := pick_ex k v (m := 5) (by decide) (by decide)
    by_cases hc : (i : Int) < t
    · left
      refine step_of ?_
      unfold pyxhand_Policy.l30.once
      dsimp only
      rw [v1, Option.bind_some, t1, Option.bind_some, ct hc]
      refine bex _ (at_w k hl (by omega)) fun v1 _ => ?_
      refine bex _ (pick_ex k _ (by decide) (by decide)) fun q1 hq1 => ?_
      refine bex _ (at_w k hl (by omega)) fun v2 _ => ?_
      refine bex _ (pick_ex k _ (by decide) (by decide)) fun q2 hq2 => ?_
      refine bex _ (at_w k hl (by omega)) fun v3 _ => ?_
      refine bex _ (pick_ex k _ (by decide) (by decide)) fun q3 hq3 => ?_
      refine bex _ (at_w k hl (by omega)) fun v4 _ => ?_
      rw [wrapi (n := (n : Int) + 1) (by omega)]
      refine bex _ (pick_ex k _ (m := (n : Int) + 1) (by omega) (by omega)) fun q4 hq4 => ?_
      rw [okLen_t' (by rw [hr]; simp only [List.length_cons, List.length_nil]; omega), cond_true, wrapi (n := (i : Int) + 1) (by omega), wrapi (n := 1 + q1) (by omega), wrapi (n := 1 + q2) (by omega), wrapi (n := 1 + q3) (by omega), wrapi (n := q4 - 1) (by omega)]
      refine ⟨_, rfl, _, rfl, ⟨i + 1, _, rfl, by omega, by rw [List.length_append, hr]; simp only [List.length_cons, List.length_nil]; omega, fun x hx => ?_⟩, by dsimp only; omega⟩
      rcases List.mem_append.1 hx with hx | hx
      · exact hR x hx
      · simp only [List.mem_cons, List.not_mem_nil, or_false] at hx
        subst hx
        exact ⟨by dsimp only; omega, .inl ⟨by dsimp only; omega, rfl, rfl, rfl, rfl, by dsimp only; omega, by dsimp only; omega⟩⟩
    · right
      unfold pyxhand_Policy.l30.once
      dsimp only
      rw [v1, Option.bind_some, t1, Option.bind_some, cf hc]
      exact ⟨_, rfl, r, rfl, by omega, hR⟩) k _ ⟨0, r0, rfl, by omega, h0, h1⟩ (by dsimp only; omega)
theorem Pol_release (z4 : List Sapi_Ent) (z5 : List Int) (z6 : List Sapi_Who) (z7 : List Int) (z8 : List Sapi_Rule) (e : List Sapi_Ent) (g : List Int) (w : List Sapi_Who) (u : List Int) {r0 : List Sapi_Rule} (hg : 1 ≤ g.length ∧ g.length ≤ 4) (h0 : 6 ≤ r0.length ∧ r0.length ≤ 10) (h1 : ∀ x ∈ r0, RuleOk n g.length x) :
    ∃ y, iter (pyxhand_Policy.l35.once k) k (l, (n : Int), 0, z4, z5, z6, z7, z8, e, g, w, u, r0) = some y ∧ ∃ r, y = (z4, z5, z6, z7, z8, e, g, w, u, r) ∧ (6 ≤ r.length ∧ r.length ≤ 13) ∧ ∀ x ∈ r, RuleOk n g.length x := by
  refine iter_rule (once := pyxhand_Policy.l35.once k) (fun st => ∃ (i : Nat) (r : List Sapi_Rule), st = (l, (n : Int), (i : Int), z4, z5, z6, z7, z8, e, g, w, u, r) ∧ i ≤ 3 ∧ r.length = r0.length + i ∧ ∀ x ∈ r, RuleOk n g.length x) (fun st => 3 - st.2.2.1.toNat) _ (by
    rintro _ ⟨i, r, rfl, hi, hr, hR⟩
    have hp := pow_n hn
    obtain ⟨v, v1, _⟩ := at_ex k hl (i := 54) (by omega)
    obtain ⟨t, t1, t2⟩ := pick_ex k v (m := 3) (by decide) (by decide)
    obtain ⟨u1, u2, u3, u4⟩ := Of_units k hk
    by_cases hc : (i : Int) < 1 + t
    · left
      refine step_of ?_
      unfold pyxhand_Policy.l35.once
      dsimp only
      rw [v1, Option.bind_some, t1, Option.bind_some, wrapi (n := 1 + t) (by omega), ct hc]
      refine bex (fun y => ∃ x, RuleOk n g.length x ∧ y = (l, (n : Int), (i : Int), z4, z5, z6, z7, z8, e, g, w, u, r ++ [x])) ?_ ?_
      · refine bex _ (at_w k hl (by omega)) fun v1 _ => ?_
        refine bex _ (pick_ex k _ (by decide) (by decide)) fun q1 hq1 => ?_
        refine bex (fun y => ∃ s lv : Int, ((0 ≤ s ∧ s < 256) ∧ (0 ≤ lv ∧ lv ≤ 3)) ∧ y = (l, (n : Int), (i : Int), z4, z5, z6, z7, z8, e, g, w, u, r, s, lv)) ?_ ?_
        · cases (q1 == 2) with
          | false => exact ⟨_, rfl, 0, 0, by omega, rfl⟩
          | true =>
            rw [cond_true]
            refine bex _ (at_w k hl (by omega)) fun v1 _ => ?_
            rw [cf (by rw [wrapu (by omega)]; omega), hp.1]
            refine bex _ (pick_ex k _ (m := 2 ^ n) (by omega) (by omega)) fun q hq => ?_
            refine bex _ (at_w k hl (by omega)) fun v2 _ => ?_
            refine bex _ (pick_ex k _ (by decide) (by decide)) fun lv hlv => ?_
            rw [wrapu (by omega)]
            exact ⟨_, rfl, q, lv, by omega, rfl⟩
        · rintro _ ⟨s, lv, hs, rfl⟩
          dsimp only
          refine bex _ (at_w k hl (by omega)) fun v1 _ => ?_
          refine bex _ (pick_ex k _ (by decide) (by decide)) fun q1 hq1 => ?_
          refine bex _ (at_w k hl (by omega)) fun v2 _ => ?_
          refine bex _ (pick_ex k _ (m := (g.length : Int)) (by omega) (by omega)) fun q2 hq2 => ?_
          refine bex _ (at_w k hl (by omega)) fun v3 _ => ?_
          refine bex _ (pick_ex k _ (by decide) (by decide)) fun q3 hq3 => ?_
          rw [u1, Option.bind_some, u2, Option.bind_some, u3, Option.bind_some, u4, Option.bind_some]
          refine bex _ (at_w k hl (by omega)) fun v4 _ => ?_
          refine bex _ (pick_ex k _ (by decide) (by decide)) fun q4 hq4 => ?_
          rw [inb_t hq4.1 hq4.2, cond_true, okLen_t' (by rw [hr]; simp only [List.length_cons, List.length_nil]; omega), cond_true]
          have hq : 0 ≤ (if 1 < (i : Int) then 1 else (i : Int)) * q1 ∧ (if 1 < (i : Int) then 1 else (i : Int)) * q1 ≤ 3 := by
            by_cases h : 1 < (i : Int)
            · rw [if_pos h]; omega
            · rw [if_neg h]
              have : (i : Int) = 0 ∨ (i : Int) = 1 := by omega
              rcases this with e | e <;> rw [e] <;> omega
          rw [wrapi (by omega)]
          have hu : List.getD units (Int.toNat q4) Sapi_Dec.zero ∈ units := by
            have : q4 = 0 ∨ q4 = 1 ∨ q4 = 2 ∨ q4 = 3 := by omega
            unfold units
            rcases this with rfl | rfl | rfl | rfl <;> simp
          exact ⟨_, rfl, _, ⟨by dsimp only; omega, .inr ⟨rfl, rfl, rfl, by dsimp only; omega, by dsimp only; omega, hu, by dsimp only; omega, by dsimp only; omega⟩⟩, rfl⟩
      · rintro _ ⟨x, hx, rfl⟩
        dsimp only
        rw [wrapi (by omega)]
        refine ⟨_, rfl, _, rfl, ⟨i + 1, _, rfl, by omega, by rw [List.length_append, hr]; simp only [List.length_cons, List.length_nil]; omega, fun y hy => ?_⟩, by dsimp only; omega⟩
        rcases List.mem_append.1 hy with hy | hy
        · exact hR y hy
        · simp only [List.mem_cons, List.not_mem_nil, or_false] at hy
          subst hy
          exact hx
    · right
      unfold pyxhand_Policy.l35.once
      dsimp only
      rw [v1, Option.bind_some, t1, Option.bind_some, wrapi (n := 1 + t) (by omega), cf hc]
      exact ⟨_, rfl, r, rfl, by omega, hR⟩) k _ ⟨0, r0, rfl, by omega, rfl, h1⟩ (by dsimp only; omega)
end
structure PolOk (p : Sapi_Policy) : Prop where
  ents : 2 ≤ p.f_Ents.length ∧ p.f_Ents.length ≤ 4
  entsOk : EntsOk p.f_Ents
  groups : 1 ≤ p.f_Groups.length ∧ p.f_Groups.length ≤ 4
  groupsOk : ∀ x ∈ p.f_Groups, 0 < x ∧ x < 2 ^ p.f_Ents.length
  who : 2 ≤ p.f_Who.length ∧ p.f_Who.length ≤ 4
  whoOk : ∀ x ∈ p.f_Who, WhoOk x
  up : ∃ a b : Int, p.f_Up = [-1, a, b, -1] ∧ (-1 ≤ a ∧ a ≤ 0) ∧ (-1 ≤ b ∧ b ≤ 1)
  rules : p.f_Rules.length ≤ 32
  rulesOk : ∀ x ∈ p.f_Rules, RuleOk p.f_Ents.length p.f_Groups.length x
theorem Policy_ok {k : Nat} (hk : 1000 < k) {l : List Int} (hl : l.length ≤ 9223372036854775807) : ∃ p, pyxhand_Policy.f k l = some p ∧ PolOk p ∧ p.f_Rules.length ≤ 13 := by
  unfold pyxhand_Policy.f
  refine bex _ (at_ex k hl (by omega)) fun v1 _ => ?_
  refine bex _ (pick_ex k _ (by decide) (by decide)) fun q hq => ?_
  rw [wrapi (by omega)]
  obtain ⟨n, hn⟩ : ∃ n : Nat, 2 + q = (n : Int) := ⟨(2 + q).toNat, by omega⟩
  have hn2 : 2 ≤ n ∧ n ≤ 4 := by omega
  have hp := pow_n hn2
  rw [hn]
  refine bex _ (Pol_ents hk hl hn2 _ _ _ _ _ _ _ _ _) ?_
  rintro _ ⟨e, rfl, e1, e2⟩
  dsimp only
  rw [cf (by rw [wrapu (by omega)]; omega)]
  have hg0 : IntKind.wrap .u64 ((IntKind.wrap .u64 (1 * 2 ^ (min (Int.toNat (IntKind.wrap .u64 (n : Int))) 64))) - 1) = 2 ^ n - 1 := by
    have : n = 2 ∨ n = 3 ∨ n = 4 := by omega
    rcases this with rfl | rfl | rfl <;> decide
  rw [hg0]
  refine bex _ (Pol_groups hk hl hn2 _ _ _ _ _ _ _ _ _ (by omega)) ?_
  rintro _ ⟨g, rfl, g1, g2⟩
  dsimp only
  refine bex _ (at_ex k hl (by omega)) fun v2 _ => ?_
  refine bex _ (pick_ex k _ (by decide) (by decide)) fun a ha => ?_
  refine bex _ (at_ex k hl (by omega)) fun v3 _ => ?_
  refine bex _ (pick_ex k _ (by decide) (by decide)) fun b hb => ?_
  rw [wrapi (by omega), wrapi (by omega)]
  refine bex _ (Pol_who hk hl hn2 _ _ _ _ _ _ _ _ _ (by unfold WhoOk; decide)) ?_
  rintro _ ⟨w, rfl, w1, w2⟩
  dsimp only
  refine bex _ (Pol_rules hk hl hn2 _ _ _ _ _ _ _ _ _) ?_
  rintro _ ⟨r, rfl, r1, r2⟩
  dsimp only
  refine bex _ (Pol_more hk hl hn2 _ _ _ _ _ _ _ _ _ r1 r2) ?_
  rintro _ ⟨r', rfl, r3, r4⟩
  dsimp only
  refine bex _ (Pol_release hk hl hn2 _ _ _ _ _ _ _ _ _ g1 r3 r4) ?_
  rintro _ ⟨r'', rfl, r5, r6⟩
  dsimp only
  refine ⟨_, rfl, ⟨by dsimp only; omega, e2, g1, by dsimp only; rw [e1]; exact g2, w1, w2, ⟨_, _, rfl, by omega, by omega⟩, by dsimp only; omega, by dsimp only; rw [e1]; exact r6⟩, r5.2⟩
end Go.Proofs.Ythknecaigoilmaa.Pure
