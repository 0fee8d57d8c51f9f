/- Chapter 19: parts and tops of entities, by the program and by the plain sums. No conditions but size. -/
import Derived.Test.YthknecaigoilmaaDeB
namespace Go.Proofs.Ythknecaigoilmaa.Pure
set_option linter.unusedVariables false
set_option linter.unusedSimpArgs false
open Go Go.Ev Go.Lm Go.Pu Go.Dg
noncomputable abbrev En (l : List Sapi_Ent) (i : Nat) : Sapi_Ent := l.getD i Sapi_Ent.zero
def okE (e : Sapi_Ent) (i : Nat) : Bool := decide (0 ≤ e.f_Level ∧ e.f_Level ≤ 3 ∧ 0 ≤ e.f_Scale ∧ e.f_Scale ≤ 4 ∧ -1 ≤ e.f_Parent ∧ e.f_Parent < i ∧ 1 ≤ e.f_Share ∧ e.f_Share ≤ 10000 ∧ (e.f_Parent = -1 → e.f_Share = 10000))
def OkL (l : List Sapi_Ent) : Prop := ∀ i, i < l.length → okE (En l i) i = true
theorem okE_t {e : Sapi_Ent} {i : Nat} (h : okE e i = true) : 0 ≤ e.f_Level ∧ e.f_Level ≤ 3 ∧ 0 ≤ e.f_Scale ∧ e.f_Scale ≤ 4 ∧ -1 ≤ e.f_Parent ∧ e.f_Parent < i ∧ 1 ≤ e.f_Share ∧ e.f_Share ≤ 10000 ∧ (e.f_Parent = -1 → e.f_Share = 10000) := of_decide_eq_true h
theorem within_eq (k : Nat) (a lo hi : Int) : own_within.f k a lo hi = some (decide (lo ≤ a ∧ a ≤ hi)) := by
  unfold own_within.f
  by_cases h : lo ≤ a
  · rw [ct h]; by_cases h' : a ≤ hi
    · rw [decide_eq_true h', decide_eq_true ⟨h, h'⟩]
    · rw [decide_eq_false h', decide_eq_false (fun h => h' h.2)]
  · rw [cf h, decide_eq_false (fun h' => h h'.1)]
theorem oright_once {l : List Sapi_Ent} (i : Int) {j : Nat} (hj : j < l.length) (hL : l.length ≤ 600) : own_right.l2.once 700 (l, i, l, (l.length : Int), (j : Int)) = cond (okE (En l j) j) (some (.inl (l, i, l, (l.length : Int), ((j + 1 : Nat) : Int)))) (some (.inr (.inr false))) := by
  unfold own_right.l2.once
  dsimp only
  rw [ct (by omega), inb_t (by omega) (by omega), cond_true, Int.toNat_natCast, wrapi (n := (j : Int) - 1) (by omega)]
  unfold En
  generalize l.getD j Sapi_Ent.zero = e
  refine bind_of (v := (l, i, l, (l.length : Int), (j : Int), !okE e j)) ?_ ?_
  · rw [within_eq, Option.bind_some]
    by_cases h1 : 0 ≤ e.f_Level ∧ e.f_Level ≤ 3
    · rw [decide_eq_true h1, Bool.not_true, cond_false, within_eq, Option.bind_some]
      by_cases h2 : 0 ≤ e.f_Scale ∧ e.f_Scale ≤ 4
      · rw [decide_eq_true h2, Bool.not_true, cond_false, within_eq, Option.bind_some]
        by_cases h3 : -1 ≤ e.f_Parent ∧ e.f_Parent ≤ (j : Int) - 1
        · rw [decide_eq_true h3, Bool.not_true, cond_false, within_eq, Option.bind_some]
          by_cases h4 : 1 ≤ e.f_Share ∧ e.f_Share ≤ 10000
          · rw [decide_eq_true h4, Bool.not_true, cond_false]
            by_cases h5 : e.f_Parent = -1
            · rw [h5, beq_self_eq_true, cond_true]
              by_cases h6 : e.f_Share = 10000
              · rw [show okE e j = true from decide_eq_true (by omega), h6]; rfl
              · rw [show okE e j = false from decide_eq_false (by omega), show (e.f_Share != 10000) = true by simp [h6]]; rfl
            · rw [show (e.f_Parent == -1) = false by simp [h5], cond_false, show okE e j = true from decide_eq_true (by omega)]; rfl
          · rw [decide_eq_false h4, show okE e j = false from decide_eq_false (by omega)]; rfl
        · rw [decide_eq_false h3, show okE e j = false from decide_eq_false (by omega)]; rfl
      · rw [decide_eq_false h2, show okE e j = false from decide_eq_false (by omega)]; rfl
    · rw [decide_eq_false h1, show okE e j = false from decide_eq_false (by omega)]; rfl
  · dsimp only
    rw [wrapi (by omega)]
    cases okE e j <;> rfl
theorem oright_eq {l : List Sapi_Ent} (hL : l.length ≤ 600) (i : Int) (hi : -100 ≤ i ∧ i ≤ 1000) : ∃ b, own_right.f 700 l i = some b ∧ (b = true ↔ OkL l ∧ 1 ≤ l.length ∧ l.length ≤ 8 ∧ 0 ≤ i ∧ i < l.length) := by
  unfold own_right.f
  obtain ⟨y, e1, e2⟩ := iter_rule (once := own_right.l2.once 700) (fun x => ∃ j : Nat, x = (l, i, l, (l.length : Int), (j : Int)) ∧ j ≤ l.length ∧ ∀ t, t < j → okE (En l t) t = true) (fun x => l.length - x.2.2.2.2.toNat) (fun y => (y = .inl (l, i) ∧ OkL l) ∨ (y = .inr false ∧ ¬ OkL l)) (by
    rintro x ⟨j, rfl, hj, ht⟩
    by_cases h : j < l.length
    · have o := oright_once i h hL
      cases he : okE (En l j) j with
      | true =>
        rw [he, cond_true] at o
        left
        refine ⟨_, o, ⟨j + 1, rfl, by omega, fun t h' => ?_⟩, by dsimp only; omega⟩
        by_cases e : t = j
        · rw [e, he]
        · exact ht t (by omega)
      | false =>
        rw [he, cond_false] at o
        right
        exact ⟨_, o, .inr ⟨rfl, fun hk => by rw [hk j h] at he; cases he⟩⟩
    · right
      refine ⟨.inl (l, i), ?_, .inl ⟨rfl, fun t h' => ht t (by omega)⟩⟩
      unfold own_right.l2.once
      dsimp only
      rw [cf (by omega)]) 700 (l, i, l, (l.length : Int), ((0 : Nat) : Int)) ⟨0, rfl, by omega, fun t h => by omega⟩ (by dsimp only; omega)
  have e1' : iter (own_right.l2.once 700) 700 (l, i, l, (l.length : Int), 0) = some y := e1
  rw [e1', Option.bind_some]
  rcases e2 with ⟨rfl, h⟩ | ⟨rfl, h⟩
  · dsimp only
    rw [within_eq, Option.bind_some, wrapi (by omega)]
    by_cases h1 : (1 : Int) ≤ (l.length : Int) ∧ (l.length : Int) ≤ 8
    · rw [decide_eq_true h1, cond_true, within_eq, Option.bind_some]
      refine ⟨_, rfl, ?_⟩
      rw [decide_eq_true_eq]
      exact ⟨fun h2 => ⟨h, by omega, by omega, by omega, by omega⟩, fun h2 => by omega⟩
    · rw [decide_eq_false h1, cond_false]
      exact ⟨_, rfl, (fun h => by cases h), fun h2 => by omega⟩
  · exact ⟨_, rfl, (fun h => by cases h), fun h2 => absurd h2.1 h⟩
theorem rright_once {l : List Sapi_Ent} {j : Nat} (hj : j < l.length) (hL : l.length ≤ 600) : pyxref11_RightEnts.l2.once 700 (l, (j : Int)) = cond (okE (En l j) j) (some (.inl (l, ((j + 1 : Nat) : Int)))) (some (.inr (.inr false))) := by
  unfold pyxref11_RightEnts.l2.once
  dsimp only
  rw [ct (by omega), inb_t (by omega) (by omega), cond_true, Int.toNat_natCast]
  unfold En
  generalize l.getD j Sapi_Ent.zero = e
  refine bind_of (v := (l, (j : Int), !okE e j)) ?_ ?_
  · by_cases h1 : e.f_Level < 0
    · rw [ct h1, show okE e j = false from decide_eq_false (by omega)]; rfl
    rw [cf h1]
    by_cases h2 : e.f_Level > 3
    · rw [ct h2, show okE e j = false from decide_eq_false (by omega)]; rfl
    rw [cf h2]
    by_cases h3 : e.f_Scale < 0
    · rw [ct h3, show okE e j = false from decide_eq_false (by omega)]; rfl
    rw [cf h3]
    by_cases h4 : e.f_Scale > 4
    · rw [ct h4, show okE e j = false from decide_eq_false (by omega)]; rfl
    rw [cf h4]
    by_cases h5 : e.f_Parent < -1
    · rw [ct h5, show okE e j = false from decide_eq_false (by omega)]; rfl
    rw [cf h5]
    by_cases h6 : e.f_Parent ≥ (j : Int)
    · rw [ct h6, show okE e j = false from decide_eq_false (by omega)]; rfl
    rw [cf h6]
    by_cases h7 : e.f_Share < 1
    · rw [ct h7, show okE e j = false from decide_eq_false (by omega)]; rfl
    rw [cf h7]
    by_cases h8 : e.f_Share > 10000
    · rw [ct h8, show okE e j = false from decide_eq_false (by omega)]; rfl
    rw [cf h8]
    by_cases h9 : e.f_Parent < 0
    · rw [ct h9]
      by_cases h10 : e.f_Share = 10000
      · rw [show okE e j = true from decide_eq_true (by omega), h10]; rfl
      · rw [show okE e j = false from decide_eq_false (by omega), show (e.f_Share != 10000) = true by simp [h10]]; rfl
    · rw [cf h9, show okE e j = true from decide_eq_true (by omega)]; rfl
  · dsimp only
    rw [wrapi (by omega)]
    cases okE e j <;> rfl
theorem rright_eq {l : List Sapi_Ent} (hL : l.length ≤ 600) : ∃ b, pyxref11_RightEnts.f 700 l = some b ∧ (b = true ↔ OkL l ∧ 1 ≤ l.length ∧ l.length ≤ 8) := by
  unfold pyxref11_RightEnts.f
  obtain ⟨y, e1, e2⟩ := iter_rule (once := pyxref11_RightEnts.l2.once 700) (fun x => ∃ j : Nat, x = (l, (j : Int)) ∧ j ≤ l.length ∧ ∀ t, t < j → okE (En l t) t = true) (fun x => l.length - x.2.toNat) (fun y => (y = .inl l ∧ OkL l) ∨ (y = .inr false ∧ ¬ OkL l)) (by
    rintro x ⟨j, rfl, hj, ht⟩
    by_cases h : j < l.length
    · have o := rright_once h hL
      cases he : okE (En l j) j with
      | true =>
        rw [he, cond_true] at o
        left
        refine ⟨_, o, ⟨j + 1, rfl, by omega, fun t h' => ?_⟩, by dsimp only; omega⟩
        by_cases e : t = j
        · rw [e, he]
        · exact ht t (by omega)
      | false =>
        rw [he, cond_false] at o
        right
        exact ⟨_, o, .inr ⟨rfl, fun hk => by rw [hk j h] at he; cases he⟩⟩
    · right
      refine ⟨.inl l, ?_, .inl ⟨rfl, fun t h' => ht t (by omega)⟩⟩
      unfold pyxref11_RightEnts.l2.once
      dsimp only
      rw [cf (by omega)]) 700 (l, ((0 : Nat) : Int)) ⟨0, rfl, by omega, fun t h => by omega⟩ (by dsimp only; omega)
  have e1' : iter (pyxref11_RightEnts.l2.once 700) 700 (l, 0) = some y := e1
  rw [e1', Option.bind_some]
  rcases e2 with ⟨rfl, h⟩ | ⟨rfl, h⟩
  · dsimp only
    by_cases h1 : (l.length : Int) ≥ 1
    · rw [ct h1]
      refine ⟨_, rfl, ?_⟩
      rw [decide_eq_true_eq]
      exact ⟨fun h2 => ⟨h, by omega, by omega⟩, fun h2 => by omega⟩
    · rw [cf h1]
      exact ⟨_, rfl, (fun h => by cases h), fun h2 => by omega⟩
  · exact ⟨_, rfl, (fun h => by cases h), fun h2 => absurd h2.1 h⟩
noncomputable def chain (l : List Sapi_Ent) : Nat → Int → Nat → Nat
  | 0, _, p => p
  | n + 1, i, p => if 0 ≤ i then chain l n (En l i.toNat).f_Parent (hev (p * (En l i.toNat).f_Share.toNat) 10000) else p
noncomputable def top (l : List Sapi_Ent) : Nat → Int → Int
  | 0, i => i
  | n + 1, i => if 0 ≤ (En l i.toNat).f_Parent then top l n (En l i.toNat).f_Parent else i
theorem ok_at {l : List Sapi_Ent} (h : OkL l) {i : Int} (h0 : 0 ≤ i) (h1 : i < l.length) : -1 ≤ (En l i.toNat).f_Parent ∧ (En l i.toNat).f_Parent < i ∧ 1 ≤ (En l i.toNat).f_Share ∧ (En l i.toNat).f_Share ≤ 10000 ∧ ((En l i.toNat).f_Parent = -1 → (En l i.toNat).f_Share = 10000) := by
  have := okE_t (h i.toNat (by omega))
  exact ⟨this.2.2.2.2.1, by omega, by omega, by omega, this.2.2.2.2.2.2.2.2⟩
theorem hev_share {p s : Nat} (hs : s ≤ 10000) : hev (p * s) 10000 ≤ p := hev_le (by decide) (Nat.mul_le_mul_left p hs)
theorem chain_le {l : List Sapi_Ent} (h : OkL l) : ∀ (n : Nat) (i : Int) (p : Nat), i < l.length → chain l n i p ≤ p := by
  intro n
  induction n with
  | zero => intro i p _; exact Nat.le_refl _
  | succ n ih =>
    intro i p hi
    unfold chain
    by_cases h0 : 0 ≤ i
    · have o := ok_at h h0 hi
      rw [if_pos h0]
      exact Nat.le_trans (ih _ _ (by omega)) (hev_share (by omega))
    · rw [if_neg h0]; exact Nat.le_refl _
theorem chain_fuel {l : List Sapi_Ent} (h : OkL l) : ∀ (n m : Nat) (i : Int) (p : Nat), i < l.length → i < n → i < m → chain l n i p = chain l m i p := by
  intro n
  induction n with
  | zero =>
    intro m i p _ hn _
    cases m with
    | zero => rfl
    | succ m => unfold chain; rw [if_neg (by omega)]
  | succ n ih =>
    intro m i p hi hn hm
    cases m with
    | zero => unfold chain; rw [if_neg (by omega)]
    | succ m =>
      unfold chain
      by_cases h0 : 0 ≤ i
      · have o := ok_at h h0 hi
        rw [if_pos h0, if_pos h0]
        exact ih m _ _ (by omega) (by omega) (by omega)
      · rw [if_neg h0, if_neg h0]
theorem top_fuel {l : List Sapi_Ent} (h : OkL l) : ∀ (n m : Nat) (i : Int), 0 ≤ i → i < l.length → i < n → i < m → top l n i = top l m i := by
  intro n
  induction n with
  | zero => intro m i _ _ hn _; omega
  | succ n ih =>
    intro m i h0 hi hn hm
    cases m with
    | zero => omega
    | succ m =>
      unfold top
      have o := ok_at h h0 hi
      by_cases h1 : 0 ≤ (En l i.toNat).f_Parent
      · rw [if_pos h1, if_pos h1]
        exact ih m _ h1 (by omega) (by omega) (by omega)
      · rw [if_neg h1, if_neg h1]
theorem top_is {l : List Sapi_Ent} (h : OkL l) : ∀ (n : Nat) (i : Int), 0 ≤ i → i < l.length → i < n → 0 ≤ top l n i ∧ top l n i ≤ i ∧ (En l (top l n i).toNat).f_Parent = -1 := by
  intro n
  induction n with
  | zero => intro i _ _ hn; omega
  | succ n ih =>
    intro i h0 hi hn
    unfold top
    have o := ok_at h h0 hi
    by_cases h1 : 0 ≤ (En l i.toNat).f_Parent
    · rw [if_pos h1]
      have := ih _ h1 (by omega) (by omega)
      exact ⟨this.1, by omega, this.2.2⟩
    · rw [if_neg h1]
      exact ⟨h0, Int.le_refl _, by omega⟩
abbrev PS : Type := List Sapi_Ent × Int × Bool × Int × Int × Int × Bool × Int × Int × Int
abbrev PY : Type := Bool × Int × Int × Int × Bool × Int × Int × Int
theorem part_loop {once : PS → Option (PS ⊕ PY)} {l : List Sapi_Ent} (h : OkL l)
    (hs : ∀ (i : Int) (p : Nat), 0 ≤ i → i < l.length → p ≤ 1000000 → once (l, i, false, 0, 0, 0, false, (p : Int), 0, 6) = some (.inl (l, (En l i.toNat).f_Parent, false, 0, 0, 0, false, ((hev (p * (En l i.toNat).f_Share.toNat) 10000 : Nat) : Int), 0, 6)))
    (he : ∀ (i : Int) (p : Nat), i < 0 → once (l, i, false, 0, 0, 0, false, (p : Int), 0, 6) = some (.inr (false, 0, 0, 0, false, (p : Int), 0, 6))) :
    ∀ (n m : Nat) (i : Int) (p : Nat), i < l.length → i < n → n < m → p ≤ 1000000 → iter once m (l, i, false, 0, 0, 0, false, (p : Int), 0, 6) = some (false, 0, 0, 0, false, ((chain l n i p : Nat) : Int), 0, 6) := by
  intro n
  induction n with
  | zero =>
    intro m i p _ hi hm _
    obtain ⟨m, rfl⟩ : ∃ k, m = k + 1 := ⟨m - 1, by omega⟩
    exact iter_stop (he i p (by omega))
  | succ n ih =>
    intro m i p hl hi hm hp
    obtain ⟨m, rfl⟩ : ∃ k, m = k + 1 := ⟨m - 1, by omega⟩
    unfold chain
    by_cases h0 : 0 ≤ i
    · have o := ok_at h h0 hl
      have := hev_share (p := p) (s := (En l i.toNat).f_Share.toNat) (by omega)
      rw [iter_step (hs i p h0 hl hp), if_pos h0]
      exact ih m _ _ (by omega) (by omega) (by omega) (by omega)
    · rw [if_neg h0]
      exact iter_stop (he i p (by omega))
theorem top_loop {once : List Sapi_Ent × Int → Option ((List Sapi_Ent × Int) ⊕ Int)} {l : List Sapi_Ent} (h : OkL l)
    (hs : ∀ i : Int, 0 ≤ i → i < l.length → once (l, i) = cond (decide ((En l i.toNat).f_Parent ≥ 0)) (some (.inl (l, (En l i.toNat).f_Parent))) (some (.inr i))) :
    ∀ (n m : Nat) (i : Int), 0 ≤ i → i < l.length → i < n → n < m → iter once m (l, i) = some (top l n i) := by
  intro n
  induction n with
  | zero => intro m i _ _ hn; omega
  | succ n ih =>
    intro m i h0 hl hi hm
    obtain ⟨m, rfl⟩ : ∃ k, m = k + 1 := ⟨m - 1, by omega⟩
    have o := ok_at h h0 hl
    have s := hs i h0 hl
    unfold top
    by_cases h1 : 0 ≤ (En l i.toNat).f_Parent
    · rw [ct h1] at s
      rw [iter_step s, if_pos h1]
      exact ih m _ h1 (by omega) (by omega) (by omega)
    · rw [cf h1] at s
      rw [iter_stop s, if_neg h1]
theorem otop_once {l : List Sapi_Ent} {i : Int} (h0 : 0 ≤ i) (h1 : i < l.length) : own_Top.l3.once 700 (l, i) = cond (decide ((En l i.toNat).f_Parent ≥ 0)) (some (.inl (l, (En l i.toNat).f_Parent))) (some (.inr i)) := by
  unfold own_Top.l3.once
  dsimp only
  rw [inb_t h0 h1, cond_true, cond_true]
theorem rtop_once {l : List Sapi_Ent} {i : Int} (h0 : 0 ≤ i) (h1 : i < l.length) : pyxref11_Top.l3.once 700 (l, i) = cond (decide ((En l i.toNat).f_Parent ≥ 0)) (some (.inl (l, (En l i.toNat).f_Parent))) (some (.inr i)) := by
  unfold pyxref11_Top.l3.once
  dsimp only
  rw [inb_t h0 h1, cond_true, cond_true]
theorem opart_once {l : List Sapi_Ent} (h : OkL l) {i : Int} {p : Nat} (h0 : 0 ≤ i) (h1 : i < l.length) (hp : p ≤ 1000000) : own_Part.l4.once 700 (l, i, false, 0, 0, 0, false, (p : Int), 0, 6) = some (.inl (l, (En l i.toNat).f_Parent, false, 0, 0, 0, false, ((hev (p * (En l i.toNat).f_Share.toNat) 10000 : Nat) : Int), 0, 6)) := by
  unfold own_Part.l4.once
  dsimp only
  have o := ok_at h h0 h1
  obtain ⟨s, hs⟩ := Int.eq_ofNat_of_zero_le (show 0 ≤ (En l i.toNat).f_Share by omega)
  have t := QTimes hp (show s ≤ 10000 by omega)
  have d : dec_Of.f 700 (s : Int) 4 = some (DN s 4) := DOf_eq (n := s) (by omega) (s := 4) (by decide)
  unfold DN at *
  have t' : quant_Times.f 700 ⟨false, ((p : Int), 0), 6⟩ ⟨false, ((s : Int), 0), ((4 : Nat) : Int)⟩ 6 4 = _ := t
  rw [ct h0, inb_t h0 h1, cond_true, hs, d, Option.bind_some]
  dsimp only
  rw [t', Option.bind_some, cond_true]
  rfl
theorem rpart_once {l : List Sapi_Ent} (h : OkL l) {i : Int} {p : Nat} (h0 : 0 ≤ i) (h1 : i < l.length) (hp : p ≤ 1000000) : pyxref11_Part.l4.once 700 (l, i, false, 0, 0, 0, false, (p : Int), 0, 6) = some (.inl (l, (En l i.toNat).f_Parent, false, 0, 0, 0, false, ((hev (p * (En l i.toNat).f_Share.toNat) 10000 : Nat) : Int), 0, 6)) := by
  unfold pyxref11_Part.l4.once
  dsimp only
  have o := ok_at h h0 h1
  obtain ⟨s, hs⟩ := Int.eq_ofNat_of_zero_le (show 0 ≤ (En l i.toNat).f_Share by omega)
  have t := RTimes hp (show s ≤ 10000 by omega)
  have d : pyxref1_Of.f 700 (s : Int) 4 = some (DN s 4) := ROf_eq (n := s) (by omega) (s := 4) (by decide)
  unfold DN at *
  have t' : pyxref1_Times.f 700 ⟨false, ((p : Int), 0), 6⟩ ⟨false, ((s : Int), 0), ((4 : Nat) : Int)⟩ 6 4 = _ := t
  rw [ct h0, inb_t h0 h1, cond_true, hs, d, Option.bind_some]
  dsimp only
  rw [t', Option.bind_some, cond_true]
  rfl
/-- What a part is. -/
theorem OPart {l : List Sapi_Ent} (h : OkL l) (h1 : 1 ≤ l.length) (h8 : l.length ≤ 8) {i : Int} (hi : 0 ≤ i) (hi' : i < l.length) : own_Part.f 700 l i = some (DN (chain l 8 i 1000000) 6) := by
  unfold own_Part.f
  obtain ⟨b, b1, b2⟩ := oright_eq (l := l) (by omega) i (by omega)
  obtain rfl : b = true := b2.2 ⟨h, h1, h8, hi, hi'⟩
  have d : dec_Of.f 700 1 0 = some (DN 1 0) := DOf_eq (n := 1) (by decide) (s := 0) (by decide)
  have s : dec_Scaled.f 700 (DN 1 0) 6 = some (DN 1000000 6, 0) := DScaled (n := 1) (s := 0) (t := 6) (by decide) (by decide) (by decide) (by decide)
  have lp := part_loop h (fun i p a b c => opart_once h a b c) (fun i p a => by unfold own_Part.l4.once; dsimp only; rw [cf (by omega)]) 8 700 i 1000000 hi' (by omega) (by omega) (by omega)
  unfold DN at *
  rw [b1, Option.bind_some, Bool.not_true, cond_false, d, Option.bind_some]
  dsimp only
  rw [s, Option.bind_some]
  have lp' : iter (own_Part.l4.once 700) 700 (l, i, false, 0, 0, 0, false, ((1000000 : Nat) : Int), 0, ((6 : Nat) : Int)) = _ := lp
  dsimp only
  rw [lp', Option.bind_some]
  rfl
theorem OTop {l : List Sapi_Ent} (h : OkL l) (h1 : 1 ≤ l.length) (h8 : l.length ≤ 8) {i : Int} (hi : 0 ≤ i) (hi' : i < l.length) : own_Top.f 700 l i = some (top l 8 i) := by
  unfold own_Top.f
  obtain ⟨b, b1, b2⟩ := oright_eq (l := l) (by omega) i (by omega)
  obtain rfl : b = true := b2.2 ⟨h, h1, h8, hi, hi'⟩
  rw [b1, Option.bind_some, Bool.not_true, cond_false, top_loop h (fun i a b => otop_once a b) 8 700 i hi hi' (by omega) (by omega), Option.bind_some]
theorem RPart {l : List Sapi_Ent} (h : OkL l) (h1 : 1 ≤ l.length) (h8 : l.length ≤ 8) {i : Int} (hi : 0 ≤ i) (hi' : i < l.length) : pyxref11_Part.f 700 l i = some (DN (chain l 8 i 1000000) 6) := by
  unfold pyxref11_Part.f
  obtain ⟨b, b1, b2⟩ := rright_eq (l := l) (by omega)
  obtain rfl : b = true := b2.2 ⟨h, h1, h8⟩
  have d : pyxref1_Of.f 700 1000000 6 = some (DN 1000000 6) := ROf_eq (n := 1000000) (by decide) (s := 6) (by decide)
  have lp := part_loop h (fun i p a b c => rpart_once h a b c) (fun i p a => by unfold pyxref11_Part.l4.once; dsimp only; rw [cf (by omega)]) 8 700 i 1000000 hi' (by omega) (by omega) (by omega)
  unfold DN at *
  rw [b1, Option.bind_some, Bool.not_true, cond_false, cf (by omega), Option.bind_some]
  dsimp only
  rw [decide_eq_false (by omega), cond_false, d, Option.bind_some]
  have lp' : iter (pyxref11_Part.l4.once 700) 700 (l, i, false, 0, 0, 0, false, ((1000000 : Nat) : Int), 0, ((6 : Nat) : Int)) = _ := lp
  dsimp only
  rw [lp', Option.bind_some]
  rfl
theorem RTop {l : List Sapi_Ent} (h : OkL l) (h1 : 1 ≤ l.length) (h8 : l.length ≤ 8) {i : Int} (hi : 0 ≤ i) (hi' : i < l.length) : pyxref11_Top.f 700 l i = some (top l 8 i) := by
  unfold pyxref11_Top.f
  obtain ⟨b, b1, b2⟩ := rright_eq (l := l) (by omega)
  obtain rfl : b = true := b2.2 ⟨h, h1, h8⟩
  rw [b1, Option.bind_some, Bool.not_true, cond_false, cf (by omega), Option.bind_some]
  dsimp only
  rw [decide_eq_false (by omega), cond_false, top_loop h (fun i a b => rtop_once a b) 8 700 i hi hi' (by omega) (by omega), Option.bind_some]
/-- No right entities, or no such one. -/
theorem OPart_no {l : List Sapi_Ent} (hL : l.length ≤ 600) {i : Int} (hi : -100 ≤ i ∧ i ≤ 1000) (h : ¬ (OkL l ∧ 1 ≤ l.length ∧ l.length ≤ 8 ∧ 0 ≤ i ∧ i < l.length)) : own_Part.f 700 l i = some (DN 0 0) ∧ own_Top.f 700 l i = some (-1) := by
  obtain ⟨b, b1, b2⟩ := oright_eq hL i hi
  obtain rfl : b = false := by cases b; rfl; exact absurd (b2.1 rfl) h
  unfold own_Part.f own_Top.f
  rw [b1, Option.bind_some, Option.bind_some]
  exact ⟨rfl, rfl⟩
theorem RPart_no {l : List Sapi_Ent} (hL : l.length ≤ 600) {i : Int} (h : ¬ (OkL l ∧ 1 ≤ l.length ∧ l.length ≤ 8 ∧ 0 ≤ i ∧ i < l.length)) : pyxref11_Part.f 700 l i = some (DN 0 0) ∧ pyxref11_Top.f 700 l i = some (-1) := by
  obtain ⟨b, b1, b2⟩ := rright_eq hL
  unfold pyxref11_Part.f pyxref11_Top.f
  rw [b1, Option.bind_some, Option.bind_some]
  cases b with
  | false => exact ⟨rfl, rfl⟩
  | true =>
    have := b2.1 rfl
    rw [Bool.not_true, cond_false, cond_false]
    by_cases h0 : i < 0
    · rw [ct h0, ct h0]; exact ⟨rfl, rfl⟩
    · rw [cf h0, cf h0, decide_eq_true (show i ≥ (l.length : Int) from Decidable.byContradiction fun hc => h ⟨this.1, this.2.1, this.2.2, by omega, by omega⟩)]; exact ⟨rfl, rfl⟩
end Go.Proofs.Ythknecaigoilmaa.Pure
