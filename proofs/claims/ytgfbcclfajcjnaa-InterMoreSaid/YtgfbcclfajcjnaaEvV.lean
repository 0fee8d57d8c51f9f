import Derived.Test.YtgfbcclfajcjnaaEvU
universe u
namespace Go.Ev
set_option linter.unusedVariables false
set_option linter.unusedSimpArgs false
open Go.RowKit (Below)
variable {U : Univ} {ρ : Type}
abbrev Res (U : Univ) := Option (AV U × Eff U)
def app (o : Oper) (x : Res U) (s : St U) : St U := match x with
  | some (v, u) => (s.upd u).put o.dst v
  | none => s.put o.dst (.flat undef)
def stD : List Oper → List (Res U) → (Nat → Bool) → Nat → St U → St U
  | o :: l, x :: xs, D, i, s => stD l xs D (i + 1) (if D i then app o x s else s)
  | _, _, _, _, s => s
def Same (s s' : St U) : Prop := (∀ n, s.get n = s'.get n) ∧ ∀ n, lk s.o n = lk s'.o n
theorem Same.refl (s : St U) : Same s s := ⟨fun _ => rfl, fun _ => rfl⟩
theorem Same.symm {s s' : St U} (h : Same s s') : Same s' s := ⟨fun n => (h.1 n).symm, fun n => (h.2 n).symm⟩
theorem Same.trans {s s' s'' : St U} (h : Same s s') (h' : Same s' s'') : Same s s'' := ⟨fun n => (h.1 n).trans (h'.1 n), fun n => (h.2 n).trans (h'.2 n)⟩
theorem get_put (s : St U) (d : Option Tmp) (v : AV U) (t : Nat) : (s.put d v).get t = if d = some t then v else s.get t := by
  cases d with
  | none => simp [St.put]
  | some n =>
    show (s.set n v).get t = _
    rw [get_set]
    by_cases h : n = t
    · subst h; simp
    · simp [h]
theorem o_put (s : St U) (d : Option Tmp) (v : AV U) : (s.put d v).o = s.o := by cases d <;> rfl
theorem get_upd (s : St U) (u : Eff U) (t : Nat) : (s.upd u).get t = s.get t := by
  induction u generalizing s with
  | nil => rfl
  | cons p u ih => exact ih _
def lkU (u : Eff U) (f : Nat → Option (Obj U)) : Nat → Option (Obj U) := match u with
  | [] => f
  | (n, v) :: r => lkU r (fun m => if n = m then some v else f m)
theorem lk_upd (s : St U) (u : Eff U) (n : Nat) : lk (s.upd u).o n = lkU u (lk s.o) n := by
  induction u generalizing s with
  | nil => rfl
  | cons p u ih =>
    obtain ⟨m, v⟩ := p
    show lk ((s.setO m v).upd u).o n = _
    rw [ih]
    have : lk (s.setO m v).o = fun k => if m = k then some v else lk s.o k := funext fun k => lk_setO s m k v
    rw [this]
    rfl
theorem lkU_other {u : Eff U} {f : Nat → Option (Obj U)} {n : Nat} (h : n ∉ u.map (·.1)) : lkU u f n = f n := by
  induction u generalizing f with
  | nil => rfl
  | cons p u ih =>
    obtain ⟨m, v⟩ := p
    simp at h
    show lkU u _ n = _
    rw [ih (by simpa using h.2)]
    rw [if_neg (fun e => h.1 e.symm)]
theorem lkU_congr {u : Eff U} {f g : Nat → Option (Obj U)} {n : Nat} (h : f n = g n) : lkU u f n = lkU u g n := by
  induction u generalizing f g with
  | nil => exact h
  | cons p u ih =>
    obtain ⟨m, v⟩ := p
    exact ih (by simp only [h])
theorem lkU_in {u : Eff U} {f g : Nat → Option (Obj U)} {n : Nat} (h : n ∈ u.map (·.1)) : lkU u f n = lkU u g n := by
  induction u generalizing f g with
  | nil => simp at h
  | cons p u ih =>
    obtain ⟨m, v⟩ := p
    by_cases hm : n ∈ u.map (·.1)
    · exact ih hm
    · simp at h
      have : n = m := by
        rcases h with h | ⟨x, hx⟩
        · exact h
        · exact absurd (List.mem_map.2 ⟨_, hx, rfl⟩) hm
      subst this
      show lkU u (fun k => if n = k then some v else f k) n = lkU u (fun k => if n = k then some v else g k) n
      exact lkU_congr (by simp only [if_true])
def idsOf (x : Res U) : List Nat := match x with
  | some (_, u) => u.map (·.1)
  | none => []
theorem app_get (o : Oper) (x : Res U) (s : St U) (t : Nat) : (app o x s).get t = if o.dst = some t then (match x with | some (v, _) => v | none => .flat undef) else s.get t := by
  unfold app
  split
  · rw [get_put, get_upd]
  · rw [get_put]
theorem app_lk (o : Oper) (x : Res U) (s : St U) (n : Nat) : lk (app o x s).o n = (match x with | some (_, u) => lkU u (lk s.o) n | none => lk s.o n) := by
  unfold app
  split
  · rw [o_put, lk_upd]
  · rw [o_put]
theorem app_same {o : Oper} {x : Res U} {s s' : St U} (h : Same s s') : Same (app o x s) (app o x s') := by
  refine ⟨fun n => ?_, fun n => ?_⟩
  · rw [app_get, app_get, h.1]
  · rw [app_lk, app_lk]
    split
    · exact lkU_congr (h.2 n)
    · exact h.2 n
theorem stD_get (t : Nat) : ∀ (l : List Oper) (xs : List (Res U)) (D D' : Nat → Bool) (i : Nat) (s s' : St U), s.get t = s'.get t →
    (∀ (k : Nat) (o : Oper), l[k]? = some o → o.dst = some t → D (i + k) = D' (i + k)) → (stD l xs D i s).get t = (stD l xs D' i s').get t
  | [], xs, D, D', i, s, s', h, _ => by cases xs <;> exact h
  | o :: l, [], D, D', i, s, s', h, _ => h
  | o :: l, x :: xs, D, D', i, s, s', h, hd => by
    refine stD_get t l xs D D' (i + 1) _ _ ?_ (fun k o' hk hd' => by
      have := hd (k + 1) o' (by simpa using hk) hd'
      rwa [show i + 1 + k = i + (k + 1) by omega])
    by_cases hw : o.dst = some t
    · have := hd 0 o rfl hw
      simp only [Nat.add_zero] at this
      rw [this]
      split
      · rw [app_get, app_get, if_pos hw, if_pos hw]
      · exact h
    · split <;> split <;> simp only [app_get, if_neg hw, h]
theorem stD_lk (n : Nat) : ∀ (l : List Oper) (xs : List (Res U)) (D D' : Nat → Bool) (i : Nat) (s s' : St U), lk s.o n = lk s'.o n →
    (∀ (k : Nat) (x : Res U), xs[k]? = some x → n ∈ idsOf x → D (i + k) = D' (i + k)) → lk (stD l xs D i s).o n = lk (stD l xs D' i s').o n
  | [], xs, D, D', i, s, s', h, _ => by cases xs <;> exact h
  | o :: l, [], D, D', i, s, s', h, _ => h
  | o :: l, x :: xs, D, D', i, s, s', h, hd => by
    refine stD_lk n l xs D D' (i + 1) _ _ ?_ (fun k x' hk hd' => by
      have := hd (k + 1) x' (by simpa using hk) hd'
      rwa [show i + 1 + k = i + (k + 1) by omega])
    have hin : ∀ (q q' : St U), lk q.o n = lk q'.o n → lk (app o x q).o n = lk (app o x q').o n := by
      intro q q' hq
      rw [app_lk, app_lk]
      split
      · exact lkU_congr hq
      · exact hq
    have hout : n ∉ idsOf x → ∀ (q : St U), lk (app o x q).o n = lk q.o n := by
      intro hn q
      rw [app_lk]
      split
      · exact lkU_other hn
      · rfl
    by_cases hw : n ∈ idsOf x
    · have := hd 0 x rfl hw
      simp only [Nat.add_zero] at this
      rw [this]
      split
      · exact hin s s' h
      · exact h
    · split <;> split <;> simp only [hout hw, h]
theorem stD_none : ∀ (l : List Oper) (xs : List (Res U)) (D : Nat → Bool) (i : Nat) (s : St U), (∀ k, i ≤ k → D k = false) → stD l xs D i s = s
  | [], xs, D, i, s, _ => by cases xs <;> rfl
  | o :: l, [], D, i, s, _ => rfl
  | o :: l, x :: xs, D, i, s, h => by
    unfold stD
    rw [h i (Nat.le_refl _)]
    exact stD_none l xs D (i + 1) s (fun k hk => h k (by omega))
theorem stD_same {l : List Oper} {xs : List (Res U)} {D D' : Nat → Bool} {i : Nat} {s s' : St U} (h : Same s s') (hd : ∀ k, i ≤ k → k < i + l.length → D k = D' k) : Same (stD l xs D i s) (stD l xs D' i s') :=
  ⟨fun t => stD_get t l xs D D' i s s' (h.1 t) (fun k o hk _ => hd _ (by omega) (by have := (List.getElem?_eq_some_iff.1 hk).1; omega)), fun n => by
    have key : ∀ (l : List Oper) (xs : List (Res U)) (i : Nat) (s s' : St U), lk s.o n = lk s'.o n → (∀ k, i ≤ k → k < i + l.length → D k = D' k) → lk (stD l xs D i s).o n = lk (stD l xs D' i s').o n := by
      intro l
      induction l with
      | nil => intro xs i s s' h _; cases xs <;> exact h
      | cons o l ih =>
        intro xs i s s' h hd
        cases xs with
        | nil => exact h
        | cons x xs =>
          refine ih xs (i + 1) _ _ ?_ (fun k h1 h2 => hd k (by omega) (by simp; omega))
          rw [hd i (Nat.le_refl _) (by simp)]
          split
          · rw [app_lk, app_lk]
            split
            · exact lkU_congr h
            · exact h
          · exact h
    exact key l xs i s s' (h.2 n) hd⟩
theorem stD_app {l : List Oper} {xs : List (Res U)} {D : Nat → Bool} {j : Nat} {o : Oper} {x : Res U} {s : St U} (hl : l[j]? = some o) (hx : xs[j]? = some x) (hj : D j = false)
    (ht : ∀ (k : Nat) (p : Oper), l[k]? = some p → k ≠ j → D k = true → (∃ t, o.dst = some t ∧ p.dst = some t) → k < j)
    (hn : ∀ (k : Nat) (y : Res U), xs[k]? = some y → k ≠ j → D k = true → (∃ n, n ∈ idsOf x ∧ n ∈ idsOf y) → k < j) :
    Same (app o x (stD l xs D 0 s)) (stD l xs (fun k => D k || k == j) 0 s) := by
  have key : ∀ (l : List Oper) (xs : List (Res U)) (i : Nat) (s : St U) (m : Nat), l[m]? = some o → xs[m]? = some x → i + m = j →
      (∀ (k : Nat) (p : Oper), l[k]? = some p → i + k ≠ j → D (i + k) = true → (∃ t, o.dst = some t ∧ p.dst = some t) → i + k < j) →
      (∀ (k : Nat) (y : Res U), xs[k]? = some y → i + k ≠ j → D (i + k) = true → (∃ n, n ∈ idsOf x ∧ n ∈ idsOf y) → i + k < j) →
      Same (app o x (stD l xs D i s)) (stD l xs (fun k => D k || k == j) i s) := by
    intro l
    induction l with
    | nil => intro xs i s m h; simp at h
    | cons p l ih =>
      intro xs i s m hl hx hm ht hn
      cases xs with
      | nil => simp at hx
      | cons y xs =>
        cases m with
        | zero =>
          simp at hl hx hm
          subst hl; subst hx; subst hm
          simp only [stD, hj, Bool.false_or, beq_self_eq_true, if_true, Bool.false_eq_true, if_false]
          refine ⟨fun t => ?_, fun n => ?_⟩
          · rw [app_get]
            split
            · rename_i hd
              rw [stD_get t l xs (fun k => D k || k == i) (fun _ => false) (i + 1) _ (app p y s) rfl (fun k q hk hq => by
                cases hD : D (i + 1 + k) with
                | true =>
                  have := ht (k + 1) q (by simpa using hk) (by omega) (by rw [show i + (k + 1) = i + 1 + k by omega]; exact hD) ⟨t, hd, hq⟩
                  omega
                | false => simp; omega)]
              rw [stD_none _ _ _ _ _ (fun _ _ => rfl), app_get, if_pos hd]
            · rename_i hd
              refine stD_get t l xs D (fun k => D k || k == i) (i + 1) s (app p y s) (by rw [app_get, if_neg hd]) (fun k q hk _ => ?_)
              have : (i + 1 + k == i) = false := by simp; omega
              simp [this]
          · by_cases hin : n ∈ idsOf y
            · rw [stD_lk n l xs (fun k => D k || k == i) (fun _ => false) (i + 1) _ (app p y s) rfl (fun k z hk hz => by
                cases hD : D (i + 1 + k) with
                | true =>
                  have := hn (k + 1) z (by simpa using hk) (by omega) (by rw [show i + (k + 1) = i + 1 + k by omega]; exact hD) ⟨n, hin, hz⟩
                  omega
                | false => simp; omega)]
              rw [stD_none _ _ _ _ _ (fun _ _ => rfl), app_lk, app_lk]
              split
              · rename_i v u
                exact lkU_in (by simpa [idsOf] using hin)
              · simp [idsOf] at hin
            · rw [app_lk]
              have hs : lk (app p y s).o n = lk s.o n := by
                rw [app_lk]
                split
                · rename_i v u; exact lkU_other (by simpa [idsOf] using hin)
                · rfl
              have hrest : lk (stD l xs D (i + 1) s).o n = lk (stD l xs (fun k => D k || k == i) (i + 1) (app p y s)).o n :=
                stD_lk n l xs D (fun k => D k || k == i) (i + 1) s (app p y s) hs.symm (fun k q hk _ => by
                  have : (i + 1 + k == i) = false := by simp; omega
                  simp [this])
              split
              · rename_i v u
                rw [lkU_other (by simpa [idsOf] using hin)]
                exact hrest
              · exact hrest
        | succ m =>
          simp only [stD]
          have hne : (i == j) = false := by simp; omega
          simp only [hne, Bool.or_false]
          exact ih xs (i + 1) _ m (by simpa using hl) (by simpa using hx) (by omega)
            (fun k q hk h1 h2 h3 => by
              have := ht (k + 1) q (by simpa using hk) (by omega) (by rw [show i + (k + 1) = i + 1 + k by omega]; exact h2) h3
              omega)
            (fun k q hk h1 h2 h3 => by
              have := hn (k + 1) q (by simpa using hk) (by omega) (by rw [show i + (k + 1) = i + 1 + k by omega]; exact h2) h3
              omega)
  exact key l xs 0 s j hl hx (by omega) (fun k p hk h1 h2 h3 => by simpa using ht k p hk (by omega) (by simpa using h2) h3) (fun k p hk h1 h2 h3 => by simpa using hn k p hk (by omega) (by simpa using h2) h3)
end Go.Ev
