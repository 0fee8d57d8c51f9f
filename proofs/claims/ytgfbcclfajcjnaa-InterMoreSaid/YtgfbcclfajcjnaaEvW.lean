import Derived.Test.YtgfbcclfajcjnaaEvV
universe u
namespace Go.Ev
set_option linter.unusedVariables false
set_option linter.unusedSimpArgs false
open Go.RowKit (Below)
variable {U : Univ} {ρ : Type}
theorem op_set {s : St U} {g : Nat} {v : Value} {w : AV U} (h : s.op (.tmp g) = .flat v) : (s.set g w).op (.tmp g) = w := by
  have h : (bif Nat.blt g gb then s.get g else .undef) = .flat v := h
  show (bif Nat.blt g gb then (s.set g w).get g else .undef) = w
  cases hb : Nat.blt g gb with
  | true => rw [get_set, if_pos rfl]; rfl
  | false => rw [hb] at h; cases h
def GuardIs (all : Array Oper) (o : Oper) (s : St U) (yes : Bool) : Prop :=
  (o.guard = none ∧ yes = true) ∨ (∃ j g b, o.guard = some (j, b) ∧ (all[j]?).bind (·.dst) = some g ∧ s.op (.tmp g) = .flat (.bool (b == yes))) ∨
  (yes = false ∧ ∃ j g b ys, o.guard = some (j, b) ∧ (all[j]?).bind (·.dst) = some g ∧ s.op (.tmp g) = .flat (.tuple ys))
def OpFact (E : Env U) (ck : Nat → Oper → St U → Bool) (all : Array Oper) (j : Nat) (o : Oper) (x : Res U) (s : St U) : Prop := match x with
  | some (v, u) => GuardIs all o s true ∧ ck j o s = true ∧ opA E o s.op (lk s.o) pairK = some (v, u)
  | none => GuardIs all o s false
theorem regC_runs {E : Env U} {ck : Nat → Oper → St U → Bool} (hck : ∀ j o s s', Same s s' → ck j o s = ck j o s') {all : Array Oper} {K : St U → Option ρ} {r : ρ} :
    ∀ (l : List Oper) (i : Nat) (s : St U), regC E ck all i l s K = some r → ∃ (xs : List (Res U)) (sf : St U), xs.length = l.length ∧ K sf = some r ∧ Same sf (stD l xs (fun _ => true) i s) ∧
      ∀ (k : Nat) (o : Oper), l[k]? = some o → ∃ x s1, xs[k]? = some x ∧ Same s1 (stD l xs (fun m => decide (m < i + k)) i s) ∧ OpFact E ck all (i + k) o x s1
  | [], i, s, h => ⟨[], s, rfl, h, Same.refl s, fun k o hk => by simp at hk⟩
  | o :: l, i, s, h => by
    have step : ∀ (x : Res U) (s1 : St U), Same s1 s → OpFact E ck all i o x s1 → regC E ck all (i + 1) l (app o x s1) K = some r →
        ∃ (xs : List (Res U)) (sf : St U), xs.length = (o :: l).length ∧ K sf = some r ∧ Same sf (stD (o :: l) xs (fun _ => true) i s) ∧
          ∀ (k : Nat) (p : Oper), (o :: l)[k]? = some p → ∃ x s1, xs[k]? = some x ∧ Same s1 (stD (o :: l) xs (fun m => decide (m < i + k)) i s) ∧ OpFact E ck all (i + k) p x s1 := by
      intro x s1 hs hf hr
      obtain ⟨xs, sf, h1, h2, h3, h4⟩ := regC_runs hck l (i + 1) _ hr
      refine ⟨x :: xs, sf, by simp [h1], h2, ?_, fun k p hk => ?_⟩
      · simp only [stD, if_true]
        exact h3.trans (stD_same (app_same hs) (fun _ _ _ => rfl))
      · cases k with
        | zero =>
          simp at hk
          subst hk
          refine ⟨x, s1, rfl, ?_, hf⟩
          rw [stD_none _ _ _ _ _ (fun k hk => by simp; omega)]
          exact hs
        | succ k =>
          obtain ⟨y, s2, h5, h6, h7⟩ := h4 k p (by simpa using hk)
          refine ⟨y, s2, by simpa using h5, ?_, by rw [show i + (k + 1) = i + 1 + k by omega]; exact h7⟩
          simp only [stD]
          rw [if_pos (by simp)]
          exact h6.trans (stD_same (app_same hs) (fun m h1 h2 => by simp; omega))
    simp only [regC] at h
    split at h
    · rename_i hg
      obtain ⟨hc, h⟩ := cond_none h
      obtain ⟨v, u, h1, h2⟩ := opA_param h
      exact step (some (v, u)) s (Same.refl s) ⟨.inl ⟨hg, rfl⟩, hc, h1⟩ h2
    · rename_i j want hg
      obtain ⟨g, hj, h⟩ := kont_some h
      split at h
      · rename_i b hb
        have same : ∀ (c : Bool), c = b → Same (s.set g (.flat (.bool c))) s := by
          rintro c rfl
          refine ⟨fun n => ?_, fun _ => rfl⟩
          rw [get_set]
          split
          · rename_i e; rw [← e, op_get hb]
          · rfl
        have gg : ∀ (c yes : Bool), b = (want == yes) → c = b → GuardIs all o (s.set g (.flat (.bool c))) yes := fun c yes hy hc =>
          .inr (.inl ⟨j, g, want, hg, hj, by rw [op_set hb, hc, hy]⟩)
        rcases cond_some h with ⟨rfl, h⟩ | ⟨rfl, h⟩
        · split at h
          · obtain ⟨hc, h⟩ := cond_none h
            obtain ⟨v, u, h1, h2⟩ := opA_param h
            exact step (some (v, u)) _ (same true rfl) ⟨gg true true rfl rfl, by rw [hck _ _ _ _ (same true rfl)]; exact hc, h1⟩ h2
          · exact step none _ (same true rfl) (gg true false rfl rfl) h
        · split at h
          · exact step none _ (same false rfl) (gg false false rfl rfl) h
          · obtain ⟨hc, h⟩ := cond_none h
            obtain ⟨v, u, h1, h2⟩ := opA_param h
            exact step (some (v, u)) _ (same false rfl) ⟨gg false true rfl rfl, by rw [hck _ _ _ _ (same false rfl)]; exact hc, h1⟩ h2
      · rename_i ys hb
        exact step none s (Same.refl s) (.inr (.inr ⟨rfl, j, g, want, ys, hg, hj, hb⟩)) h
      · cases h
theorem fold_bits (g : Nat → Nat) (k : Nat) : ∀ (es : List Edge) (s : Nat),
    (es.foldl (fun s e => bif Region.binds .any e then s ||| 2 ^ e.on ||| g e.on else s) s).testBit k = true ↔
      s.testBit k = true ∨ ∃ e ∈ es, Region.binds .any e = true ∧ (e.on = k ∨ (g e.on).testBit k = true)
  | [], s => by simp
  | e :: es, s => by
    simp only [List.foldl_cons]
    rw [fold_bits g k es]
    cases hb : Region.binds .any e with
    | false => simp [hb]
    | true =>
      simp only [cond_true, Nat.testBit_or, Nat.testBit_two_pow, Bool.or_eq_true, decide_eq_true_eq, List.mem_cons, exists_eq_or_imp, hb, true_and]
      constructor
      · rintro (((h | h) | h) | h)
        · exact .inl h
        · exact .inr (.inl (.inl h))
        · exact .inr (.inl (.inr h))
        · exact .inr (.inr h)
      · rintro (h | (h | h) | h)
        · exact .inl (.inl (.inl h))
        · exact .inl (.inl (.inr h))
        · exact .inl (.inr h)
        · exact .inr h
theorem ahead_go : ∀ (ops : List Oper) (acc : List Nat), (∃ t, ahead.go ops acc = acc ++ t) ∧ ∀ (k : Nat) (o : Oper), ops[k]? = some o →
    (ahead.go ops acc).getD (acc.length + k) 0 =
      o.after.toList.foldl (fun s e => bif Region.binds .any e then s ||| 2 ^ e.on ||| ((ahead.go ops acc).take (acc.length + k)).getD e.on 0 else s) 0
  | [], acc => ⟨⟨[], by simp [ahead.go]⟩, fun k o h => by simp at h⟩
  | o :: r, acc => by
    obtain ⟨⟨t, ht⟩, h2⟩ := ahead_go r (acc ++ [o.after.toList.foldl (fun s e => bif Region.binds .any e then s ||| 2 ^ e.on ||| acc.getD e.on 0 else s) 0])
    refine ⟨⟨_, by rw [ahead.go, ht, List.append_assoc]⟩, fun k p hk => ?_⟩
    cases k with
    | zero =>
      simp at hk
      subst hk
      simp only [ahead.go, ht, Nat.add_zero]
      rw [List.append_assoc, List.getD_eq_getElem?_getD, List.getElem?_append_right (Nat.le_refl _), List.take_left']
      · simp
      · rfl
    | succ k =>
      have := h2 k p (by simpa using hk)
      simp only [List.length_append, List.length_singleton] at this
      simp only [ahead.go]
      rw [show acc.length + (k + 1) = acc.length + 1 + k by omega]
      exact this
def bit (ops : List Oper) (j i : Nat) : Bool := ((ahead ops).getD j 0).testBit i
theorem bit_spec {ops : List Oper} (hlt : ∀ (j : Nat) (o : Oper), ops[j]? = some o → ∀ e ∈ o.after.toList, Region.binds .any e = true → e.on < j) {j : Nat} {o : Oper} (hj : ops[j]? = some o) (k : Nat) :
    bit ops j k = true ↔ ∃ e ∈ o.after.toList, Region.binds .any e = true ∧ (e.on = k ∨ bit ops e.on k = true) := by
  have h := (ahead_go ops []).2 j o hj
  simp only [List.length_nil, Nat.zero_add] at h
  unfold bit ahead
  rw [h, fold_bits (fun m => ((ahead.go ops []).take j).getD m 0)]
  simp only [Nat.zero_testBit, Bool.false_eq_true, false_or]
  constructor
  · rintro ⟨e, he, hb, h⟩
    refine ⟨e, he, hb, ?_⟩
    rcases h with h | h
    · exact .inl h
    · have hl := hlt j o hj e he hb
      rw [List.getD_eq_getElem?_getD, List.getElem?_take, if_pos hl, ← List.getD_eq_getElem?_getD] at h
      exact .inr h
  · rintro ⟨e, he, hb, h⟩
    refine ⟨e, he, hb, ?_⟩
    rcases h with h | h
    · exact .inl h
    · have hl := hlt j o hj e he hb
      rw [List.getD_eq_getElem?_getD, List.getElem?_take, if_pos hl, ← List.getD_eq_getElem?_getD]
      exact .inr h
theorem bit_lt {ops : List Oper} (hlt : ∀ (j : Nat) (o : Oper), ops[j]? = some o → ∀ e ∈ o.after.toList, Region.binds .any e = true → e.on < j) : ∀ (j k : Nat), j < ops.length → bit ops j k = true → k < j := by
  intro j
  induction j using Nat.strongRecOn with
  | _ j ih =>
    intro k hj h
    obtain ⟨e, he, hb, h⟩ := (bit_spec hlt (List.getElem?_eq_getElem hj) k).1 h
    have hl := hlt j _ (List.getElem?_eq_getElem hj) e he hb
    rcases h with h | h
    · omega
    · have := ih e.on hl k (by omega) h
      omega
theorem bit_closed {ops : List Oper} (hlt : ∀ (j : Nat) (o : Oper), ops[j]? = some o → ∀ e ∈ o.after.toList, Region.binds .any e = true → e.on < j) {D : Nat → Bool}
    (hD : ∀ (j : Nat) (o : Oper), ops[j]? = some o → D j = true → ∀ e ∈ o.after.toList, Region.binds .any e = true → D e.on = true) :
    ∀ (j k : Nat), j < ops.length → D j = true → bit ops j k = true → D k = true := by
  intro j
  induction j using Nat.strongRecOn with
  | _ j ih =>
    intro k hj hd h
    obtain ⟨e, he, hb, h⟩ := (bit_spec hlt (List.getElem?_eq_getElem hj) k).1 h
    have hl := hlt j _ (List.getElem?_eq_getElem hj) e he hb
    have hde := hD j _ (List.getElem?_eq_getElem hj) hd e he hb
    rcases h with h | h
    · rw [← h]; exact hde
    · exact ih e.on hl k (by omega) hde h
theorem filter_lt {α : Type} {p q : α → Bool} : ∀ (l : List α), (∀ x ∈ l, q x = true → p x = true) → (∃ x ∈ l, p x = true ∧ q x = false) → (l.filter q).length < (l.filter p).length
  | [], _, ⟨x, hx, _⟩ => by simp at hx
  | y :: l, h, ⟨x, hx, hp, hq⟩ => by
    have hle : (l.filter q).length ≤ (l.filter p).length := by
      clear hx hp hq
      induction l with
      | nil => simp
      | cons z l ih =>
        have hz := h z (by simp)
        have := ih (fun w hw => h w (by simp at hw ⊢; rcases hw with hw | hw; exact .inl hw; exact .inr (.inr hw)))
        cases hqz : q z with
        | true => simp [hqz, hz hqz]; simpa using this
        | false => cases hpz : p z <;> simp [hqz, hpz] <;> omega
    by_cases hxy : x = y
    · subst hxy
      simp [hp, hq]
      omega
    · have hx' : x ∈ l := by simp at hx; exact hx.resolve_left hxy
      have := filter_lt l (fun w hw => h w (by simp [hw])) ⟨x, hx', hp, hq⟩
      have hy := h y (by simp)
      cases hqy : q y with
      | true => simp [hqy, hy hqy]; exact this
      | false => cases hpy : p y <;> simp [hqy, hpy] <;> omega
end Go.Ev
