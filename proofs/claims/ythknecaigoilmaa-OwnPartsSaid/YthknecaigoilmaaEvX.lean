import Derived.Test.YthknecaigoilmaaEvW
universe u
namespace Go.Ev
set_option linter.unusedVariables false
set_option linter.unusedSimpArgs false
open Go.RowKit (Below)
variable {U : Univ} {ρ : Type}

theorem drawCk_same {ops : List Oper} {bits : List Nat} (j : Nat) (o : Oper) (s s' : St U) (h : Same s s') : drawCk ops bits j o s = drawCk ops bits j o s' := by
  have ho : ∀ x, s.op x = s'.op x := fun x => op_congr (fun n => h.1 n) x
  have ht : ∀ p : Oper, touched p s = touched p s' := fun p => by
    unfold touched
    cases p.op <;> simp [ho]
  unfold drawCk ownCk twoCk
  simp only [ht]

section
variable {E : Env U} {nt : Nat} {w0 : World} {N0 : Nat → Nat → Prop}

structure DrawData (E : Env U) (all : Array Oper) (xs : List (Res U)) (s : St U) : Prop where
  len : xs.length = all.toList.length
  fact : ∀ (k : Nat) (o : Oper), all.toList[k]? = some o → ∃ x s1, xs[k]? = some x ∧ Same s1 (stD all.toList xs (fun m => decide (m < k)) 0 s) ∧ OpFact E (drawCk all.toList (ahead all.toList)) all k o x s1
  lt : ∀ (j : Nat) (o : Oper), all.toList[j]? = some o → ∀ e ∈ o.after.toList, Region.binds .any e = true → e.on < j
  pair : ∀ (i j : Nat) (p o : Oper), all.toList[i]? = some p → all.toList[j]? = some o → i < j → bit all.toList j i = true ∨ apartB all i p o = true

theorem zipIdx_all {α : Type} {l : List α} {f : α × Nat → Bool} (h : l.zipIdx.all f = true) (i : Nat) (x : α) (hx : l[i]? = some x) : f (x, i) = true := by
  have : (l.zipIdx)[i]? = some (x, i) := by simp [List.getElem?_zipIdx, hx]
  exact List.all_eq_true.mp h _ (List.mem_of_getElem? this)

theorem drawData {all : Array Oper} {s : St U} {K : St U → Option ρ} {r : ρ} (hok : drawOkB all (ahead all.toList) = true)
    (hk : regC E (drawCk all.toList (ahead all.toList)) all 0 all.toList s K = some r) :
    ∃ xs sf, DrawData E all xs s ∧ K sf = some r ∧ Same sf (stD all.toList xs (fun _ => true) 0 s) := by
  obtain ⟨xs, sf, h1, h2, h3, h4⟩ := regC_runs (fun j o s s' h => drawCk_same j o s s' h) all.toList 0 s hk
  refine ⟨xs, sf, ⟨h1, fun k o hk => by simpa using h4 k o hk, fun j o hj e he hb => ?_, fun i j p o hi hj hlt => ?_⟩, h2, h3⟩
  · have := zipIdx_all hok j o hj
    simp only [Bool.and_eq_true] at this
    have := Array.all_eq_true_iff_forall_mem.1 this.1.2 e (by simpa using he)
    simp only [hb, Bool.not_true, Bool.false_or] at this
    exact Nat.le_of_ble_eq_true this
  · have := zipIdx_all hok j o hj
    simp only [Bool.and_eq_true] at this
    have := zipIdx_all this.1.1 i p hi
    have hb : Nat.blt i j = true := by simp [Nat.blt]; omega
    simp only [hb, Bool.not_true, Bool.false_or, Bool.or_eq_true] at this
    exact this

variable {all : Array Oper} {xs : List (Res U)} {s : St U}

theorem DrawData.tmps (d : DrawData E all xs s) {i j t : Nat} {p o : Oper} (hi : all.toList[i]? = some p) (hj : all.toList[j]? = some o) (hlt : i < j)
    (h : (p.dst = some t ∧ (t ∈ names all o ∨ o.dst = some t)) ∨ (o.dst = some t ∧ t ∈ names all p)) : bit all.toList j i = true := by
  rcases d.pair i j p o hi hj hlt with hb | hb
  · exact hb
  · exfalso
    unfold apartB at hb
    simp only [Bool.and_eq_true] at hb
    rcases h with ⟨h1, h2⟩ | ⟨h1, h2⟩
    · have := hb.1.1
      simp only [h1, Bool.and_eq_true, Bool.not_eq_true', List.contains_eq_mem, decide_eq_false_iff_not, beq_eq_false_iff_ne, ne_eq] at this
      rcases h2 with h2 | h2
      · exact this.1 h2
      · exact this.2 h2
    · have := hb.1.2
      simp only [h1, Bool.not_eq_true', List.contains_eq_mem, decide_eq_false_iff_not] at this
      exact this h2

theorem rel_loads {o : Oper} {ev : Operand → AV U} {id : Nat} (h : id ∈ relO o ev) : (loads o.op = true ∧ ∀ s : St U, s.op = ev → touched o s = some id) ∨ (isNew o.op = true ∧ o.dst = some id) := by
  unfold relO at h
  split at h
  · rename_i t x ho
    simp at h
    exact .inl ⟨by simp [ho, loads], fun s hs => by simp [touched, ho, hs, h]⟩
  · rename_i t x y ho
    simp at h
    exact .inl ⟨by simp [ho, loads], fun s hs => by simp [touched, ho, hs, h]⟩
  · rename_i t x y ho
    simp at h
    exact .inl ⟨by simp [ho, loads], fun s hs => by simp [touched, ho, hs, h]⟩
  · rename_i t ho
    simp at h
    exact .inr ⟨by simp [ho, isNew], h⟩
  · rename_i t x ho
    simp at h
    exact .inr ⟨by simp [ho, isNew], h⟩
  · rename_i t n ps ho
    simp at h
    exact .inr ⟨by simp [ho, isNew], h⟩
  · rename_i t x y ho
    simp at h
    exact .inr ⟨by simp [ho, isNew], h⟩
  · rename_i x ho
    simp at h
    exact .inr ⟨by simp [ho, isNew], h⟩
  · rename_i x ho
    simp at h
    exact .inr ⟨by simp [ho, isNew], h⟩
  · rename_i c ho
    split at h
    · rename_i z hz
      simp only [List.mem_append, Option.mem_toList] at h
      rcases h with h | h
      · exact .inl ⟨by simp [ho, loads, hz], fun s hs => by simp [touched, ho, hz, hs, h]⟩
      · exact .inr ⟨by simp [ho, isNew, hz], h⟩
    · simp at h
  · simp at h

theorem owner {ops : List Oper} {bits : List Nat} {j id i : Nat} {o p : Oper} {s : St U} (hck : drawCk ops bits j o s = true) (ht : touched o s = some id) (hi : ops[i]? = some p) (hp : p.dst = some id) :
    (bits.getD j 0).testBit i = true := by
  unfold drawCk at hck
  rw [Bool.and_eq_true] at hck
  replace hck := hck.1
  unfold ownCk at hck
  simp only [ht, ownerOk] at hck
  have := zipIdx_all hck i p hi
  simpa [hp] using this

theorem steady_touched {all : Array Oper} {xs : List (Res U)} {s s1 s2 : St U} {i j : Nat} {p : Oper} (hp : steady all.toList i p = true) (hij : i < j)
    (h1 : Same s1 (stD all.toList xs (fun m => decide (m < i)) 0 s)) (h2 : Same s2 (stD all.toList xs (fun m => decide (m < j)) 0 s)) : touched p s1 = touched p s2 := by
  have key : ∀ n, ((all.toList.drop i).all fun q => !(q.dst == some n)) = true → s1.get n = s2.get n := fun n hn => by
    rw [h1.1 n, h2.1 n]
    refine stD_get n all.toList xs _ _ 0 s s rfl (fun k q hq hd => ?_)
    by_cases hk : k < i
    · simp only [Nat.zero_add, hk, decide_true, show k < j by omega]
    · have hm : q ∈ all.toList.drop i := List.mem_of_getElem? (i := k - i) (by rw [List.getElem?_drop, show i + (k - i) = k by omega]; exact hq)
      have := List.all_eq_true.mp hn q hm
      simp [hd] at this
  unfold steady addrOf at hp
  unfold touched
  cases ho : p.op with
  | load t a => cases a with
    | tmp n => simp only [ho] at hp ⊢; simp only [St.op, key n hp]
    | _ => simp only [ho] at hp; cases hp
  | store t a b => cases a with
    | tmp n => simp only [ho] at hp ⊢; simp only [St.op, key n hp]
    | _ => simp only [ho] at hp; cases hp
  | indexAddr t a b => cases a with
    | tmp n => simp only [ho] at hp ⊢; simp only [St.op, key n hp]
    | _ => simp only [ho] at hp; cases hp
  | call c =>
    simp only [ho] at hp ⊢
    cases hz : seeArg c with
    | none => rfl
    | some z => cases z with
      | tmp n => simp only [hz] at hp ⊢; simp only [St.op, key n hp]
      | _ => simp only [hz] at hp; cases hp
  | _ => rfl

/-- Two operations that meet at an object: the one ahead in the text is ahead in every order. -/
theorem DrawData.objs (d : DrawData E all xs s) {i j id : Nat} {p o : Oper} {x y : Res U} {s1 s2 : St U} (hi : all.toList[i]? = some p) (hj : all.toList[j]? = some o) (hlt : i < j)
    (hf1 : OpFact E (drawCk all.toList (ahead all.toList)) all i p x s1) (hf2 : OpFact E (drawCk all.toList (ahead all.toList)) all j o y s2) (hx : x ≠ none) (hy : y ≠ none)
    (hs1 : Same s1 (stD all.toList xs (fun m => decide (m < i)) 0 s)) (hs2 : Same s2 (stD all.toList xs (fun m => decide (m < j)) 0 s))
    (h : (id ∈ idsOf x ∧ id ∈ relO o s2.op) ∨ (id ∈ idsOf y ∧ id ∈ relO p s1.op)) : bit all.toList j i = true := by
  obtain ⟨⟨v, u⟩, rfl⟩ := Option.ne_none_iff_exists'.1 hx
  obtain ⟨⟨v', u'⟩, rfl⟩ := Option.ne_none_iff_exists'.1 hy
  obtain ⟨_, hc1, hk1⟩ := hf1
  obtain ⟨_, hc2, hk2⟩ := hf2
  have hil : i < all.toList.length := (List.getElem?_eq_some_iff.1 hi).1
  have hno : ∀ q, bit all.toList i j = true → q := fun q hb => absurd (bit_lt d.lt i j hil hb) (by omega)
  have ap : bit all.toList j i = false → apartB all i p o = true → meetB p o = true → touched p s1 = some id → touched o s2 = some id → False := by
    intro hnb hb hm ht1 ht2
    unfold apartB at hb
    simp only [Bool.and_eq_true, Bool.not_eq_true', hm, Bool.not_true, Bool.false_or, Bool.or_eq_true, Bool.false_eq_true, false_or] at hb
    have ht3 := (steady_touched hb.2 hlt hs1 hs2).symm.trans ht1
    unfold drawCk at hc2
    rw [Bool.and_eq_true] at hc2
    have h3 := zipIdx_all hc2.2 i p hi
    have hbl : Nat.blt i j = true := by simp [Nat.blt]; omega
    unfold bit at hnb
    simp only [hbl, hnb, hm, ht2, ht3, Bool.not_true, Bool.false_or, Bool.not_eq_true'] at h3
    exact absurd (Nat.beq_refl id) (by rw [h3]; simp)
  rcases h with ⟨h1, h2⟩ | ⟨h1, h2⟩
  · obtain ⟨hr, hs⟩ := opK_ids hk1 id h1
    rcases hs with ⟨hs, ht1⟩ | ⟨hn, hd⟩
    · rcases rel_loads h2 with ⟨hl, ht⟩ | ⟨hn2, hd2⟩
      · rcases d.pair i j p o hi hj hlt with hb | hb
        · exact hb
        · cases hnb : bit all.toList j i with
          | true => rfl
          | false => exact (ap hnb hb (by simp [meetB, hs, hl]) (ht1 s1 rfl) (ht s2 rfl)).elim
      · exact hno _ (owner hc1 (ht1 s1 rfl) hj hd2)
    · rcases rel_loads h2 with ⟨hl, ht⟩ | ⟨hn2, hd2⟩
      · exact owner hc2 (ht s2 rfl) hi hd
      · exact d.tmps hi hj hlt (.inl ⟨hd, .inr hd2⟩)
  · obtain ⟨hr, hs⟩ := opK_ids hk2 id h1
    rcases hs with ⟨hs, ht2⟩ | ⟨hn, hd⟩
    · rcases rel_loads h2 with ⟨hl, ht⟩ | ⟨hn2, hd2⟩
      · rcases d.pair i j p o hi hj hlt with hb | hb
        · exact hb
        · cases hnb : bit all.toList j i with
          | true => rfl
          | false => exact (ap hnb hb (by simp [meetB, hs, hl]) (ht s1 rfl) (ht2 s2 rfl)).elim
      · exact owner hc2 (ht2 s2 rfl) hi hd2
    · rcases rel_loads h2 with ⟨hl, ht⟩ | ⟨hn2, hd2⟩
      · exact hno _ (owner hc1 (ht s1 rfl) hj hd)
      · exact d.tmps hi hj hlt (.inl ⟨hd2, .inr hd⟩)

theorem ready_mem {all : Array Oper} {L : Array Bool} {i : Nat} : i ∈ Region.ready .any all L ↔ ∃ o, all.toList[i]? = some o ∧ L.getD i true = false ∧ ∀ e ∈ o.after.toList, Region.binds .any e = true → L.getD e.on false = true := by
  unfold Region.ready
  simp only [List.mem_filter, List.mem_range, Bool.and_eq_true, Bool.not_eq_true']
  constructor
  · rintro ⟨hlt, h1, h2⟩
    refine ⟨all[i], by simp [hlt], h1, fun e he hb => ?_⟩
    simp only [Array.getElem?_eq_getElem hlt, Option.map_some, Option.getD_some] at h2
    have := Array.all_eq_true_iff_forall_mem.1 h2 e (by simpa using he)
    simpa [hb] using this
  · rintro ⟨o, ho, h1, h2⟩
    have hlt : i < all.size := by have := (List.getElem?_eq_some_iff.1 ho).1; simpa using this
    have ho' : all[i]? = some o := by simpa using ho
    refine ⟨hlt, h1, ?_⟩
    simp only [ho', Option.map_some, Option.getD_some]
    rw [Array.all_eq_true_iff_forall_mem]
    intro e he
    cases hb : Region.binds .any e with
    | false => simp
    | true => simpa using h2 e (by simpa using he) hb

structure Inv (E : Env U) (nt : Nat) (w0 : World) (N0 : Nat → Nat → Prop) (R : Rl) (all : Array Oper) (xs : List (Res U)) (s : St U) (L : Array Bool) (a : Act) (R' : Rl) : Prop where
  size : L.size = all.size
  closed : ∀ (j : Nat) (o : Oper), all.toList[j]? = some o → L.getD j false = true → ∀ e ∈ o.after.toList, Region.binds .any e = true → L.getD e.on false = true
  le : R.le R'
  sr : SR E.D nt w0 N0 R' (stD all.toList xs (fun k => L.getD k false) 0 s) a

theorem draw_any (he : EnvOk E) (hd : DstOk nt all) (d : DrawData E all xs s) {R : Rl} {Q : Exit → Act → World → Prop}
    (hq : ∀ a R', R.le R' → SR E.D nt w0 N0 R' (stD all.toList xs (fun _ => true) 0 s) a → Q .normal a R'.w) :
    ∀ (fuel : Nat) (L : Array Bool) (a : Act) (R' : Rl), ((List.range all.size).filter fun i => !L.getD i true).length ≤ fuel → Inv E nt w0 N0 R all xs s L a R' →
      wpAny E.P .any all Q fuel L a R'.w := by
  -- where none is ready all have come up
  have last : ∀ (L : Array Bool) (a : Act) (R' : Rl), Inv E nt w0 N0 R all xs s L a R' → Region.ready .any all L = [] → Q .normal a R'.w := by
    intro L a R' hI hr
    have hall : ∀ k, k < all.size → L.getD k false = true := by
      intro k
      induction k using Nat.strongRecOn with
      | _ k ih =>
        intro hk
        have hk' : all.toList[k]? = some all[k] := by simp [hk]
        have hL : k < L.size := by rw [hI.size]; exact hk
        cases hb : L.getD k false with
        | true => rfl
        | false =>
          have hb' : L.getD k true = false := by
            rw [Array.getD_eq_getD_getElem?, Array.getElem?_eq_getElem hL] at hb ⊢; exact hb
          have : k ∈ Region.ready .any all L := ready_mem.2 ⟨_, hk', hb', fun e he hbd => ih e.on (d.lt k _ hk' e he hbd) (by have := d.lt k _ hk' e he hbd; omega)⟩
          rw [hr] at this
          cases this
    refine hq a R' hI.le (hI.sr.congr (fun n => ?_) (fun n => ?_))
    · exact (stD_same (Same.refl s) (fun k _ hk => by simp at hk; rw [hall k hk])).1 n |>.symm
    · exact (stD_same (Same.refl s) (fun k _ hk => by simp at hk; rw [hall k hk])).2 n |>.symm
  intro fuel
  induction fuel with
  | zero =>
    intro L a R' hc hI
    have hr : Region.ready .any all L = [] := by
      cases hr : Region.ready .any all L with
      | nil => rfl
      | cons i l =>
        obtain ⟨o, ho, h1, _⟩ := ready_mem.1 (show i ∈ Region.ready .any all L by rw [hr]; simp)
        have hlt : i < all.size := by have := (List.getElem?_eq_some_iff.1 ho).1; simpa using this
        have : i ∈ (List.range all.size).filter fun i => !L.getD i true := List.mem_filter.2 ⟨List.mem_range.2 hlt, by rw [h1]; rfl⟩
        have := List.length_pos_of_mem this
        omega
    exact ⟨hr, last L a R' hI hr⟩
  | succ fuel ih =>
    intro L a R' hc hI
    refine ⟨last L a R' hI, fun j hj => ?_⟩
    obtain ⟨o, ho, hL, hedges⟩ := ready_mem.1 hj
    have hjl : j < all.toList.length := (List.getElem?_eq_some_iff.1 ho).1
    have hjs : j < all.size := by simpa using hjl
    have ho' : all[j]? = some o := by simpa using ho
    have hLj : L.getD j false = false := by
      have : j < L.size := by rw [hI.size]; exact hjs
      rw [Array.getD_eq_getD_getElem?, Array.getElem?_eq_getElem this] at hL ⊢; exact hL
    obtain ⟨x, s1, hx, hs1, hf⟩ := d.fact j o ho
    -- what has come up of those that meet this one: just those that stand ahead in the text
    have hDb := bit_closed d.lt (D := fun k => L.getD k false) hI.closed
    have hjb : ∀ k, bit all.toList j k = true → L.getD k false = true := by
      intro k hb
      obtain ⟨e, he', hbd, h⟩ := (bit_spec d.lt ho k).1 hb
      have hl := d.lt j o ho e he' hbd
      rcases h with h | h
      · rw [← h]; exact hedges e he' hbd
      · exact hDb e.on k (by omega) (hedges e he' hbd) h
    have agree : ∀ i, i < all.toList.length → (i < j → bit all.toList j i = true) → (j < i → bit all.toList i j = true) → L.getD i false = decide (i < j) := by
      intro i hil h1 h2
      by_cases hlt : i < j
      · simp only [hlt, decide_true]; exact hjb i (h1 hlt)
      · by_cases heq : i = j
        · subst heq; simp [hLj]
        · have hgt : j < i := by omega
          simp only [hlt, decide_false]
          cases hb : L.getD i false with
          | false => rfl
          | true =>
            have := hDb i j hil hb (h2 hgt)
            simp only [hLj] at this
            cases this
    let sD := stD all.toList xs (fun k => L.getD k false) 0 s
    have hget : ∀ t, t ∈ names all o → sD.get t = s1.get t := by
      intro t ht
      rw [hs1.1 t]
      refine stD_get t all.toList xs _ _ 0 s s rfl (fun i p hi hp => ?_)
      simp only [Nat.zero_add]
      exact agree i (List.getElem?_eq_some_iff.1 hi).1 (fun hlt => d.tmps hi ho hlt (.inl ⟨hp, .inl ht⟩)) (fun hgt => d.tmps ho hi hgt (.inr ⟨hp, ht⟩))
    have hop : ∀ z, z ∈ o.op.operands.toList → s1.op z = sD.op z := by
      intro z hz
      cases z with
      | tmp t => exact (hget t (by simp only [names, List.mem_append, List.mem_filterMap]; exact .inl ⟨_, hz, rfl⟩)).symm
      | _ => rfl
    have hguard : ∀ yes, GuardIs all o s1 yes → Region.wanted o (yielded all a.tmps) = yes := by
      intro yes hg
      rcases hg with ⟨hg, rfl⟩ | ⟨jj, g, b, hg, hjj, hb⟩ | ⟨rfl, jj, g, b, ys, hg, hjj, hb⟩
      · simp [Region.wanted, hg]
      · have hmem : g ∈ names all o := by simp [names, hg, hjj]
        rw [← hget g hmem] at hb
        have := yielded_of hI.sr hjj hb
        simp only [Region.wanted, hg, this]
        cases b <;> cases yes <;> rfl
      · have hmem : g ∈ names all o := by simp [names, hg, hjj]
        rw [← hget g hmem] at hb
        have := yielded_no hI.sr hjj hb
        simp [Region.wanted, hg, this]
    -- the state behind it
    have hset : ∀ (k : Nat), (L.setIfInBounds j true).getD k false = (L.getD k false || k == j) := by
      intro k
      have hjL : j < L.size := by rw [hI.size]; exact hjs
      rw [Array.getD_eq_getD_getElem?, Array.getElem?_setIfInBounds]
      by_cases hk : j = k
      · subst hk; simp [hjL]
      · have : (k == j) = false := by simp; omega
        rw [if_neg hk, this, Bool.or_false, Array.getD_eq_getD_getElem?]
    have hclosed : ∀ (i : Nat) (p : Oper), all.toList[i]? = some p → (L.setIfInBounds j true).getD i false = true → ∀ e ∈ p.after.toList, Region.binds .any e = true → (L.setIfInBounds j true).getD e.on false = true := by
      intro i p hi hLi e he' hbd
      rw [hset] at hLi ⊢
      rw [Bool.or_eq_true] at hLi ⊢
      rcases hLi with h | h
      · exact .inl (hI.closed i p hi h e he' hbd)
      · have : i = j := by simpa using h
        subst this
        rw [ho] at hi
        cases hi
        exact .inl (hedges e he' hbd)
    have hcount : ((List.range all.size).filter fun i => !(L.setIfInBounds j true).getD i true).length ≤ fuel := by
      have hjL : j < L.size := by rw [hI.size]; exact hjs
      have : ((List.range all.size).filter fun i => !(L.setIfInBounds j true).getD i true).length < ((List.range all.size).filter fun i => !L.getD i true).length := by
        refine filter_lt _ (fun i _ h => ?_) ⟨j, by simp [hjs], by rw [hL]; rfl, ?_⟩
        · rw [Array.getD_eq_getD_getElem?, Array.getElem?_setIfInBounds] at h
          by_cases hk : j = i
          · subst hk; simp [hjL] at h
          · rw [if_neg hk, ← Array.getD_eq_getD_getElem?] at h; exact h
        · rw [Array.getD_eq_getD_getElem?, Array.getElem?_setIfInBounds]; simp [hjL]
      omega
    have hsame : Same (app o x sD) (stD all.toList xs (fun k => (L.setIfInBounds j true).getD k false) 0 s) := by
      have h1 : Same (app o x sD) (stD all.toList xs (fun k => L.getD k false || k == j) 0 s) := by
        refine stD_app ho hx hLj (fun k p hk hkj hLk ⟨t, ht1, ht2⟩ => ?_) (fun k y hk hkj hLk ⟨n, hn1, hn2⟩ => ?_)
        · rcases Nat.lt_or_gt_of_ne hkj with h | h
          · exact h
          · have hb := d.tmps ho hk h (.inl ⟨ht1, .inr ht2⟩)
            have := hDb k j (List.getElem?_eq_some_iff.1 hk).1 hLk hb
            simp only [hLj] at this
            cases this
        · rcases Nat.lt_or_gt_of_ne hkj with h | h
          · exact h
          · have hkl : k < all.toList.length := by rw [← d.len]; exact (List.getElem?_eq_some_iff.1 hk).1
            have hp := List.getElem?_eq_getElem hkl
            obtain ⟨y', s2, hy', hs2, hf'⟩ := d.fact k _ hp
            rw [hk] at hy'
            cases hy'
            have hxn : x ≠ none := by rintro rfl; simp [idsOf] at hn1
            have hyn : y ≠ none := by rintro rfl; simp [idsOf] at hn2
            have hrel : n ∈ relO all.toList[k] s2.op := by
              obtain ⟨⟨v, u⟩, rfl⟩ := Option.ne_none_iff_exists'.1 hyn
              exact (opK_ids hf'.2.2 n hn2).1
            have hb := d.objs ho hp h hf hf' hxn hyn hs1 hs2 (.inl ⟨hn1, hrel⟩)
            have := hDb k j hkl hLk hb
            simp only [hLj] at this
            cases this
      exact h1.trans (stD_same (Same.refl s) (fun k _ _ => (hset k).symm))
    have next : ∀ (y : Value) (R'' : Rl), R'.le R'' → SR E.D nt w0 N0 R'' (app o x sD) (a.put o.dst y) → wpAny E.P .any all Q fuel (L.setIfInBounds j true) (a.put o.dst y) R''.w := by
      intro y R'' hle hsr
      exact ih _ _ R'' hcount ⟨by simp [hI.size], hclosed, hI.le.trans hle, hsr.congr (fun n => (hsame.1 n).symm) (fun n => (hsame.2 n).symm)⟩
    unfold wpOp
    simp only [ho']
    cases x with
    | none =>
      have hw := hguard false hf
      rw [if_neg (by simp [hw])]
      exact next undef R' (.refl R') (hI.sr.put (fun d' hd' => hd j o d' ho' hd') (.flat _))
    | some p =>
      obtain ⟨v, u⟩ := p
      have hf0 : OpFact E (drawCk all.toList (ahead all.toList)) all j o (some (v, u)) s1 := hf
      obtain ⟨hg, hck, hk⟩ := hf
      rw [if_pos (hguard true hg)]
      refine .inl ?_
      have hobj : ∀ id, id ∈ relO o s1.op → lk s1.o id = lk sD.o id := by
        intro id hid
        rw [hs1.2 id]
        refine (stD_lk id all.toList xs _ _ 0 s s rfl (fun i z hi hz => ?_)).symm
        simp only [Nat.zero_add]
        have hil : i < all.toList.length := by rw [← d.len]; exact (List.getElem?_eq_some_iff.1 hi).1
        have hp := List.getElem?_eq_getElem hil
        obtain ⟨z', s2, hz', hs2, hf'⟩ := d.fact i _ hp
        rw [hi] at hz'
        cases hz'
        have hzn : z ≠ none := by rintro rfl; simp [idsOf] at hz
        exact agree i hil (fun hlt => d.objs hp ho hlt hf' hf0 hzn (by simp) hs2 hs1 (.inl ⟨hz, hid⟩)) (fun hgt => d.objs ho hp hgt hf0 hf' (by simp) hzn hs1 hs2 (.inr ⟨hz, hid⟩))
      have hk' : opK E o sD.op (lk sD.o) pairK = some (v, u) := by
        rw [← opK_local hop hobj]; exact hk
      obtain ⟨v', u', h1, hgood⟩ := opK_told he hI.sr hk'
      simp only [pairK, Option.some.injEq, Prod.mk.injEq] at h1
      obtain ⟨rfl, rfl⟩ := h1
      exact hgood _ Q (fun y R'' hle hv hsr => next y R'' hle (hsr.put (fun d' hd' => hd j o d' ho' hd') hv))

theorem draw_sound (he : EnvOk E) (hmix : E.P.follows .mixedOrders = true) {id : Nat} (hd : DstOk nt all) {K : St U → Option ρ} {r : ρ} {a : Act} {R : Rl} {Q : Exit → Act → World → Prop}
    (h : SR E.D nt w0 N0 R s a) (hok : drawOkB all (ahead all.toList) = true) (hk : regC E (drawCk all.toList (ahead all.toList)) all 0 all.toList s K = some r)
    (hq : ∀ s' a' R', R.le R' → SR E.D nt w0 N0 R' s' a' → K s' = some r → Q .normal a' R'.w) : (Code.region id all true).wp E.P Q a R.w := by
  obtain ⟨xs, sf, d, hkf, hsf⟩ := drawData hok hk
  refine wp_region_any hmix ?_
  obtain ⟨hle, hsr⟩ := h.drew
  refine draw_any (w0 := w0) (N0 := N0) (R := R) he hd d (fun a' R' hle' hsr' => ?_) all.size _ a { R with w := { R.w with drawn := R.w.drawn + 1 } } ?_ ?_
  · exact hq sf a' R' hle' (hsr'.congr (fun n => hsf.1 n) (fun n => hsf.2 n)) hkf
  · refine Nat.le_trans (List.length_filter_le _ _) (by simp)
  · refine ⟨by simp, fun j o hj hL => ?_, hle, ?_⟩
    · have hlt : j < all.size := by have := (List.getElem?_eq_some_iff.1 hj).1; simpa using this
      simp [Array.getD_eq_getD_getElem?, Array.getElem?_replicate, hlt] at hL
    · rw [stD_none _ _ _ _ _ (fun k _ => by
        simp [Array.getD_eq_getD_getElem?, Array.getElem?_replicate]
        split <;> simp)]
      exact hsr
end
end Go.Ev
