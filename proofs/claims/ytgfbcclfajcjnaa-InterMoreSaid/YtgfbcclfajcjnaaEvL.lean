import Derived.Test.YtgfbcclfajcjnaaEvX
universe u
namespace Go.Ev
set_option linter.unusedVariables false
set_option linter.unusedSimpArgs false
open Go.RowKit (Below)
variable {U : Univ} {ρ : Type}
section
variable {E : Env U} {nt : Nat} {w0 : Cx} {N0 : Nat → Nat → Prop} {all : Array Oper} {xs : List (Res U)} {s : St U}
def wmN (ms : List Nat) (ov : Nat → Option (Obj U)) (st : St U) : St U := { t := st.t, o := (ms.filterMap fun m => (ov m).map fun o => (m, o)) ++ st.o }
theorem wmN_get {ms : List Nat} {ov : Nat → Option (Obj U)} {st : St U} (n : Nat) : (wmN ms ov st).get n = st.get n := rfl
theorem wmN_lk {ov : Nat → Option (Obj U)} {st : St U} : ∀ (ms : List Nat) (n : Nat), lk (wmN ms ov st).o n = if n ∈ ms then (match ov n with | some o => some o | none => lk st.o n) else lk st.o n
  | [], n => by simp [wmN]
  | m :: r, n => by
    have ih := wmN_lk (ov := ov) (st := st) r n
    simp only [wmN] at ih ⊢
    cases hm : ov m with
    | none =>
      simp only [List.filterMap_cons, hm, Option.map_none]
      rw [ih]
      by_cases h1 : n ∈ r
      · simp [h1]
      · by_cases h2 : n = m
        · subst h2; simp [h1, hm]
        · simp [h1, h2]
    | some o =>
      simp only [List.filterMap_cons, hm, Option.map_some, List.cons_append, lk]
      cases hb : Nat.beq m n with
      | true =>
        have := Nat.eq_of_beq_eq_true hb
        subst this
        simp [hm]
      | false =>
        have hne : n ≠ m := fun e => by subst e; rw [Nat.beq_refl] at hb; cases hb
        simp only [cond_false]
        rw [ih]
        simp [hne]
theorem wmN_same {ms : List Nat} {ov : Nat → Option (Obj U)} {st st' : St U} (h : Same st st') : Same (wmN ms ov st) (wmN ms ov st') :=
  ⟨fun n => h.1 n, fun n => by rw [wmN_lk, wmN_lk, h.2 n]⟩
theorem keq_symm (L : Lawful E.D) {c : U.C} {ks : List Nat} (h : E.D.kinds c = some ks) (h0 : ks.all (Nat.beq 0) = true) (x y : U.El c) : E.D.keq c x y = E.D.keq c y x := by
  rw [Bool.eq_iff_iff]
  exact ⟨fun hk => keq_of L h h0 (keq_same L h h0 hk).symm, fun hk => keq_of L h h0 (keq_same L h h0 hk).symm⟩
theorem nodK_pw {α β : Type} {eq : α → α → Bool} : ∀ {l : List (α × β)}, nodK eq l = true ↔ l.Pairwise fun p q => eq p.1 q.1 = false
  | [] => by simp [nodK]
  | p :: r => by
    simp only [nodK, Bool.and_eq_true, List.all_eq_true, Bool.not_eq_true', List.pairwise_cons, nodK_pw (l := r)]
theorem nodK_perm {α β : Type} {eq : α → α → Bool} (hs : ∀ x y, eq x y = eq y x) {l m : List (α × β)} (hp : l.Perm m) (h : nodK eq l = true) : nodK eq m = true :=
  nodK_pw.2 ((hp.pairwise_iff (fun {x y} h => by rw [hs]; exact h)).1 (nodK_pw.1 h))
theorem mput_new {α β : Type} {eq : α → Bool} {k : α} {v : β} : ∀ {l : List (α × β)}, (∀ p ∈ l, eq p.1 = false) → mput eq k v l = l ++ [(k, v)]
  | [], _ => rfl
  | p :: r, h => by
    simp only [mput, h p (by simp), cond_false, List.cons_append]
    rw [mput_new fun q hq => h q (by simp [hq])]
theorem puts_nodK {α β : Type} {eq : α → α → Bool} (hs : ∀ x y, eq x y = eq y x) : ∀ {es l : List (α × β)}, nodK eq (l ++ es) = true → puts eq es l = l ++ es
  | [], l, _ => by simp [puts]
  | p :: r, l, h => by
    have h1 := nodK_pw.1 h
    rw [List.pairwise_append] at h1
    have : mput (eq p.1) p.1 p.2 l = l ++ [p] := mput_new fun q hq => by
      rw [hs]
      exact h1.2.2 q hq p (by simp)
    unfold puts
    rw [List.foldl_cons, this]
    have := puts_nodK hs (es := r) (l := l ++ [p]) (by simpa using h)
    unfold puts at this
    rw [this]
    simp
def entL (E : Env U) (all : Array Oper) (env : List (Nat × MV U)) (sf : St U) (c : MV U) (j : Nat) : Option (U.El c.ck × U.El c.cv) := (all[j]?).bind (litE E env sf c.ck c.cv c.ka c.va)
def consB (all : Array Oper) (spec : List (Nat × List Nat)) (sf : St U) (L : Array Bool) (m : Nat) : Bool := (spec.flatMap (·.2)).any fun j => litUse sf all j == some m && L.getD j false
def ovM (E : Env U) (all : Array Oper) (spec : List (Nat × List Nat)) (env : List (Nat × MV U)) (sf : St U) (τ : Nat → List Nat) (L : Array Bool) (m : Nat) : Option (Obj U) :=
  match consB all spec sf L m with
  | true => some .dead
  | false => match lk env m with
    | none => none
    | some c => match (τ m).filterMap (entL E all env sf c) with
      | [] => none
      | es => some (.map true c.ka c.va c.ck c.cv (puts (E.D.keq c.ck) es []))
structure LitD (E : Env U) (all : Array Oper) (xs : List (Res U)) (s sf : St U) (spec : List (Nat × List Nat)) (env : List (Nat × MV U)) : Prop where
  mp : ∀ m ins, lk spec m = some ins → ∃ c, lk env m = some c ∧ lk sf.o m = some (.map true c.ka c.va c.ck c.cv []) ∧ ins.map (entL E all env sf c) = c.l.map some ∧ nodK (E.D.keq c.ck) c.l = true ∧ ins.Nodup
  ms : ∀ m, m ∈ spec.map (·.1) ↔ ∃ ins, lk spec m = some ins
  mem : ∀ j, j ∈ spec.flatMap (·.2) ↔ ∃ m ins, lk spec m = some ins ∧ j ∈ ins
  one : ∀ m m' ins ins' j, lk spec m = some ins → lk spec m' = some ins' → j ∈ ins → j ∈ ins' → m = m'
  use : ∀ j m', j ∈ spec.flatMap (·.2) → litUse sf all j = some m' → ∃ is, lk spec m' = some is ∧ is ≠ [] ∧ ∀ i ∈ is, bit all.toList j i = true
  use1 : ∀ i j m', i ∈ spec.flatMap (·.2) → j ∈ spec.flatMap (·.2) → litUse sf all i = some m' → litUse sf all j = some m' → i = j
  put : ∀ (j : Nat) (o : Oper) (x : Res U) (s1 : St U), all.toList[j]? = some o → isIns o.op = true → xs[j]? = some x → Same s1 (stD all.toList xs (fun k => decide (k < j)) 0 s) → OpFact E.lazy (drawCk E.lazy all.toList (ahead all.toList)) all j o x s1 →
    ∃ t m k v ins, o.op = .insert t (.tmp m) k v ∧ lk spec m = some ins ∧ j ∈ ins ∧ o.guard = none ∧ o.dst = none ∧ x = some (.undef, []) ∧ s1.op (.tmp m) = .mp m ∧ s1.op k = sf.op k ∧ s1.op v = sf.op v ∧ lk s1.o m = lk sf.o m
  other : ∀ (j : Nat) (o : Oper), all.toList[j]? = some o → isIns o.op = false → j ∉ spec.flatMap (·.2) ∧ ∀ m ins, lk spec m = some ins → (∀ i ∈ ins, j < i ∧ bit all.toList i j = true) ∨ ∀ (x : Res U) (s1 : St U), xs[j]? = some x → x ≠ none → Same s1 (stD all.toList xs (fun k => decide (k < j)) 0 s) → OpFact E.lazy (drawCk E.lazy all.toList (ahead all.toList)) all j o x s1 → ¬ RelA E.lazy o s1.op (lk s1.o) m
  ins : ∀ i ∈ spec.flatMap (·.2), ∃ o, all.toList[i]? = some o ∧ isIns o.op = true
structure InvN (E : Env U) (nt : Nat) (w0 : Cx) (N0 : Nat → Nat → Prop) (R : Rl) (all : Array Oper) (xs : List (Res U)) (s sf : St U) (spec : List (Nat × List Nat)) (env : List (Nat × MV U)) (L : Array Bool) (a : Act) (R' : Rl) (τ : Nat → List Nat) : Prop where
  size : L.size = all.size
  closed : ∀ (j : Nat) (o : Oper), all.toList[j]? = some o → L.getD j false = true → ∀ e ∈ o.after.toList, Region.binds .any e = true → L.getD e.on false = true
  le : R.le R'
  nd : ∀ m, (τ m).Nodup
  mem : ∀ m ins i, lk spec m = some ins → i ∈ τ m → i ∈ ins ∧ L.getD i false = true
  alls : ∀ m ins i, lk spec m = some ins → i ∈ ins → L.getD i false = true → i ∈ τ m
  sr : SR E.D nt w0 N0 R' (wmN (spec.map (·.1)) (ovM E all spec env sf τ L) (stD all.toList xs (fun k => L.getD k false) 0 s)) a
theorem app_wmN {o : Oper} {x : Res U} {ms : List Nat} {ov : Nat → Option (Obj U)} {st : St U} (h : ∀ m ∈ ms, ov m = none ∨ m ∉ idsOf x) : Same (app o x (wmN ms ov st)) (wmN ms ov (app o x st)) := by
  refine ⟨fun n => ?_, fun n => ?_⟩
  · rw [wmN_get, app_get, app_get]
    split
    · rfl
    · exact wmN_get n
  · rw [wmN_lk, app_lk, app_lk]
    cases x with
    | none => exact wmN_lk ms n
    | some p =>
      obtain ⟨v, u⟩ := p
      show lkU u (lk (wmN ms ov st).o) n = if n ∈ ms then (match ov n with | some o => some o | none => lkU u (lk st.o) n) else lkU u (lk st.o) n
      have key : ∀ (u : Eff U) (f : Nat → Option (Obj U)), n ∉ u.map (·.1) → lkU u f n = f n := by
        intro u
        induction u with
        | nil => intro f _; rfl
        | cons p u ih =>
          intro f hu
          rw [List.map_cons, List.mem_cons, not_or] at hu
          rw [lkU_cons, ih _ hu.2, if_neg (fun e => hu.1 e.symm)]
      have key2 : ∀ (u : Eff U) (f g : Nat → Option (Obj U)), f n = g n → lkU u f n = lkU u g n := by
        intro u
        induction u with
        | nil => intro f g h; exact h
        | cons p u ih =>
          intro f g h
          rw [lkU_cons, lkU_cons]
          refine ih _ _ ?_
          split
          · rfl
          · exact h
      by_cases hm : n ∈ ms
      · rw [if_pos hm]
        cases ho : ov n with
        | none => exact key2 u _ _ (by rw [wmN_lk, if_pos hm, ho])
        | some ob =>
          have := (h n hm).resolve_left (by rw [ho]; simp)
          simp only
          rw [key u _ this, wmN_lk, if_pos hm, ho]
      · rw [if_neg hm]
        exact key2 u _ _ (by rw [wmN_lk, if_neg hm])
theorem fm_of_map {α β : Type} {ent : α → Option β} : ∀ {l : List α} {es : List β}, l.map ent = es.map some → l.filterMap ent = es
  | [], [], _ => rfl
  | [], e :: r, h => by cases h
  | i :: l, [], h => by cases h
  | i :: l, e :: r, h => by
    rw [List.map_cons, List.map_cons] at h
    injection h with h1 h2
    rw [List.filterMap_cons, h1]
    simp only
    rw [fm_of_map h2]
theorem keyC_kinds {kt : TypeId} {c : U.C} {g : Bool} {v : AV U} {k : U.El c} (h : keyC E kt c g v = some k) : ∃ ks, E.D.kinds c = some ks ∧ ks.all (Nat.beq 0) = true := by
  unfold keyC at h
  split at h
  · rename_i ks ks' e1 e2
    obtain ⟨hc, _⟩ := cond_none h
    simp only [Bool.and_eq_true] at hc
    exact ⟨ks, e1, hc.1.1.2⟩
  · cases h
theorem litE_kinds {env : List (Nat × MV U)} {sf : St U} {c : MV U} {i : Nat} {e : U.El c.ck × U.El c.cv} (h : entL E all env sf c i = some e) : ∃ ks, E.D.kinds c.ck = some ks ∧ ks.all (Nat.beq 0) = true := by
  unfold entL at h
  obtain ⟨o, _, h⟩ := Option.bind_eq_some_iff.1 h
  unfold litE at h
  split at h
  · split at h
    · split at h
      · rename_i hk _
        exact keyC_kinds hk
      · cases h
    · cases h
  · cases h
theorem draw_insN (he : EnvOk E) (hd : DstOk nt all) (d : DrawData E.lazy all xs s) {sf : St U} {spec : List (Nat × List Nat)} {env : List (Nat × MV U)} (ld : LitD E all xs s sf spec env) {R : Rl} {Q : Exit → Act → World → Prop}
    (hq : ∀ (L : Array Bool) (τ : Nat → List Nat) a R', (∀ k, k < all.size → L.getD k false = true) → InvN E nt w0 N0 R all xs s sf spec env L a R' τ → Q .normal a R'.w) :
    ∀ (fuel : Nat) (L : Array Bool) (a : Act) (R' : Rl) (τ : Nat → List Nat), ((List.range all.size).filter fun i => !L.getD i true).length ≤ fuel → InvN E nt w0 N0 R all xs s sf spec env L a R' τ →
      wpAny E.P .any all Q fuel L a R'.w := by
  have last : ∀ (L : Array Bool) (a : Act) (R' : Rl) (τ : Nat → List Nat), InvN E nt w0 N0 R all xs s sf spec env L a R' τ → Region.ready .any all L = [] → Q .normal a R'.w := by
    intro L a R' τ hI hr
    have hall : ∀ k, k < all.size → L.getD k false = true := by
      intro k
      induction k using Nat.strongRecOn with
      | _ k ih =>
        intro hk
        have hk' : all.toList[k]? = some all[k] := by simp [hk]
        have hL : k < L.size := by rw [hI.size]; exact hk
        cases hb : L.getD k false with
        | true => rfl
        | false =>
          have hb' : L.getD k true = false := by
            rw [Array.getD_eq_getD_getElem?, Array.getElem?_eq_getElem hL] at hb ⊢; exact hb
          have : k ∈ Region.ready .any all L := ready_mem.2 ⟨_, hk', hb', fun e he hbd => ih e.on (d.lt k _ hk' e he hbd) (by have := d.lt k _ hk' e he hbd; omega)⟩
          rw [hr] at this
          cases this
    exact hq L τ a R' hall hI
  intro fuel
  induction fuel with
  | zero =>
    intro L a R' τ hc hI
    have hr : Region.ready .any all L = [] := by
      cases hr : Region.ready .any all L with
      | nil => rfl
      | cons i l =>
        obtain ⟨o, ho, h1, _⟩ := ready_mem.1 (show i ∈ Region.ready .any all L by rw [hr]; simp)
        have hlt : i < all.size := by have := (List.getElem?_eq_some_iff.1 ho).1; simpa using this
        have : i ∈ (List.range all.size).filter fun i => !L.getD i true := List.mem_filter.2 ⟨List.mem_range.2 hlt, by rw [h1]; rfl⟩
        have := List.length_pos_of_mem this
        omega
    exact ⟨hr, last L a R' τ hI hr⟩
  | succ fuel ih =>
    intro L a R' τ hc hI
    refine ⟨last L a R' τ hI, fun j hj => ?_⟩
    obtain ⟨o, ho, hL, hedges⟩ := ready_mem.1 hj
    have hjl : j < all.toList.length := (List.getElem?_eq_some_iff.1 ho).1
    have hjs : j < all.size := by simpa using hjl
    have ho' : all[j]? = some o := by simpa using ho
    have hLj : L.getD j false = false := by
      have : j < L.size := by rw [hI.size]; exact hjs
      rw [Array.getD_eq_getD_getElem?, Array.getElem?_eq_getElem this] at hL ⊢; exact hL
    obtain ⟨x, s1, hx, hs1, hf⟩ := d.fact j o ho
    have hDb := bit_closed d.lt (D := fun k => L.getD k false) hI.closed
    have hjb : ∀ k, bit all.toList j k = true → L.getD k false = true := by
      intro k hb
      obtain ⟨e, he', hbd, h⟩ := (bit_spec d.lt ho k).1 hb
      have hl := d.lt j o ho e he' hbd
      rcases h with h | h
      · rw [← h]; exact hedges e he' hbd
      · exact hDb e.on k (by omega) (hedges e he' hbd) h
    have agree : ∀ i, i < all.toList.length → (i < j → bit all.toList j i = true) → (j < i → bit all.toList i j = true) → L.getD i false = decide (i < j) := by
      intro i hil h1 h2
      by_cases hlt : i < j
      · simp only [hlt, decide_true]; exact hjb i (h1 hlt)
      · by_cases heq : i = j
        · subst heq; simp [hLj]
        · have hgt : j < i := by omega
          simp only [hlt, decide_false]
          cases hb : L.getD i false with
          | false => rfl
          | true =>
            have := hDb i j hil hb (h2 hgt)
            simp only [hLj] at this
            cases this
    let sD := stD all.toList xs (fun k => L.getD k false) 0 s
    let ms := spec.map (·.1)
    let ov := ovM E all spec env sf τ L
    let sT := wmN ms ov sD
    have hget : ∀ t, t ∈ names all o → sD.get t = s1.get t := by
      intro t ht
      rw [hs1.1 t]
      refine stD_get t all.toList xs _ _ 0 s s rfl (fun i p hi hp => ?_)
      simp only [Nat.zero_add]
      exact agree i (List.getElem?_eq_some_iff.1 hi).1 (fun hlt => d.tmps hi ho hlt (.inl ⟨hp, .inl ht⟩)) (fun hgt => d.tmps ho hi hgt (.inr ⟨hp, ht⟩))
    have hget2 : ∀ t, t ∈ names all o → s1.op (.tmp t) = sT.op (.tmp t) := fun t ht => by
      show (bif Nat.blt t gb then s1.get t else .undef) = (bif Nat.blt t gb then sT.get t else .undef)
      rw [show sT.get t = sD.get t from rfl, hget t ht]
    have hop : ∀ z, z ∈ o.op.operands.toList → s1.op z = sT.op z := by
      intro z hz
      cases z with
      | tmp t => exact hget2 t (by simp only [names, List.mem_append, List.mem_filterMap]; exact .inl ⟨_, hz, rfl⟩)
      | _ => rfl
    have hguard : ∀ yes, GuardIs all o s1 yes → Region.wanted o (yielded all a.tmps) = yes := by
      intro yes hg
      rcases hg with ⟨hg, rfl⟩ | ⟨jj, g, b, hg, hjj, hb⟩ | ⟨rfl, jj, g, b, ys, hg, hjj, hb⟩
      · simp [Region.wanted, hg]
      · have hmem : g ∈ names all o := by simp [names, hg, hjj]
        rw [hget2 g hmem] at hb
        have := yielded_of hI.sr hjj hb
        simp only [Region.wanted, hg, this]
        cases b <;> cases yes <;> rfl
      · have hmem : g ∈ names all o := by simp [names, hg, hjj]
        rw [hget2 g hmem] at hb
        have := yielded_no hI.sr hjj hb
        simp [Region.wanted, hg, this]
    have hset : ∀ (k : Nat), (L.setIfInBounds j true).getD k false = (L.getD k false || k == j) := by
      intro k
      have hjL : j < L.size := by rw [hI.size]; exact hjs
      rw [Array.getD_eq_getD_getElem?, Array.getElem?_setIfInBounds]
      by_cases hk : j = k
      · subst hk; simp [hjL]
      · have : (k == j) = false := by simp; omega
        rw [if_neg hk, this, Bool.or_false, Array.getD_eq_getD_getElem?]
    have hclosed : ∀ (i : Nat) (p : Oper), all.toList[i]? = some p → (L.setIfInBounds j true).getD i false = true → ∀ e ∈ p.after.toList, Region.binds .any e = true → (L.setIfInBounds j true).getD e.on false = true := by
      intro i p hi hLi e he' hbd
      rw [hset] at hLi ⊢
      rw [Bool.or_eq_true] at hLi ⊢
      rcases hLi with h | h
      · exact .inl (hI.closed i p hi h e he' hbd)
      · have : i = j := by simpa using h
        subst this
        rw [ho] at hi
        cases hi
        exact .inl (hedges e he' hbd)
    have hcount : ((List.range all.size).filter fun i => !(L.setIfInBounds j true).getD i true).length ≤ fuel := by
      have hjL : j < L.size := by rw [hI.size]; exact hjs
      have : ((List.range all.size).filter fun i => !(L.setIfInBounds j true).getD i true).length < ((List.range all.size).filter fun i => !L.getD i true).length := by
        refine filter_lt _ (fun i _ h => ?_) ⟨j, by simp [hjs], by rw [hL]; rfl, ?_⟩
        · rw [Array.getD_eq_getD_getElem?, Array.getElem?_setIfInBounds] at h
          by_cases hk : j = i
          · subst hk; simp [hjL] at h
          · rw [if_neg hk, ← Array.getD_eq_getD_getElem?] at h; exact h
        · rw [Array.getD_eq_getD_getElem?, Array.getElem?_setIfInBounds]; simp [hjL]
      omega
    have hsame : Same (app o x sD) (stD all.toList xs (fun k => (L.setIfInBounds j true).getD k false) 0 s) := by
      have h1 : Same (app o x sD) (stD all.toList xs (fun k => L.getD k false || k == j) 0 s) := by
        refine stD_app ho hx hLj (fun k p hk hkj hLk ⟨t, ht1, ht2⟩ => ?_) (fun k y hk hkj hLk ⟨n, hn1, hn2⟩ => ?_)
        · rcases Nat.lt_or_gt_of_ne hkj with h | h
          · exact h
          · have hb := d.tmps ho hk h (.inl ⟨ht1, .inr ht2⟩)
            have := hDb k j (List.getElem?_eq_some_iff.1 hk).1 hLk hb
            simp only [hLj] at this
            cases this
        · rcases Nat.lt_or_gt_of_ne hkj with h | h
          · exact h
          · have hkl : k < all.toList.length := by rw [← d.len]; exact (List.getElem?_eq_some_iff.1 hk).1
            have hp := List.getElem?_eq_getElem hkl
            obtain ⟨y', s2, hy', hs2, hf'⟩ := d.fact k _ hp
            rw [hk] at hy'
            cases hy'
            have hxn : x ≠ none := by rintro rfl; simp [idsOf] at hn1
            have hyn : y ≠ none := by rintro rfl; simp [idsOf] at hn2
            have hrel : RelA E.lazy all.toList[k] s2.op (lk s2.o) n := by
              obtain ⟨⟨v, u⟩, rfl⟩ := Option.ne_none_iff_exists'.1 hyn
              exact opA_ids hf'.2.2 n hn2
            have hb := d.objs ho hp h hf hf' hxn hyn hx hs1 hs2 (.inl ⟨hn1, hrel⟩)
            have := hDb k j hkl hLk hb
            simp only [hLj] at this
            cases this
      exact h1.trans (stD_same (Same.refl s) (fun k _ _ => (hset k).symm))
    have hobj : ∀ id, x ≠ none → RelA E.lazy o s1.op (lk s1.o) id → lk s1.o id = lk sD.o id := by
      intro id hxn hid
      rw [hs1.2 id]
      refine (stD_lk id all.toList xs _ _ 0 s s rfl (fun i z hi hz => ?_)).symm
      simp only [Nat.zero_add]
      have hil : i < all.toList.length := by rw [← d.len]; exact (List.getElem?_eq_some_iff.1 hi).1
      have hp := List.getElem?_eq_getElem hil
      obtain ⟨z', s2, hz', hs2, hf'⟩ := d.fact i _ hp
      rw [hi] at hz'
      cases hz'
      have hzn : z ≠ none := by rintro rfl; simp [idsOf] at hz
      exact agree i hil (fun hlt => d.objs hp ho hlt hf' hf hzn hxn hi hs2 hs1 (.inl ⟨hz, hid⟩)) (fun hgt => d.objs ho hp hgt hf hf' hxn hzn hx hs1 hs2 (.inr ⟨hz, hid⟩))
    have hagain : ∀ m ins, lk spec m = some ins → j ∈ ins → consB all spec sf L m = false := by
      intro m ins hm hj'
      refine Classical.byContradiction fun hc => ?_
      have hc : consB all spec sf L m = true := by simpa using hc
      obtain ⟨q, hq1, hq2⟩ := List.any_eq_true.1 hc
      rw [Bool.and_eq_true] at hq2
      obtain ⟨hu, hLq⟩ := hq2
      obtain ⟨is, h1, _, h2⟩ := ld.use q m hq1 (by simpa using hu)
      rw [hm] at h1
      cases h1
      obtain ⟨oq, hoq, _⟩ := ld.ins q hq1
      have := hDb q j (List.getElem?_eq_some_iff.1 hoq).1 hLq (h2 j hj')
      simp only [hLj] at this
      cases this
    have hcons : ∀ m, consB all spec sf (L.setIfInBounds j true) m = (consB all spec sf L m || ((spec.flatMap (·.2)).contains j && litUse sf all j == some m)) := by
      intro m
      unfold consB
      rw [Bool.eq_iff_iff, Bool.or_eq_true, List.any_eq_true, List.any_eq_true, Bool.and_eq_true, List.contains_iff_mem]
      constructor
      · rintro ⟨q, q1, q2⟩
        rw [Bool.and_eq_true, hset, Bool.or_eq_true] at q2
        rcases q2.2 with h | h
        · exact .inl ⟨q, q1, by rw [Bool.and_eq_true]; exact ⟨q2.1, h⟩⟩
        · have : q = j := by simpa using h
          subst this
          exact .inr ⟨q1, q2.1⟩
      · rintro (⟨q, q1, q2⟩ | ⟨h1, h2⟩)
        · rw [Bool.and_eq_true] at q2
          exact ⟨q, q1, by rw [Bool.and_eq_true, hset, q2.2]; exact ⟨q2.1, rfl⟩⟩
        · exact ⟨j, h1, by rw [Bool.and_eq_true, hset]; exact ⟨h2, by simp⟩⟩
    cases hins : isIns o.op with
    | true =>
      obtain ⟨t, m, k, v, ins, hoi, hm, hjm, hg, hdst, hxe, hmp1, hk1, hv1, hlk1⟩ := ld.put j o x s1 ho hins hx hs1 hf
      subst hxe
      have hjf : j ∈ spec.flatMap (·.2) := (ld.mem j).2 ⟨m, ins, hm, hjm⟩
      have hmm : m ∈ ms := (ld.ms m).2 ⟨ins, hm⟩
      obtain ⟨c, hc, hlf, hent, hnk, hndi⟩ := ld.mp m ins hm
      have hcm : consB all spec sf L m = false := hagain m ins hm hjm
      have hlm : lk sD.o m = some (.map true c.ka c.va c.ck c.cv []) := by
        have hr : RelA E.lazy o s1.op (lk s1.o) m := .inl ⟨by simp [isX, hoi], by simp only [apartX, arOp, Bool.false_and, cond_false, apart0, hoi, hmp1, Nat.beq_refl, Bool.not_true]⟩
        rw [← hobj m (by simp) hr, hlk1]
        exact hlf
      have hlT : lk sT.o m = some (.map true c.ka c.va c.ck c.cv (puts (E.D.keq c.ck) ((τ m).filterMap (entL E all env sf c)) [])) := by
        rw [show lk sT.o m = _ from wmN_lk ms m, if_pos hmm]
        simp only [ov, ovM, hcm, hc]
        cases hτ : (τ m).filterMap (entL E all env sf c) with
        | nil => simpa [puts] using hlm
        | cons e r => rfl
      obtain ⟨e, he1⟩ : ∃ e, entL E all env sf c j = some e := by
        obtain ⟨i, hi⟩ := List.getElem?_of_mem hjm
        have := congrArg (fun l => l[i]?) hent
        simp only [List.getElem?_map, hi, Option.map_some] at this
        cases hci : c.l[i]? with
        | none => rw [hci] at this; cases this
        | some e => rw [hci] at this; exact ⟨e, by simpa using this⟩
      have hje : litE E env sf c.ck c.cv c.ka c.va o = some e := by
        unfold entL at he1
        rw [ho'] at he1
        exact he1
      unfold litE at hje
      simp only [hoi] at hje
      split at hje
      rotate_left
      · cases hje
      rename_i kt et hu
      split at hje
      rotate_left
      · cases hje
      rename_i key dat hkey hdat
      have hee : e = (key, dat) := (Option.some.inj hje).symm
      have hks := keyC_kinds hkey
      have hval : ∃ (R1 : Rl) (dd : Option Nat), R1.w = R'.w ∧ R'.le R1 ∧ dd = litUse sf all j ∧ SR E.D nt w0 N0 R1 (match dd with | some m' => sT.setO m' .dead | none => sT) a ∧ VR E.D R1 (litV env (sf.op v)) (a.eval v) ∧
          (∀ m', dd = some m' → m' ≠ m ∧ m' ∈ ms ∧ consB all spec sf L m' = false) := by
        have hvT : sT.op v = sf.op v := by rw [← hop v (by simp [hoi, Op.operands])]; exact hv1
        have hvv := hI.sr.op v
        rw [hvT] at hvv
        cases hlu : litUse sf all j with
        | none =>
          refine ⟨R', none, rfl, .refl R', rfl, hI.sr, ?_, fun _ h => by cases h⟩
          have : litV env (sf.op v) = sf.op v := by
            unfold litUse at hlu
            simp only [ho', hoi] at hlu
            unfold litV
            split
            · rename_i i hi
              rw [hi] at hlu
              cases hlu
            · rfl
          rw [this]
          exact hvv
        | some m' =>
          obtain ⟨is, h1, hisn, h2⟩ := ld.use j m' hjf hlu
          have hmp' : sf.op v = .mp m' := by
            unfold litUse at hlu
            simp only [ho', hoi] at hlu
            split at hlu
            · rename_i i hi
              cases hlu
              exact hi
            · cases hlu
          have hne : m' ≠ m := by
            rintro rfl
            rw [hm] at h1
            cases h1
            have := hjb j (h2 j hjm)
            rw [hLj] at this
            cases this
          have hmm' : m' ∈ ms := (ld.ms m').2 ⟨is, h1⟩
          obtain ⟨c', hc', hlf', hent', hnk', hndi'⟩ := ld.mp m' is h1
          have hcm' : consB all spec sf L m' = false := by
            refine Classical.byContradiction fun hcc => ?_
            have hcc : consB all spec sf L m' = true := by simpa using hcc
            obtain ⟨q, hq1, hq2⟩ := List.any_eq_true.1 hcc
            rw [Bool.and_eq_true] at hq2
            have := ld.use1 q j m' hq1 hjf (by simpa using hq2.1) hlu
            subst this
            rw [hLj] at hq2
            cases hq2.2
          have hperm : (τ m').Perm is := (List.perm_ext_iff_of_nodup (hI.nd m') hndi').2 fun i => ⟨fun h => (hI.mem m' is i h1 h).1, fun h => hI.alls m' is i h1 h (hjb i (h2 i h))⟩
          have hpl : ((τ m').filterMap (entL E all env sf c')).Perm c'.l := by
            have := hperm.filterMap (entL E all env sf c')
            rwa [fm_of_map hent'] at this
          have hne2 : (τ m').filterMap (entL E all env sf c') ≠ [] := by
            intro e0
            rw [e0] at hpl
            have h3 := hpl.length_eq
            have h4 := congrArg List.length hent'
            simp at h3 h4
            cases is with
            | nil => exact hisn rfl
            | cons i l => simp at h4; omega
          have hkk : ∃ ks, E.D.kinds c'.ck = some ks ∧ ks.all (Nat.beq 0) = true := by
            cases is with
            | nil => exact absurd rfl hisn
            | cons i l =>
              simp only [List.map_cons] at hent'
              cases hl' : c'.l with
              | nil => rw [hl'] at hent'; cases hent'
              | cons e0 r0 =>
                rw [hl', List.map_cons] at hent'
                injection hent' with h5 _
                exact litE_kinds h5
          obtain ⟨ks, hks1, hks0⟩ := hkk
          have hsy := keq_symm he.law hks1 hks0
          have hputs : puts (E.D.keq c'.ck) ((τ m').filterMap (entL E all env sf c')) [] = (τ m').filterMap (entL E all env sf c') := by
            have := puts_nodK hsy (es := (τ m').filterMap (entL E all env sf c')) (l := []) (by simpa using nodK_perm hsy hpl.symm hnk')
            simpa using this
          have hlT' : lk sT.o m' = some (.map true c'.ka c'.va c'.ck c'.cv ((τ m').filterMap (entL E all env sf c'))) := by
            rw [show lk sT.o m' = _ from wmN_lk ms m', if_pos hmm']
            simp only [ov, ovM, hcm', hc']
            cases hτ : (τ m').filterMap (entL E all env sf c') with
            | nil => exact absurd hτ hne2
            | cons e r =>
              rw [hτ] at hputs
              simp only [hputs]
          obtain ⟨R1, hw1, hle1, hs1', hfm⟩ := hI.sr.deadM hlT'
          have hfm' : ∀ y, VR E.D R' (.mp m') y → VR E.D R1 c'.av y := fun y hy => by
            obtain ⟨B, _, rfl⟩ := hy.mp_inv
            exact .fmp hpl hnk' (hfm _ hy)
          refine ⟨R1, some m', hw1, hle1, rfl, hs1', ?_, fun m2 h3 => by cases h3; exact ⟨hne, hmm', hcm'⟩⟩
          rw [hmp'] at hvv ⊢
          simp only [litV, hc']
          exact hfm' _ hvv
      obtain ⟨R1, dd, hw1, hle1, hdd, hsr1, hvr1, hdd2⟩ := hval
      generalize hs2e : (match dd with | some m' => sT.setO m' .dead | none => sT) = s2 at hsr1
      have hs2get : s2.op = sT.op := by
        rw [← hs2e]
        cases dd <;> rfl
      have hs2t : ∀ n, s2.get n = sD.get n := by
        intro n
        rw [← hs2e]
        cases dd <;> rfl
      have hs2m : lk s2.o m = lk sT.o m := by
        rw [← hs2e]
        cases hdc : dd with
        | none => rfl
        | some m' =>
          have := (hdd2 m' hdc).1
          show lk (sT.setO m' .dead).o m = _
          rw [lk_setO, if_neg this]
      have hkT : sT.op k = sf.op k := by rw [← hop k (by simp [hoi, Op.operands])]; exact hk1
      have hmT : sT.op (.tmp m) = .mp m := by rw [← hop (.tmp m) (by simp [hoi, Op.operands])]; exact hmp1
      have hup : updateX E (lk s2.o) t (s2.op (.tmp m)) (s2.op k).drop (nilM E t (litV env (sf.op v)).drop) pairK = some (.undef, [(m, .map true c.ka c.va c.ck c.cv (mput (E.D.keq c.ck e.1) e.1 e.2 (puts (E.D.keq c.ck) ((τ m).filterMap (entL E all env sf c)) [])))]) := by
        rw [hs2get, hkT, hmT]
        unfold updateX
        simp only [hu, hs2m, hlT, hkey, hdat, pairK, hee]
      unfold wpOp
      simp only [ho']
      rw [if_pos (hguard true hf.1)]
      refine .inl ?_
      obtain ⟨v', u', h1, hgood⟩ := updateX_told he hsr1 (.inr hoi) (vr_nilM hvr1.drop) hup
      simp only [pairK, Option.some.injEq, Prod.mk.injEq] at h1
      obtain ⟨rfl, rfl⟩ := h1
      rw [← hw1]
      refine hgood _ Q (fun y R'' hle hv hsr => ?_)
      have hjt : ∀ m', j ∉ τ m' ∨ lk spec m' = none := fun m' => by
        cases hsp : lk spec m' with
        | none => exact .inr rfl
        | some is =>
          refine .inl fun h => ?_
          have := (hI.mem m' is j hsp h).2
          rw [hLj] at this
          cases this
      let τ' : Nat → List Nat := fun n => if n = m then τ m ++ [j] else τ n
      have hτm : τ' m = τ m ++ [j] := by simp [τ']
      have hτn : ∀ n, n ≠ m → τ' n = τ n := fun n hn => by simp [τ', hn]
      have hfm : (τ' m).filterMap (entL E all env sf c) = (τ m).filterMap (entL E all env sf c) ++ [e] := by
        rw [hτm, List.filterMap_append]
        simp [he1]
      have hcj : (spec.flatMap (·.2)).contains j = true := List.contains_iff_mem.2 hjf
      have hcn : ∀ n, consB all spec sf (L.setIfInBounds j true) n = (consB all spec sf L n || dd == some n) := fun n => by
        rw [hcons, hcj, Bool.true_and, hdd]
      have hovm : ovM E all spec env sf τ' (L.setIfInBounds j true) m = some (.map true c.ka c.va c.ck c.cv (mput (E.D.keq c.ck e.1) e.1 e.2 (puts (E.D.keq c.ck) ((τ m).filterMap (entL E all env sf c)) []))) := by
        have h3 : consB all spec sf (L.setIfInBounds j true) m = false := by
          rw [hcn, hcm, Bool.false_or]
          cases hdc : dd with
          | none => rfl
          | some m' =>
            have := (hdd2 m' hdc).1
            simpa using this
        simp only [ovM, h3, hc, hfm]
        cases hτ : (τ m).filterMap (entL E all env sf c) with
        | nil => rfl
        | cons e0 r0 =>
          simp only [List.cons_append]
          unfold puts
          rw [← List.cons_append, List.foldl_append]
          rfl
      have hst : Same (wmN ms (ovM E all spec env sf τ' (L.setIfInBounds j true)) (stD all.toList xs (fun k => (L.setIfInBounds j true).getD k false) 0 s)) (s2.upd [(m, .map true c.ka c.va c.ck c.cv (mput (E.D.keq c.ck e.1) e.1 e.2 (puts (E.D.keq c.ck) ((τ m).filterMap (entL E all env sf c)) [])))]) := by
        have hsd : Same sD (stD all.toList xs (fun k => (L.setIfInBounds j true).getD k false) 0 s) := by
          have := hsame
          unfold app at this
          rw [hdst] at this
          exact this
        refine ⟨fun n => ?_, fun n => ?_⟩
        · rw [wmN_get, ← hsd.1 n]
          exact (hs2t n).symm
        · rw [wmN_lk, ← hsd.2 n]
          show _ = lk (s2.setO m _).o n
          rw [lk_setO]
          by_cases hmn : m = n
          · subst hmn
            rw [if_pos rfl, if_pos hmm, hovm]
          · rw [if_neg hmn]
            have hnm : n ≠ m := fun e => hmn e.symm
            have hs2n : lk s2.o n = if dd = some n then some .dead else lk sT.o n := by
              rw [← hs2e]
              cases hdc : dd with
              | none => rw [if_neg (by simp)]
              | some m' =>
                show lk (sT.setO m' .dead).o n = _
                rw [lk_setO]
                by_cases h5 : m' = n
                · rw [if_pos h5, if_pos (by rw [h5])]
                · rw [if_neg h5, if_neg (fun h => h5 (Option.some.inj h))]
            rw [hs2n, show lk sT.o n = _ from wmN_lk ms n]
            have hovn : ovM E all spec env sf τ' (L.setIfInBounds j true) n = if dd = some n then some .dead else ov n := by
              simp only [ov, ovM, hcn, hτn n hnm]
              by_cases h5 : dd = some n
              · rw [if_pos h5]
                have : (dd == some n) = true := by simpa using h5
                rw [this, Bool.or_true]
              · rw [if_neg h5]
                have : (dd == some n) = false := by simpa using h5
                rw [this, Bool.or_false]
            by_cases hn : n ∈ ms
            · rw [if_pos hn, if_pos hn, hovn]
              by_cases h5 : dd = some n
              · rw [if_pos h5, if_pos h5]
              · rw [if_neg h5, if_neg h5]
            · rw [if_neg hn, if_neg hn, if_neg]
              intro h5
              exact hn (hdd2 n h5).2.1
      have hsr2 : SR E.D nt w0 N0 R'' (wmN ms (ovM E all spec env sf τ' (L.setIfInBounds j true)) (stD all.toList xs (fun k => (L.setIfInBounds j true).getD k false) 0 s)) (a.put o.dst y) := by
        rw [hdst]
        exact hsr.congr (fun n => hst.1 n) (fun n => hst.2 n)
      refine ih _ _ R'' τ' hcount ⟨by simp [hI.size], hclosed, hI.le.trans (hle1.trans hle), fun n => ?_, fun n is i hn hi => ?_, fun n is i hn hi hLi => ?_, hsr2⟩
      · by_cases hnm : n = m
        · subst hnm
          rw [hτm, List.nodup_append]
          refine ⟨hI.nd n, by simp, fun b hb c' hc' e1 => ?_⟩
          rw [List.mem_singleton.1 hc'] at e1
          rcases hjt n with h | h
          · exact h (e1 ▸ hb)
          · rw [hm] at h; cases h
        · rw [hτn n hnm]; exact hI.nd n
      · rw [hset]
        by_cases hnm : n = m
        · subst hnm
          rw [hm] at hn
          cases hn
          rw [hτm] at hi
          rcases List.mem_append.1 hi with hi | hi
          · obtain ⟨h5, h6⟩ := hI.mem n ins i hm hi
            exact ⟨h5, by rw [h6]; rfl⟩
          · rw [List.mem_singleton.1 hi]
            exact ⟨hjm, by simp⟩
        · rw [hτn n hnm] at hi
          obtain ⟨h5, h6⟩ := hI.mem n is i hn hi
          exact ⟨h5, by rw [h6]; rfl⟩
      · rw [hset, Bool.or_eq_true] at hLi
        by_cases hnm : n = m
        · subst hnm
          rw [hτm]
          rcases hLi with h | h
          · exact List.mem_append_left _ (hI.alls n is i hn hi h)
          · have : i = j := by simpa using h
            rw [this]
            simp
        · rw [hτn n hnm]
          rcases hLi with h | h
          · exact hI.alls n is i hn hi h
          · have : i = j := by simpa using h
            subst this
            exact absurd (ld.one n m is ins i hn hm hi hjm) hnm
    | false =>
      obtain ⟨hjn, hoth⟩ := ld.other j o ho hins
      have hcn : ∀ n, consB all spec sf (L.setIfInBounds j true) n = consB all spec sf L n := fun n => by
        rw [hcons]
        have : (spec.flatMap (·.2)).contains j = false := by
          rw [← Bool.not_eq_true, List.contains_iff_mem]
          exact hjn
        rw [this, Bool.false_and, Bool.or_false]
      have hovn : ovM E all spec env sf τ (L.setIfInBounds j true) = ov := by
        funext n
        simp only [ov, ovM, hcn]
      have hfree : ∀ m ∈ ms, ov m = none ∨ (x ≠ none → ¬ RelA E.lazy o s1.op (lk s1.o) m) := by
        intro m hmm
        obtain ⟨ins, hm⟩ := (ld.ms m).1 hmm
        rcases hoth m ins hm with h | h
        · left
          have hnone : ∀ i ∈ ins, L.getD i false = false := fun i hi => by
            cases hLi : L.getD i false with
            | false => rfl
            | true =>
              obtain ⟨oi, hoi, _⟩ := ld.ins i ((ld.mem i).2 ⟨m, ins, hm, hi⟩)
              have := hDb i j (List.getElem?_eq_some_iff.1 hoi).1 hLi (h i hi).2
              simp only [hLj] at this
              cases this
          have hcm : consB all spec sf L m = false := by
            refine Classical.byContradiction fun hc => ?_
            have hc : consB all spec sf L m = true := by simpa using hc
            obtain ⟨q, hq1, hq2⟩ := List.any_eq_true.1 hc
            rw [Bool.and_eq_true] at hq2
            obtain ⟨hu, hLq⟩ := hq2
            obtain ⟨is, h1, hne, h2⟩ := ld.use q m hq1 (by simpa using hu)
            rw [hm] at h1
            cases h1
            cases hi : ins with
            | nil => exact hne hi
            | cons i l =>
              have hii : i ∈ ins := by rw [hi]; simp
              obtain ⟨oq, hoq, _⟩ := ld.ins q hq1
              have := hDb q i (List.getElem?_eq_some_iff.1 hoq).1 hLq (h2 i hii)
              simp only [hnone i hii] at this
              cases this
          simp only [ov, ovM, hcm]
          cases hc : lk env m with
          | none => rfl
          | some c =>
            have : τ m = [] := by
              cases hτ : τ m with
              | nil => rfl
              | cons i r =>
                obtain ⟨h1, h2⟩ := hI.mem m ins i hm (by rw [hτ]; simp)
                rw [hnone i h1] at h2
                cases h2
            simp only [this, List.filterMap_nil]
        · exact .inr fun hxn => h x s1 hx hxn hs1 hf
      have hfree2 : ∀ m ∈ ms, ov m = none ∨ m ∉ idsOf x := by
        intro m hmm
        rcases hfree m hmm with h | h
        · exact .inl h
        · right
          cases x with
          | none => simp [idsOf]
          | some p =>
            obtain ⟨v, u⟩ := p
            exact fun hm => h (by simp) (opA_ids hf.2.2 m hm)
      have next : ∀ (y : Value) (R'' : Rl), R'.le R'' → SR E.D nt w0 N0 R'' (app o x sT) (a.put o.dst y) → wpAny E.P .any all Q fuel (L.setIfInBounds j true) (a.put o.dst y) R''.w := by
        intro y R'' hle hsr
        have hst : Same (wmN ms ov (stD all.toList xs (fun k => (L.setIfInBounds j true).getD k false) 0 s)) (app o x sT) := (wmN_same hsame.symm).trans (app_wmN hfree2).symm
        refine ih _ _ R'' τ hcount ⟨by simp [hI.size], hclosed, hI.le.trans hle, hI.nd, fun m ins i hm hi => ⟨(hI.mem m ins i hm hi).1, by rw [hset, (hI.mem m ins i hm hi).2]; rfl⟩, fun m ins i hm hi hLi => ?_, by rw [hovn]; exact hsr.congr (fun n => hst.1 n) (fun n => hst.2 n)⟩
        rw [hset, Bool.or_eq_true] at hLi
        rcases hLi with h | h
        · exact hI.alls m ins i hm hi h
        · have : i = j := by simpa using h
          rw [this] at hi
          exact absurd ((ld.mem j).2 ⟨m, ins, hm, hi⟩) hjn
      unfold wpOp
      simp only [ho']
      cases x with
      | none =>
        have hw := hguard false hf
        rw [if_neg (by simp [hw])]
        exact next undef R' (.refl R') (hI.sr.put (fun d' hd' => hd j o d' ho' hd') (.flat _))
      | some p =>
        obtain ⟨v, u⟩ := p
        obtain ⟨hg, hck, hk⟩ := hf
        rw [if_pos (hguard true hg)]
        refine .inl ?_
        have hk' : opA E o sT.op (lk sT.o) pairK = some (v, u) := by
          rw [← opA_local hop (ob := lk s1.o) (fun id hid => ?_)]
          · rw [← opA_lazy hins]
            exact hk
          · have hid' : RelA E.lazy o s1.op (lk s1.o) id := by
              rcases hid with ⟨h1, h2⟩ | h
              · exact .inl ⟨by rw [isX_lazy]; exact h1, by rw [apartX_lazy]; exact h2⟩
              · exact .inr h
            rw [show lk sT.o id = _ from wmN_lk ms id, hobj id (by simp) hid']
            by_cases hin : id ∈ ms
            · rw [if_pos hin]
              rcases hfree id hin with h | h
              · rw [h]
              · exact absurd hid' (h (by simp))
            · rw [if_neg hin]
        obtain ⟨v', u', h1, hgood⟩ := opA_told he hI.sr hk'
        simp only [pairK, Option.some.injEq, Prod.mk.injEq] at h1
        obtain ⟨rfl, rfl⟩ := h1
        exact hgood _ Q (fun y R'' hle hv hsr => next y R'' hle (hsr.put (fun d' hd' => hd j o d' ho' hd') hv))
theorem lkmap {α β : Type u} (f : α → β) : ∀ (l : List (Nat × α)) (n : Nat), lk (l.map fun p => (p.1, f p.2)) n = (lk l n).map f
  | [], _ => rfl
  | (k, v) :: r, n => by
    simp only [List.map_cons, lk]
    cases Nat.beq k n with
    | true => rfl
    | false => simp only [cond_false]; exact lkmap f r n
theorem nodupB_nodup : ∀ {l : List Nat}, nodupB l = true → l.Nodup
  | [], _ => List.nodup_nil
  | n :: r, h => by
    simp only [nodupB, Bool.and_eq_true, Bool.not_eq_true'] at h
    refine List.nodup_cons.2 ⟨fun hm => ?_, nodupB_nodup h.2⟩
    have := List.any_eq_false.1 h.1 n hm
    rw [Nat.beq_refl] at this
    exact this rfl
theorem lk_of_mem {α : Type u} : ∀ {l : List (Nat × α)} {n : Nat} {v : α}, (l.map (·.1)).Nodup → (n, v) ∈ l → lk l n = some v
  | [], _, _, _, h => by cases h
  | (k, u) :: r, n, v, hn, h => by
    rw [List.map_cons, List.nodup_cons] at hn
    simp only [lk]
    rcases List.mem_cons.1 h with h | h
    · cases h; rw [Nat.beq_refl]; rfl
    · cases hb : Nat.beq k n with
      | true =>
        have := Nat.eq_of_beq_eq_true hb
        subst this
        exact absurd (List.mem_map.2 ⟨_, h, rfl⟩) hn.1
      | false => exact lk_of_mem hn.2 h
theorem filterMap_inj {α β : Type} {f : α → Option β} : ∀ {l : List α}, (l.filterMap f).Nodup → ∀ {i j : α} {m : β}, i ∈ l → j ∈ l → f i = some m → f j = some m → i = j
  | [], _, _, _, _, h, _, _, _ => by cases h
  | x :: r, hn, i, j, m, hi, hj, h1, h2 => by
    rw [List.filterMap_cons] at hn
    have hmem : ∀ k ∈ r, f k = some m → m ∈ r.filterMap f := fun k hk hf => List.mem_filterMap.2 ⟨k, hk, hf⟩
    rcases List.mem_cons.1 hi with ei | hi <;> rcases List.mem_cons.1 hj with ej | hj
    · rw [ei, ej]
    · rw [ei] at h1
      rw [h1] at hn
      exact absurd (hmem j hj h2) (List.nodup_cons.1 hn).1
    · rw [ej] at h2
      rw [h2] at hn
      exact absurd (hmem i hi h1) (List.nodup_cons.1 hn).1
    · refine filterMap_inj ?_ hi hj h1 h2
      cases hx : f x with
      | none => rw [hx] at hn; exact hn
      | some y => rw [hx] at hn; exact (List.nodup_cons.1 hn).2
theorem litFree_rel {ms : List Nat} {m : Nat} (hm : m ∈ ms) {o : Oper} {s : St U} (h : litFree E ms o s = true) (h1 : isIns o.op = false) (h2 : ∀ t, o.op ≠ .makeMap t none) (h3 : ∀ t n, o.op ≠ .makeMap t (some n)) : ¬ RelA E o s.op (lk s.o) m := by
  unfold litFree at h
  split at h
  · rename_i ho; rw [ho] at h1; cases h1
  · rename_i t n ho
    cases n with
    | none => exact absurd ho (h2 t)
    | some n => exact absurd ho (h3 t n)
  · rw [Bool.and_eq_true, Bool.not_eq_true', Bool.not_eq_true'] at h
    rintro (⟨hx, _⟩ | hr)
    · rw [h.1] at hx; cases hx
    · have h5 : litFree.relL o s.op = relO o s.op := rfl
      rw [h5] at h
      have := List.any_eq_false.1 h.2 m hr
      exact this (List.any_eq_true.2 ⟨m, hm, Nat.beq_refl m⟩)
theorem litCk_same {ms : List Nat} (j : Nat) (o : Oper) (s s' : St U) (h : Same s s') : litCk E all ms j o s = litCk E all ms j o s' := by
  have hop : s.op = s'.op := funext fun x => op_congr (fun n => h.1 n) x
  unfold litCk litFree
  rw [drawCk_same j o s s' h, hop]
theorem litE_ext (L : Lawful E.D) {env1 env : List (Nat × MV U)} (hx : ∀ i c, lk env1 i = some c → lk env i = some c) {sf : St U} {ck cv : U.C} {ka va : Bool} {o : Oper} {e : U.El ck × U.El cv} (h : litE E env1 sf ck cv ka va o = some e) : litE E env sf ck cv ka va o = some e := by
  unfold litE at h ⊢
  split at h
  · rename_i t m k v hop
    split at h
    · rename_i kt et hu
      split at h
      · rename_i kk x hk hd
        have : litV env (sf.op v) = litV env1 (sf.op v) := by
          unfold litV at hd ⊢
          split
          · rename_i i hi
            rw [hi] at hd
            simp only at hd ⊢
            cases h1 : lk env1 i with
            | some c => rw [hx i c h1]
            | none =>
              exfalso
              rw [h1] at hd
              have e1 : nilM E t (AV.mp i).drop = .mp i := by unfold nilM; split <;> rfl
              simp only [e1] at hd
              unfold datum at hd
              split at hd
              · rename_i e2; cases e2
              · rename_i e2; cases e2
              · cases hd
              · have h4 := L.dec_enc _ _ _ hd
                have := L.enc_c0 _ x (.mp i) (by rw [← h4]; simp)
                cases this
              · cases hd
          · rfl
        rw [this]
        simp only [hk, hd]
        exact h
      · cases h
    · cases h
  · cases h
theorem litEs_map (L : Lawful E.D) {env1 env : List (Nat × MV U)} (hx : ∀ i c, lk env1 i = some c → lk env i = some c) {sf : St U} {c : MV U} : ∀ {ins : List Nat} {l : List (U.El c.ck × U.El c.cv)}, litEs E env1 sf c.ck c.cv c.ka c.va all ins = some l → ins.map (entL E all env sf c) = l.map some
  | [], l, h => by cases h; rfl
  | i :: r, l, h => by
    unfold litEs at h
    split at h
    · rename_i o ho
      split at h
      · rename_i e l' he hl
        cases h
        rw [List.map_cons, List.map_cons, litEs_map L hx hl]
        congr 1
        unfold entL
        rw [ho]
        exact litE_ext L hx he
      · cases h
    · cases h
theorem litM_inv {env : List (Nat × MV U)} {sf : St U} {m : Nat} {ins : List Nat} {c : MV U} (h : litM E all env sf m ins = some c) :
    sf.op (.tmp m) = .mp m ∧ lk sf.o m = some (.map true c.ka c.va c.ck c.cv []) ∧ litEs E env sf c.ck c.cv c.ka c.va all ins = some c.l ∧ nodK (E.D.keq c.ck) c.l = true := by
  unfold litM at h
  split at h
  · rename_i m' hm
    split at h
    · rename_i ka va ck cv ho
      cases hb : Nat.beq m' m with
      | false => rw [hb] at h; cases h
      | true =>
        rw [hb, cond_true] at h
        have := Nat.eq_of_beq_eq_true hb
        subst this
        obtain ⟨es, he, h⟩ := Option.bind_eq_some_iff.1 h
        cases hn : nodK (E.D.keq ck) es with
        | false => rw [hn] at h; cases h
        | true =>
          rw [hn, cond_true] at h
          cases h
          exact ⟨hm, ho, he, hn⟩
    · cases h
  · cases h
theorem litN_get {sf : St U} : ∀ {spec : List (Nat × List Nat)} {env0 env : List (Nat × MV U)}, (spec.map (·.1)).Nodup → (∀ m ∈ spec.map (·.1), lk env0 m = none) → litN E all sf spec env0 = some env →
    (∀ i c, lk env0 i = some c → lk env i = some c) ∧ (∀ p ∈ env, p ∈ env0 ∨ p.1 ∈ spec.map (·.1)) ∧ ∀ m ins, (m, ins) ∈ spec → ∃ c env1, lk env m = some c ∧ litM E all env1 sf m ins = some c ∧ ∀ i c, lk env1 i = some c → lk env i = some c
  | [], env0, env, _, _, h => by
    cases h
    exact ⟨fun _ _ h => h, fun p hp => .inl hp, fun m ins hm => (by cases hm)⟩
  | (m, ins) :: r, env0, env, hn, h0, h => by
    simp only [litN] at h
    obtain ⟨c, hc, h⟩ := Option.bind_eq_some_iff.1 h
    rw [List.map_cons, List.nodup_cons] at hn
    obtain ⟨h1, h2, h3⟩ := litN_get hn.2 (fun k hk => by
      simp only [lk]
      cases hb : Nat.beq m k with
      | true =>
        have := Nat.eq_of_beq_eq_true hb
        subst this
        exact absurd hk hn.1
      | false => exact h0 k (by simp only [List.map_cons, List.mem_cons]; exact .inr hk)) h
    have hx : ∀ i c', lk env0 i = some c' → lk env i = some c' := fun i c' hi => h1 i c' (by
      simp only [lk]
      cases hb : Nat.beq m i with
      | true =>
        have := Nat.eq_of_beq_eq_true hb
        subst this
        rw [h0 m (by simp)] at hi
        cases hi
      | false => exact hi)
    refine ⟨hx, fun p hp => ?_, fun m' ins' hm => ?_⟩
    · rcases h2 p hp with h | h
      · rcases List.mem_cons.1 h with h | h
        · exact .inr (by rw [h]; simp)
        · exact .inl h
      · exact .inr (by simp only [List.map_cons, List.mem_cons]; exact .inr h)
    · rcases List.mem_cons.1 hm with h | h
      · cases h
        exact ⟨c, env0, h1 m c (by simp [lk]), hc, hx⟩
      · exact h3 m' ins' h
theorem nodup_part : ∀ {l : List (Nat × List Nat)}, (l.flatMap (·.2)).Nodup → ∀ p ∈ l, p.2.Nodup
  | [], _, _, h => by cases h
  | q :: r, hn, p, h => by
    rw [List.flatMap_cons, List.nodup_append] at hn
    rcases List.mem_cons.1 h with h | h
    · rw [h]; exact hn.1
    · exact nodup_part hn.2.1 p h
theorem draw_lit (he : EnvOk E) (hmix : E.P.follows .mixedOrders = true) {id : Nat} (hd : DstOk nt all) {spec : List (Nat × List Nat)} {K : St U → Option ρ} {r : ρ} {a : Act} {R : Rl} {Q : Exit → Act → World → Prop}
    (h : SR E.D nt w0 N0 R s a) (hok : drawOkB all (ahead all.toList) = true) (hlit : litOkB all spec = true) (hk : regC E.lazy (litCk E.lazy all (spec.map (·.1))) all 0 all.toList s (fun s' => litK E all spec s' K) = some r)
    (hq : ∀ s' a' R', R.le R' → SR E.D nt w0 N0 R' s' a' → K s' = some r → Q .normal a' R'.w) : (Code.region id all true).wp E.P Q a R.w := by
  obtain ⟨xs, sf, hlen, hkf, hsf, hfacts⟩ := regC_runs (fun j o s s' h => litCk_same j o s s' h) all.toList 0 s hk
  have hfacts : ∀ (k : Nat) (o : Oper), all.toList[k]? = some o → ∃ x s1, xs[k]? = some x ∧ Same s1 (stD all.toList xs (fun m => decide (m < k)) 0 s) ∧ OpFact E.lazy (drawCk E.lazy all.toList (ahead all.toList)) all k o x s1 ∧ (x ≠ none → litFree E.lazy (spec.map (·.1)) o s1 = true) := by
    intro k o hk
    obtain ⟨x, s1, h1, h2, h3⟩ := hfacts k o hk
    rw [Nat.zero_add] at h2 h3
    refine ⟨x, s1, h1, h2, ?_, fun hx => ?_⟩
    · cases x with
      | none => exact h3
      | some p =>
        obtain ⟨h4, h5, h6⟩ := h3
        unfold litCk at h5
        rw [Bool.and_eq_true] at h5
        exact ⟨h4, h5.1, h6⟩
    · obtain ⟨p, rfl⟩ := Option.ne_none_iff_exists'.1 hx
      obtain ⟨h4, h5, h6⟩ := h3
      unfold litCk at h5
      rw [Bool.and_eq_true] at h5
      exact h5.2
  have d : DrawData E.lazy all xs s := by
    refine ⟨hlen, fun k o hk => ?_, fun j o hj e he hb => ?_, fun i j p o hi hj hlt => ?_⟩
    · obtain ⟨x, s1, h1, h2, h3, _⟩ := hfacts k o hk
      exact ⟨x, s1, h1, h2, h3⟩
    · have := zipIdx_all hok j o hj
      simp only [Bool.and_eq_true] at this
      have := Array.all_eq_true_iff_forall_mem.1 this.1.2 e (by simpa using he)
      simp only [hb, Bool.not_true, Bool.false_or] at this
      exact Nat.le_of_ble_eq_true this
    · have := zipIdx_all hok j o hj
      simp only [Bool.and_eq_true] at this
      have := zipIdx_all this.1.1 i p hi
      have hb : Nat.blt i j = true := by simp [Nat.blt]; omega
      simp only [hb, Bool.not_true, Bool.false_or, Bool.or_eq_true] at this
      exact this
  unfold litK at hkf
  split at hkf
  case h_2 => cases hkf
  rename_i root c0 env' henv
  obtain ⟨huse, hkf⟩ := cond_none hkf
  unfold litOkB at hlit
  simp only [Bool.and_eq_true] at hlit
  obtain ⟨⟨⟨hB, hnd⟩, hndm⟩, hall⟩ := hlit
  have hnd := nodupB_nodup hnd
  have hndm := nodupB_nodup hndm
  unfold litUseOk at huse
  simp only [Bool.and_eq_true, Bool.not_eq_true'] at huse
  obtain ⟨⟨⟨hu1, hu2⟩, hu3⟩, hu4⟩ := huse
  have hu1 := nodupB_nodup hu1
  obtain ⟨_, hroot, hget⟩ := litN_get hndm (fun _ _ => rfl) henv
  generalize hev : ((root, c0) :: env') = env at hget hroot
  have hrc : lk env root = some c0 := by rw [← hev]; simp [lk]
  have hrm : root ∈ spec.map (·.1) := by
    rcases hroot (root, c0) (by rw [← hev]; simp) with h | h
    · cases h
    · exact h
  have hlkm : ∀ m ins, lk spec m = some ins ↔ (m, ins) ∈ spec := fun m ins => ⟨lk_mem, lk_of_mem hndm⟩
  have hms : ∀ m, m ∈ spec.map (·.1) ↔ ∃ ins, lk spec m = some ins := fun m => ⟨fun h => by
    obtain ⟨p, hp, rfl⟩ := List.mem_map.1 h
    exact ⟨p.2, (hlkm _ _).2 hp⟩, fun ⟨ins, h⟩ => List.mem_map.2 ⟨_, lk_mem h, rfl⟩⟩
  have hmem : ∀ j, j ∈ spec.flatMap (·.2) ↔ ∃ m ins, lk spec m = some ins ∧ j ∈ ins := fun j => by
    rw [List.mem_flatMap]
    exact ⟨fun ⟨p, hp, hj⟩ => ⟨p.1, p.2, (hlkm _ _).2 hp, hj⟩, fun ⟨m, ins, hm, hj⟩ => ⟨(m, ins), lk_mem hm, hj⟩⟩
  have hinsop : ∀ m ins i, lk spec m = some ins → i ∈ ins → ∃ o t k v, all.toList[i]? = some o ∧ o.op = .insert t (.tmp m) k v ∧ steadyOps all.toList i o = true := fun m ins i hm hi => by
    have h1 := List.all_eq_true.1 hall (m, ins) (lk_mem hm)
    rw [Bool.and_eq_true] at h1
    have := List.all_eq_true.1 h1.2 i hi
    split at this
    · rename_i o ho
      simp only [Bool.and_eq_true] at this
      obtain ⟨⟨h2, h3⟩, h4⟩ := this
      split at h4
      · rename_i t n k v hop
        have := Nat.eq_of_beq_eq_true h4
        subst this
        exact ⟨o, t, k, v, by simpa using ho, hop, h3⟩
      · cases h4
    · cases this
  have hne : ∀ m ins, lk spec m = some ins → ins ≠ [] := fun m ins hm => by
    have h1 := List.all_eq_true.1 hall (m, ins) (lk_mem hm)
    rw [Bool.and_eq_true] at h1
    rintro rfl
    cases h1.1
  have hins : ∀ (j : Nat) (o : Oper), all.toList[j]? = some o → isIns o.op = true → ∃ t m k v ins, o.op = .insert t (.tmp m) k v ∧ lk spec m = some ins ∧ j ∈ ins ∧ o.guard = none ∧ o.dst = none ∧ steadyOps all.toList j o = true := by
    intro j o ho hi
    have hb := zipIdx_all hB j o ho
    unfold isIns at hi
    split at hi
    · rename_i t x k v hop
      unfold litB at hb
      simp only [hop, Bool.and_eq_true] at hb
      obtain ⟨⟨b2, b3⟩, b4⟩ := hb
      split at b2
      · rename_i n
        split at b2
        · rename_i is his
          have hj : j ∈ is := by simpa using b2
          obtain ⟨o', t', k', v', ho', hop', hst⟩ := hinsop n is j his hj
          rw [ho] at ho'
          cases ho'
          exact ⟨t, n, k, v, is, hop, his, hj, by simpa using b3, by simpa using b4, hst⟩
        · cases b2
      · cases b2
    · cases hi
  have hsfl : Same sf (stD all.toList xs (fun k => decide (k < all.toList.length)) 0 s) := hsf.trans (stD_same (Same.refl s) (fun k _ hk => by simp at hk; simp [hk]))
  have hopsf : ∀ (j : Nat) (o : Oper) (s1 : St U), all.toList[j]? = some o → steadyOps all.toList j o = true → Same s1 (stD all.toList xs (fun k => decide (k < j)) 0 s) → ∀ x, x ∈ o.op.operands.toList → s1.op x = sf.op x := fun j o s1 hj hst hs1 x hx =>
    ops_same hst (List.getElem?_eq_some_iff.1 hj).1 hs1 hsfl x hx
  have hmp : ∀ m ins, lk spec m = some ins → ∃ c, lk env m = some c ∧ sf.op (.tmp m) = .mp m ∧ lk sf.o m = some (.map true c.ka c.va c.ck c.cv []) ∧ ins.map (entL E all env sf c) = c.l.map some ∧ nodK (E.D.keq c.ck) c.l = true := fun m ins hm => by
    obtain ⟨c, env1, h1, h2, h3⟩ := hget m ins (lk_mem hm)
    obtain ⟨h4, h5, h6, h7⟩ := litM_inv h2
    exact ⟨c, h1, h4, h5, litEs_map he.law h3 h6, h7⟩
  have hinsx : ∀ (j : Nat) (o : Oper) (x : Res U) (s1 : St U), all.toList[j]? = some o → isIns o.op = true → OpFact E.lazy (drawCk E.lazy all.toList (ahead all.toList)) all j o x s1 → x = some (.undef, []) := by
    intro j o x s1 ho hi hf
    obtain ⟨t, m, k, v, ins, hop, hm, hj, hg, hdst, hst⟩ := hins j o ho hi
    cases x with
    | none =>
      rcases hf with ⟨_, hf⟩ | ⟨jj, g, b, hg', _⟩ | ⟨_, jj, g, b, ys, hg', _⟩
      · cases hf
      · rw [hg] at hg'; cases hg'
      · rw [hg] at hg'; cases hg'
    | some p =>
      obtain ⟨v', u'⟩ := p
      have hf := hf.2.2
      unfold opA at hf
      have hx : isX E.lazy o s1.op = true := by simp [isX, hop]
      rw [hx] at hf
      have hz : E.lazy.lz = true := rfl
      simp only [cond_true] at hf
      rw [ins_op hop] at hf
      simp only [cond_true, opX0, hop, hz, pairK, Option.some.injEq, Prod.mk.injEq] at hf
      obtain ⟨rfl, rfl⟩ := hf
      rfl
  have hothx : ∀ (j : Nat) (o : Oper), all.toList[j]? = some o → isIns o.op = false → j ∉ spec.flatMap (·.2) ∧ ∀ m ins, lk spec m = some ins → (∃ t, o.op = .makeMap t none ∧ o.dst = some m) ∨ ∀ (x : Res U) (s1 : St U), xs[j]? = some x → x ≠ none → Same s1 (stD all.toList xs (fun k => decide (k < j)) 0 s) → OpFact E.lazy (drawCk E.lazy all.toList (ahead all.toList)) all j o x s1 → ¬ RelA E.lazy o s1.op (lk s1.o) m := by
    intro j o ho hi
    have hb := zipIdx_all hB j o ho
    refine ⟨fun hj => ?_, fun m ins hm => ?_⟩
    · obtain ⟨m, ins, hm, hj⟩ := (hmem j).1 hj
      obtain ⟨o', t, k, v, ho', h1, _⟩ := hinsop m ins j hm hj
      rw [ho] at ho'
      cases ho'
      rw [h1] at hi
      cases hi
    · by_cases hmk : ∃ t, o.op = .makeMap t none
      · obtain ⟨t, hmk⟩ := hmk
        by_cases hdm : o.dst = some m
        · exact .inl ⟨t, hmk, hdm⟩
        · refine .inr fun x s1 hx hxn hs1 hf => ?_
          unfold litB at hb
          simp only [hmk, Bool.and_eq_true] at hb
          split at hb
          · rename_i d' hd'
            obtain ⟨x', s1', hx', hs1', hf', hfr⟩ := hfacts j o ho
            rw [hx] at hx'
            cases hx'
            have hpl := hfr hxn
            unfold litFree at hpl
            simp only [hmk] at hpl
            have hpl : ((E.lazy.ars t).isSome || (E.lazy.oms t).isSome) = false := by unfold plainMk at hpl; simpa using hpl
            rintro (⟨_, h2⟩ | h2)
            · simp only [apartX, arOp, hpl, Bool.false_and, cond_false, apart0, hmk, hd', Bool.not_eq_false'] at h2
              exact hdm (by rw [hd', Nat.eq_of_beq_eq_true h2])
            · simp only [relO, hmk] at h2; cases h2
          · cases hb.1
      · refine .inr fun x s1 hx hxn hs1 hf => ?_
        by_cases hmk2 : ∃ t n, o.op = .makeMap t (some n)
        · obtain ⟨t, n, hmk2⟩ := hmk2
          obtain ⟨⟨v, u⟩, rfl⟩ := Option.ne_none_iff_exists'.1 hxn
          have hf := hf.2.2
          unfold opA at hf
          rw [show isX E.lazy o s1.op = true by simp [isX, hmk2]] at hf
          simp only [cond_true, opX, arOp, cond_false, opX0, hmk2] at hf
          cases hf
        · obtain ⟨x', s1', hx', hs1', hf', hfr⟩ := hfacts j o ho
          rw [hx] at hx'
          cases hx'
          have hss : Same s1 s1' := hs1.trans hs1'.symm
          have hop : s1.op = s1'.op := funext fun z => op_congr (fun n => hss.1 n) z
          have hlk : lk s1.o = lk s1'.o := funext hss.2
          rw [hop, hlk]
          exact litFree_rel ((hms m).2 ⟨ins, hm⟩) (hfr hxn) hi (fun t e => hmk ⟨t, e⟩) (fun t n e => hmk2 ⟨t, n, e⟩)
  have hlk1 : ∀ (j : Nat) (o : Oper) (s1 : St U) (m : Nat) (ins : List Nat), all.toList[j]? = some o → lk spec m = some ins → j ∈ ins → Same s1 (stD all.toList xs (fun k => decide (k < j)) 0 s) → lk s1.o m = lk sf.o m := by
    intro j o s1 m ins ho hm hj hs1
    obtain ⟨o', t, k, v, ho', hop, hst⟩ := hinsop m ins j hm hj
    rw [ho] at ho'
    cases ho'
    rw [hs1.2 m, hsf.2 m]
    refine stD_lk m all.toList xs _ _ 0 s s rfl (fun i z hz hzi => ?_)
    simp only [Nat.zero_add]
    by_cases hlt : i < j
    · simp [hlt]
    · exfalso
      have hil : i < all.toList.length := by rw [← hlen]; exact (List.getElem?_eq_some_iff.1 hz).1
      have hp := List.getElem?_eq_getElem hil
      obtain ⟨z', s2, hz', hs2, hf', hfr⟩ := hfacts i _ hp
      rw [hz] at hz'
      cases hz'
      cases hii : isIns all.toList[i].op with
      | true =>
        rw [hinsx i _ z s2 hp hii hf'] at hzi
        simp [idsOf] at hzi
      | false =>
        rcases (hothx i _ hp hii).2 m ins hm with ⟨t', hmk, hdm⟩ | hno
        · unfold steadyOps at hst
          have h1 := List.all_eq_true.1 hst (.tmp m) (by simp [hop, Op.operands])
          have h2 := List.all_eq_true.1 h1 all.toList[i] (by
            rw [List.mem_iff_getElem?]
            exact ⟨i - j, by rw [List.getElem?_drop, show j + (i - j) = i by omega]; exact hp⟩)
          rw [hdm] at h2
          simp at h2
        · have hzn : z ≠ none := by rintro rfl; simp [idsOf] at hzi
          obtain ⟨⟨v3, u3⟩, rfl⟩ := Option.ne_none_iff_exists'.1 hzn
          exact hno _ s2 hz hzn hs2 hf' (opA_ids hf'.2.2 m hzi)
  have ld : LitD E all xs s sf spec env := by
    refine ⟨fun m ins hm => ?_, hms, hmem, fun m m' ins ins' j h1 h2 h3 h4 => ?_, fun j m' hj hu => ?_, fun i j m' hi hj h1 h2 => filterMap_inj hu1 hi hj h1 h2, fun j o x s1 ho hi hx hs1 hf => ?_, fun j o ho hi => ?_, fun i hi => ?_⟩
    · obtain ⟨c, h1, _, h2, h3, h4⟩ := hmp m ins hm
      refine ⟨c, h1, h2, h3, h4, ?_⟩
      exact nodup_part hnd (m, ins) (lk_mem hm)
    · obtain ⟨o, t, k, v, ho, hop, _⟩ := hinsop m ins j h1 h3
      obtain ⟨o', t', k', v', ho', hop', _⟩ := hinsop m' ins' j h2 h4
      rw [ho] at ho'
      cases ho'
      rw [hop] at hop'
      cases hop'
      rfl
    · have := List.all_eq_true.1 hu4 j hj
      simp only [hu] at this
      split at this
      · rename_i is his
        exact ⟨is, his, hne _ _ his, fun i hi => List.all_eq_true.1 this i hi⟩
      · cases this
    · obtain ⟨t, m, k, v, ins, hop, hm, hj, hg, hdst, hst⟩ := hins j o ho hi
      obtain ⟨c, _, hmm, _⟩ := hmp m ins hm
      exact ⟨t, m, k, v, ins, hop, hm, hj, hg, hdst, hinsx j o x s1 ho hi hf, (hopsf j o s1 ho hst hs1 _ (by simp [hop, Op.operands])).trans hmm, hopsf j o s1 ho hst hs1 _ (by simp [hop, Op.operands]), hopsf j o s1 ho hst hs1 _ (by simp [hop, Op.operands]), hlk1 j o s1 m ins ho hm hj hs1⟩
    · obtain ⟨h1, h2⟩ := hothx j o ho hi
      refine ⟨h1, fun m ins hm => ?_⟩
      rcases h2 m ins hm with ⟨t, hmk, hdm⟩ | h2
      · refine .inl fun i hi' => ?_
        obtain ⟨oi, t', k', v', hoi, hop', hst'⟩ := hinsop m ins i hm hi'
        have hmem' : m ∈ names all oi := by simp [names, hop', Op.operands]
        rcases Nat.lt_trichotomy j i with hlt | heq | hgt
        · exact ⟨hlt, d.tmps ho hoi hlt (.inl ⟨hdm, .inl hmem'⟩)⟩
        · subst heq
          exact absurd ((hmem j).2 ⟨m, ins, hm, hi'⟩) h1
        · exfalso
          unfold steadyOps at hst'
          have h3 := List.all_eq_true.1 hst' (.tmp m) (by simp [hop', Op.operands])
          have h4 := List.all_eq_true.1 h3 o (by
            rw [List.mem_iff_getElem?]
            exact ⟨j - i, by rw [List.getElem?_drop, show i + (j - i) = j by omega]; exact ho⟩)
          rw [hdm] at h4
          simp at h4
      · exact .inr h2
    · obtain ⟨m, ins, hm, hj⟩ := (hmem i).1 hi
      obtain ⟨o, t, k, v, ho, hop, _⟩ := hinsop m ins i hm hj
      exact ⟨o, ho, by rw [hop]; rfl⟩
  refine wp_region_any hmix ?_
  obtain ⟨hle, hsr⟩ := h.drew
  refine draw_insN (w0 := w0) (N0 := N0) (R := R) he hd d ld (fun L τ a' R' hL hI => ?_) all.size _ a { R with w := { R.w with drawn := R.w.drawn + 1 } } (fun _ => []) ?_ ?_
  ·
    have hstD : Same (stD all.toList xs (fun k => L.getD k false) 0 s) sf := (stD_same (Same.refl s) (fun k _ hk => by simp at hk; rw [hL k hk])).trans hsf.symm
    have hLi : ∀ i ∈ spec.flatMap (·.2), L.getD i false = true := fun i hi => by
      obtain ⟨m, ins, hm, hj⟩ := (hmem i).1 hi
      obtain ⟨o, t, k, v, ho, _⟩ := hinsop m ins i hm hj
      exact hL i (by have := (List.getElem?_eq_some_iff.1 ho).1; simpa using this)
    obtain ⟨is, his⟩ := (hms root).1 hrm
    obtain ⟨c, hc, _, hlf, hent, hnk⟩ := hmp root is his
    rw [hrc] at hc
    cases hc
    have hcr : consB all spec sf L root = false := by
      refine Classical.byContradiction fun hc => ?_
      have hc : consB all spec sf L root = true := by simpa using hc
      obtain ⟨q, hq1, hq2⟩ := List.any_eq_true.1 hc
      rw [Bool.and_eq_true] at hq2
      have : root ∈ (spec.flatMap (·.2)).filterMap (litUse sf all) := List.mem_filterMap.2 ⟨q, hq1, by simpa using hq2.1⟩
      rw [← List.contains_iff_mem, hu2] at this
      cases this
    have hcs : ∀ n ∈ spec.map (·.1), n ≠ root → consB all spec sf L n = true := fun n hn hnr => by
      obtain ⟨p, hp, rfl⟩ := List.mem_map.1 hn
      have := List.all_eq_true.1 hu3 p hp
      rw [Bool.or_eq_true] at this
      rcases this with h | h
      · exact absurd (Nat.eq_of_beq_eq_true h) hnr
      · rw [List.contains_iff_mem, List.mem_filterMap] at h
        obtain ⟨q, hq1, hq2⟩ := h
        exact List.any_eq_true.2 ⟨q, hq1, by rw [Bool.and_eq_true, hLi q hq1, hq2]; simp⟩
    have hperm : (τ root).Perm is := (List.perm_ext_iff_of_nodup (hI.nd root) (nodup_part hnd (root, is) (lk_mem his))).2 fun i => ⟨fun h => (hI.mem root is i his h).1, fun h => hI.alls root is i his h (hLi i ((hmem i).2 ⟨root, is, his, h⟩))⟩
    have hpl : ((τ root).filterMap (entL E all env sf c0)).Perm c0.l := by
      have := hperm.filterMap (entL E all env sf c0)
      rwa [fm_of_map hent] at this
    have hne2 : (τ root).filterMap (entL E all env sf c0) ≠ [] := by
      intro e0
      rw [e0] at hpl
      have h3 := hpl.length_eq
      have h4 := congrArg List.length hent
      simp at h3 h4
      cases is with
      | nil => exact hne root [] his rfl
      | cons i l => simp at h4; omega
    have hkk : ∃ ks, E.D.kinds c0.ck = some ks ∧ ks.all (Nat.beq 0) = true := by
      cases is with
      | nil => exact absurd rfl (hne root [] his)
      | cons i l =>
        simp only [List.map_cons] at hent
        cases hl' : c0.l with
        | nil => rw [hl'] at hent; cases hent
        | cons e0 r0 =>
          rw [hl', List.map_cons] at hent
          injection hent with h5 _
          exact litE_kinds h5
    obtain ⟨ks, hks1, hks0⟩ := hkk
    have hsy := keq_symm he.law hks1 hks0
    have hputs : puts (E.D.keq c0.ck) ((τ root).filterMap (entL E all env sf c0)) [] = (τ root).filterMap (entL E all env sf c0) := by
      have := puts_nodK hsy (es := (τ root).filterMap (entL E all env sf c0)) (l := []) (by simpa using nodK_perm hsy hpl.symm hnk)
      simpa using this
    have hlT : lk (wmN (spec.map (·.1)) (ovM E all spec env sf τ L) (stD all.toList xs (fun k => L.getD k false) 0 s)).o root = some (.map true c0.ka c0.va c0.ck c0.cv ((τ root).filterMap (entL E all env sf c0))) := by
      rw [wmN_lk, if_pos hrm]
      simp only [ovM, hcr, hrc]
      cases hτ : (τ root).filterMap (entL E all env sf c0) with
      | nil => exact absurd hτ hne2
      | cons e r =>
        rw [hτ] at hputs
        simp only [hputs]
    obtain ⟨R1, hw1, hle1, hs1', hfm⟩ := hI.sr.deadM hlT
    have hfm' : ∀ y, VR E.D R' (.mp root) y → VR E.D R1 c0.av y := fun y hy => by
      obtain ⟨B, _, rfl⟩ := hy.mp_inv
      exact .fmp hpl hnk (hfm _ hy)
    have hdead : ∀ (l : List (Nat × List Nat)) (n : Nat), lk ((l.map fun p => (p.1, (Obj.dead : Obj U))) ++ sf.o) n = if n ∈ l.map (·.1) then some .dead else lk sf.o n := by
      intro l n
      induction l with
      | nil => simp
      | cons p l ih =>
        simp only [List.map_cons, List.cons_append, lk]
        cases hb : Nat.beq p.1 n with
        | true =>
          have := Nat.eq_of_beq_eq_true hb
          simp [this]
        | false =>
          have hne' : n ≠ p.1 := fun e => by rw [e, Nat.beq_refl] at hb; cases hb
          simp only [cond_false]
          rw [ih]
          by_cases hin : n ∈ l.map (·.1)
          · rw [if_pos hin, if_pos (List.mem_cons_of_mem _ hin)]
          · rw [if_neg hin, if_neg (by rw [List.mem_cons, not_or]; exact ⟨hne', hin⟩)]
    have h2 : SR E.D nt w0 N0 R1 { t := sf.t, o := (spec.map fun p => (p.1, (Obj.dead : Obj U))) ++ sf.o } a' := hs1'.congr (fun n => (hstD.1 n).symm) (fun n => by
      show lk ((spec.map fun p => (p.1, (Obj.dead : Obj U))) ++ sf.o) n = lk (St.setO _ root .dead).o n
      rw [hdead, lk_setO, wmN_lk]
      by_cases hnr : root = n
      · subst hnr
        rw [if_pos hrm, if_pos rfl]
      · rw [if_neg hnr]
        by_cases hn : n ∈ spec.map (·.1)
        · rw [if_pos hn, if_pos hn]
          simp only [ovM, hcs n hn (fun e => hnr e.symm)]
        · rw [if_neg hn, if_neg hn]
          exact (hstD.2 n).symm)
    rw [← hw1]
    refine hq { t := sf.t.map fun p => (p.1, frzW root c0.av p.2), o := (spec.map fun p => (p.1, (Obj.dead : Obj U))) ++ sf.o } a' R1 (hI.le.trans hle1) { toSO := h2.toSO, size := h2.size, defers := h2.defers, ntle := h2.ntle, tm := fun n => ?_ } hkf
    have ht := h2.tm n
    have ht0 := hI.sr.tm n
    rw [wmN_get, hstD.1 n] at ht0
    unfold St.get at ht ht0 ⊢
    simp only at ht ht0 ⊢
    rw [show (sf.t.map fun p => (p.1, frzW root c0.av p.2)) = sf.t.map fun p => (p.1, (frzW root c0.av) p.2) from rfl, lkmap (frzW root c0.av) sf.t n]
    cases hg : lk sf.t n with
    | none => exact .undef _
    | some v =>
      rw [hg] at ht ht0
      simp only [Option.map_some, Option.getD_some] at ht ht0 ⊢
      unfold frzW
      split
      · rename_i i
        cases hb : Nat.beq i root with
        | true =>
          have := Nat.eq_of_beq_eq_true hb
          subst this
          exact hfm' _ ht0
        | false => exact ht
      · exact ht
  · refine Nat.le_trans (List.length_filter_le _ _) (by simp)
  · have hL0 : ∀ k, (Array.replicate all.size false).getD k false = false := fun k => by
      simp [Array.getD_eq_getD_getElem?, Array.getElem?_replicate]
      split <;> simp
    refine ⟨by simp, fun j o hj hL => ?_, hle, fun m => List.nodup_nil, fun m ins i hm hi => (by cases hi), fun m ins i hm hi hL => ?_, ?_⟩
    · rw [hL0] at hL; cases hL
    · rw [hL0] at hL; cases hL
    · have hov : ovM E all spec env sf (fun _ => []) (Array.replicate all.size false) = fun _ => none := by
        funext n
        have : consB all spec sf (Array.replicate all.size false) n = false := by
          unfold consB
          rw [List.any_eq_false]
          intro q _
          rw [hL0]
          simp
        simp only [ovM, this]
        cases lk env n <;> rfl
      rw [hov]
      refine hsr.congr (fun n => ?_) (fun n => ?_)
      · rw [wmN_get, stD_none _ _ _ _ _ (fun k _ => hL0 k)]
      · rw [wmN_lk, stD_none _ _ _ _ _ (fun k _ => hL0 k)]
        split <;> rfl
end
end Go.Ev
