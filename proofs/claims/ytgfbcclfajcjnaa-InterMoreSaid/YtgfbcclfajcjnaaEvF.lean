import Derived.Test.YtgfbcclfajcjnaaEvL
universe u
namespace Go.Ev
set_option linter.unusedVariables false
set_option linter.unusedSimpArgs false
open Go.RowKit (Below)
variable {U : Univ} {ρ : Type}
def blk {α : Type} (k : Nat) (x : Option α) : Option α := match k with
  | 0 => x
  | _ + 1 => x
def iter {X Y : Type} (once : X → Option (X ⊕ Y)) : Nat → X → Option Y
  | 0, _ => none
  | n + 1, x => (once x).bind fun
    | .inl x' => iter once n x'
    | .inr y => some y
def Obj.plain : Obj U → Prop
  | .lit _ | .arr .. | .ar .. => True
  | _ => False
def srcHdr (R : Rl) (x : Option Nat) : Option (Option Addr × Nat × Nat) := match x with
  | some a => R.hdr a
  | none => some (none, 0, 0)
theorem VR.tip_inv {D : Codec U} {R : Rl} {id : Nat} {c : U.C} {l : List (U.El c)} {y : Value} (h : VR D R (.tip id c l) y) :
    ∃ b n cap, R.hdr id = some (b, n, cap) ∧ y = .slice b n cap ∧ VR D R (.row c l) (.slice b n cap) := by
  cases h with | tip h1 h2 => exact ⟨_, _, _, h1, rfl, h2⟩
theorem SR.fits {D : Codec U} (L : Lawful D) {nt : Nat} {w0 : Cx} {N0 : Nat → Nat → Prop} {R : Rl} {s m : St U} {a : Act} (h : SR D nt w0 N0 R s a) (hf : Fits s m) :
    ∃ R2, R2.w = R.w ∧ SR D nt w0 N0 R2 m a := by
  obtain ⟨⟨ren, h1, h2, hren⟩, h3⟩ := hf
  simp only [keepOk, Bool.and_eq_true] at h3
  let src : Nat → Option Nat := fun id => match lk m.o id with
    | some (.tip _) | some (.vec ..) | some (.map ..) | some (.om ..) | some .dead => (lk ren id).join
    | some _ => some id
    | none => none
  let R2 : Rl := { w := R.w, N := R.N, blk := fun id => (src id).bind R.blk, ar := fun id => match lk m.o id with | some _ => R.ar id | none => [], hdr := fun id => match lk m.o id with
    | some (.tip _) | some (.vec ..) | some (.map ..) | some (.om ..) | some .dead => srcHdr R (src id)
    | _ => none }
  refine ⟨R2, rfl, ?_⟩
  have hob : ∀ id o, lk m.o id = some o → FO ren s id o := fun id o ho => h2 _ (lk_mem ho)
  have from_ : ∀ id o b, lk m.o id = some o → src id = some b → o.alive → ∃ o', lk s.o b = some o' ∧ o'.alive ∧ (o.whole → o'.whole) ∧ (o'.plain ↔ o.plain) ∧ ((lk ren id = some (some b) ∧ ¬ o.plain) ∨ (b = id ∧ o.plain)) := by
    intro id o b ho hb ha
    have hfo := hob id o ho
    have hb : (match lk m.o id with | some (.tip _) | some (.vec ..) | some (.map ..) | some (.om ..) | some .dead => (lk ren id).join | some _ => some id | none => none) = some b := hb
    rw [ho] at hb
    cases o with
    | dead => exact ha.elim
    | lit cs =>
      cases hb
      obtain ⟨cs', e, _⟩ := hfo
      exact ⟨_, e, True.intro, fun _ => True.intro, ⟨fun _ => True.intro, fun _ => True.intro⟩, .inr ⟨rfl, True.intro⟩⟩
    | arr n c l => cases hb; exact ⟨_, hfo, ha, fun h => h, Iff.rfl, .inr ⟨rfl, True.intro⟩⟩
    | ar ka va ck cv L => cases hb; exact ⟨_, hfo, ha, fun h => h, Iff.rfl, .inr ⟨rfl, True.intro⟩⟩
    | om A ka ck l =>
      obtain ⟨a', e1, e2⟩ := hfo
      have hb : (lk ren id).join = some b := hb
      rw [e1] at hb
      cases hb
      exact ⟨_, e2, ha, fun h => h, Iff.rfl, .inl ⟨e1, fun h => h.elim⟩⟩
    | vec c l =>
      obtain ⟨a', e1, e2, _⟩ := hfo
      have hb : (lk ren id).join = some b := hb
      rw [e1] at hb
      have : a' = some b := hb
      subst this
      exact ⟨_, e2 b rfl, ha, fun h => h, Iff.rfl, .inl ⟨e1, fun h => h.elim⟩⟩
    | map w ka va ck cv l =>
      obtain ⟨a', e1, e2, _⟩ := hfo
      have hb : (lk ren id).join = some b := hb
      rw [e1] at hb
      have : a' = some b := hb
      subst this
      obtain ⟨w', e3, _⟩ := e2 b rfl
      exact ⟨_, e3, True.intro, fun h => h, ⟨fun h => h.elim, fun h => h.elim⟩, .inl ⟨e1, fun h => h.elim⟩⟩
    | tip sz =>
      obtain ⟨a', e1, e2⟩ := hfo
      have hb : (lk ren id).join = some b := hb
      rw [e1] at hb
      have : a' = some b := hb
      subst this
      exact ⟨_, e2 b rfl, ha, fun h => h, Iff.rfl, .inl ⟨e1, fun h => h.elim⟩⟩
  have srcO : ∀ id o, lk m.o id = some o → o.plain → src id = some id := by
    intro id o ho hw
    show (match lk m.o id with | some (.tip _) | some (.vec ..) | some (.map ..) | some (.om ..) | some .dead => (lk ren id).join | some _ => some id | none => none) = some id
    rw [ho]
    cases o <;> first | rfl | exact hw.elim
  have hhd : ∀ cid a' o, lk m.o cid = some o → (∃ sz, o = .tip sz) ∨ (∃ c l, o = .vec c l) ∨ (∃ w ka va ck cv l, o = .map w ka va ck cv l) ∨ (∃ A ka ck l, o = .om A ka ck l) → lk ren cid = some a' → R2.hdr cid = srcHdr R a' ∧ src cid = a' := by
    intro cid a' o ho hh e1
    constructor
    · show (match lk m.o cid with | some (.tip _) | some (.vec ..) | some (.map ..) | some (.om ..) | some .dead => srcHdr R (match lk m.o cid with | some (.tip _) | some (.vec ..) | some (.map ..) | some (.om ..) | some .dead => (lk ren cid).join | some _ => some cid | none => none) | _ => none) = _
      rw [ho, e1]
      rcases hh with ⟨_, rfl⟩ | ⟨_, _, rfl⟩ | ⟨_, _, _, _, _, _, rfl⟩ | ⟨_, _, _, _, rfl⟩ <;> rfl
    · show (match lk m.o cid with | some (.tip _) | some (.vec ..) | some (.map ..) | some (.om ..) | some .dead => (lk ren cid).join | some _ => some cid | none => none) = a'
      rw [ho, e1]
      rcases hh with ⟨_, rfl⟩ | ⟨_, _, rfl⟩ | ⟨_, _, _, _, _, _, rfl⟩ | ⟨_, _, _, _, rfl⟩ <;> rfl
  have hdd : ∀ cid, lk m.o cid = some .dead → lk ren cid = some (some cid) ∧ src cid = some cid ∧ R2.hdr cid = R.hdr cid := by
    intro cid ho
    obtain ⟨_, e1⟩ := hob cid _ ho
    have e2 : src cid = some cid := by
      show (match lk m.o cid with | some (.tip _) | some (.vec ..) | some (.map ..) | some (.om ..) | some .dead => (lk ren cid).join | some _ => some cid | none => none) = _
      rw [ho, e1]
      rfl
    refine ⟨e1, e2, ?_⟩
    show (match lk m.o cid with | some (.tip _) | some (.vec ..) | some (.map ..) | some (.om ..) | some .dead => srcHdr R (src cid) | _ => none) = _
    rw [ho, e2]
    rfl
  have closed : ∀ {v : AV U} {y : Value}, VR D R v y → c1 v = true → VR D R2 v y := fun hv hc => hv.closed (R := R) (R' := R2) L rfl (fun _ _ _ h => h) hc
  have tell0 : ∀ (v0 v : AV U) (y : Value), FV0 ren v0 v → VR D R v0 y → (c1 v = true ∨ keepC m.o v = true) → VR D R2 v y := by
    intro v0 v y hs htm hk
    rcases hs with ⟨hs, hp⟩ | ⟨c, rfl, hv⟩ | ⟨cid, c, l, rfl, hs⟩ | ⟨cid, rfl, hs⟩ | ⟨cid, rfl, hs⟩
    · subst hs
      have htm := htm.drop
      rcases hk with hk | hk
      · exact closed htm hk
      · unfold AV.plainV at hp
        rw [Bool.or_eq_true] at hp
        rcases hp with hp | hp
        · exact closed htm hp
        · generalize v0.drop = v at *
          cases v with
          | ptr id off =>
            unfold keepC at hk
            simp only [c0, Bool.false_or] at hk
            cases ho : lk m.o id with
            | none => rw [ho] at hk; cases hk
            | some o =>
              obtain ⟨B, es, hb, hy⟩ := htm.ptr_inv
              rw [hy]
              have hw : src id = some id := by
                rw [ho] at hk
                cases o <;> first | exact srcO id _ ho True.intro | exact (hdd id ho).2.1 | cases hk
              exact .ptr (es := es) (by show (src id).bind R.blk = _; rw [hw]; exact hb)
          | sm A j =>
            unfold keepC at hk
            simp only [c0, Bool.false_or] at hk
            cases htm with
            | smn => exact .smn
            | sm hj =>
              refine .sm ?_
              show ((match lk m.o A with | some _ => R.ar A | none => []) : List Nat)[_]? = _
              cases ho : lk m.o A with
              | none => rw [ho] at hk; cases hk
              | some _ => exact hj
          | _ => cases hp
    · rw [hv] at htm
      rw [htm.flat_inv]
      exact .rownil
    · rcases hk with hk | hk
      · cases hk
      · unfold keepC at hk
        simp only [c0, Bool.false_or] at hk
        cases ho : lk m.o cid with
        | none => rw [ho] at hk; cases hk
        | some o =>
          rw [ho] at hk
          cases o with
          | tip sz =>
            rcases hs with ⟨aid, hv, hr⟩ | ⟨rfl, hv, hr⟩
            · rw [hv] at htm
              obtain ⟨b, n', cap, e1, e3, e2⟩ := htm.tip_inv
              rw [e3]
              exact .tip ((hhd _ _ _ ho (.inl ⟨_, rfl⟩) hr).1.trans e1) (closed e2 rfl)
            · rw [hv] at htm
              rw [htm.flat_inv]
              exact .tip ((hhd _ _ _ ho (.inl ⟨_, rfl⟩) hr).1) .rownil
          | _ => cases hk
    · rcases hk with hk | hk
      · cases hk
      · unfold keepC at hk
        simp only [c0, Bool.false_or] at hk
        cases ho : lk m.o cid with
        | none => rw [ho] at hk; cases hk
        | some o =>
          rw [ho] at hk
          cases o with
          | vec c l =>
            rcases hs with ⟨aid, hv, hr⟩ | ⟨hv, hr⟩
            · rw [hv] at htm
              obtain ⟨b, n', cap, e1, e3⟩ := htm.vs_inv
              rw [e3]
              exact .vs ((hhd _ _ _ ho (.inr (.inl ⟨_, _, rfl⟩)) hr).1.trans e1)
            · rw [hv] at htm
              rw [htm.flat_inv]
              exact .vs ((hhd _ _ _ ho (.inr (.inl ⟨_, _, rfl⟩)) hr).1)
          | _ => cases hk
    · rcases hk with hk | hk
      · cases hk
      · unfold keepC at hk
        simp only [c0, Bool.false_or] at hk
        cases ho : lk m.o cid with
        | none => rw [ho] at hk; cases hk
        | some o =>
          rw [ho] at hk
          cases o with
          | map w ka va ck cv l =>
            rcases hs with ⟨aid, hv, hr⟩ | ⟨hv, hr⟩
            · rw [hv] at htm
              obtain ⟨B, e1, e3⟩ := htm.mp_inv
              rw [e3]
              exact .mp ((hhd _ _ _ ho (.inr (.inr (.inl ⟨_, _, _, _, _, _, rfl⟩))) hr).1.trans e1)
            · rw [hv] at htm
              rw [htm.flat_inv]
              exact .mp (B := none) ((hhd _ _ _ ho (.inr (.inr (.inl ⟨_, _, _, _, _, _, rfl⟩))) hr).1)
          | om A ka ck l =>
            rcases hs with ⟨aid, hv, hr⟩ | ⟨hv, hr⟩
            · rw [hv] at htm
              obtain ⟨B, e1, e3⟩ := htm.mp_inv
              rw [e3]
              exact .mp ((hhd _ _ _ ho (.inr (.inr (.inr ⟨_, _, _, _, rfl⟩))) hr).1.trans e1)
            · obtain ⟨aid, h5, _⟩ := hob cid _ ho
              rw [h5] at hr
              cases hr
          | dead =>
            obtain ⟨d1, d2, d3⟩ := hdd cid ho
            rcases hs with ⟨aid, hv, hr⟩ | ⟨hv, hr⟩
            · rw [d1] at hr
              cases hr
              rw [hv] at htm
              obtain ⟨B, e1, e3⟩ := htm.mp_inv
              rw [e3]
              exact .mp (d3.trans e1)
            · rw [d1] at hr
              cases hr
          | _ => cases hk
  have tellA : ∀ (v0 v : AV U) (y : Value), FVA ren v0 v → VR D R v0 y → keepA m.o v = true → VR D R2 v y := by
    intro v0 v y hs htm hk
    rcases hs with hs | ⟨xs, ys, rfl, rfl, hl, hp⟩
    · by_cases hag : ∃ xs, v = .agg xs
      · obtain ⟨xs, rfl⟩ := hag
        rcases hs with ⟨hs, hp⟩ | ⟨c, hs, hv⟩ | ⟨cid, c, l, hs, _⟩ | ⟨cid, hs, _⟩ | ⟨cid, hs, _⟩
        · unfold AV.plainV at hp
          simp only [Bool.or_false] at hp
          rw [hs] at hp ⊢
          exact closed htm.drop hp
        · cases hs
        · cases hs
        · cases hs
        · cases hs
      · refine tell0 v0 v y hs htm ?_
        unfold keepA at hk
        rw [Bool.or_eq_true] at hk
        rcases hk with hk | hk
        · exact .inl hk
        · right
          cases v <;> first | exact hk | exact absurd ⟨_, rfl⟩ hag
    · cases htm with
      | agg hl2 hv =>
        refine .agg (by rw [← hl]; exact hl2) (fun i x z hx hz => ?_)
        obtain ⟨u, hu⟩ : ∃ u, xs[i]? = some u := ⟨_, List.getElem?_eq_getElem (by rw [hl]; exact (List.getElem?_eq_some_iff.1 hx).1)⟩
        refine tell0 u x z (hp i u x hu hx) (hv i u z hu hz) ?_
        unfold keepA at hk
        rw [Bool.or_eq_true] at hk
        rcases hk with hk | hk
        · exact .inl (c1_of_c0 (List.all_eq_true.mp hk x (List.mem_of_getElem? hx)))
        · exact .inr (List.all_eq_true.mp hk x (List.mem_of_getElem? hx))
  have tell : ∀ (v0 v : AV U) (y : Value), FV ren v0 v → VR D R v0 y → keepV m.o v = true → VR D R2 v y := by
    intro v0 v y hs htm hk
    unfold keepV at hk
    rw [Bool.or_eq_true] at hk
    rcases hs with hs | ⟨xs, ys, rfl, rfl, hl, hp⟩
    · rcases hk with hk | hk
      · exact tellA v0 v y hs htm hk
      · cases v with
        | tup xs =>
          rcases hs with hs | ⟨xs, ys, _, hh, _⟩
          · rcases hs with ⟨hs, hp⟩ | ⟨c, hs, hv⟩ | ⟨cid, c, l, hs, _⟩ | ⟨cid, hs, _⟩ | ⟨cid, hs, _⟩
            · unfold AV.plainV at hp
              simp only [Bool.or_false] at hp
              rw [hs] at hp ⊢
              exact closed htm.drop hp
            · cases hs
            · cases hs
            · cases hs
            · cases hs
          · cases hh
        | _ => cases hk
    · cases htm with
      | tup hl2 hv =>
        refine .tup (by rw [← hl]; exact hl2) (fun i x z hx hz => ?_)
        obtain ⟨u, hu⟩ : ∃ u, xs[i]? = some u := ⟨_, List.getElem?_eq_getElem (by rw [hl]; exact (List.getElem?_eq_some_iff.1 hx).1)⟩
        refine tellA u x z (hp i u x hu hx) (hv i u z hu hz) ?_
        rcases hk with hk | hk
        · unfold keepA at hk
          rw [Bool.or_eq_true] at hk
          rcases hk with hk | hk
          · unfold keepA
            rw [Bool.or_eq_true]
            left
            have := List.all_eq_true.mp hk x (List.mem_of_getElem? hx)
            exact c1_of_cA this
          · cases hk
        · exact List.all_eq_true.mp hk x (List.mem_of_getElem? hx)
  refine { objs := fun id o ho => ?_, none := fun id ho => ⟨?_, ?_⟩, own := fun id o B es ho ha hb => ?_, inj := fun id id' o o' B es es' ho ho' ha ha' hb hb' => ?_,
           keep := h.keep, le0 := h.le0, nn := h.nn, nlt := h.nlt, ri := ?ri, size := h.size, defers := h.defers, ntle := h.ntle, tm := fun n => ?_ }
  case ri =>
    have hm : ∀ id b, b ∈ R2.ar id → b ∈ R.ar id := fun id b hb => by
      have hb : b ∈ (match lk m.o id with | some _ => R.ar id | none => []) := hb
      cases ho : lk m.o id with
      | none => rw [ho] at hb; cases hb
      | some _ => rw [ho] at hb; exact hb
    refine ⟨fun id ho => ?_, fun id b hb => h.ri.lt id b (hm id b hb), fun id b id' es hb hbk => ?_, fun id id' b h1 h2 => h.ri.inj id id' b (hm _ _ h1) (hm _ _ h2), fun id B es hbk => by
      have hbk : (src id).bind R.blk = some (B, es) := hbk
      obtain ⟨x, _, hx⟩ := Option.bind_eq_some_iff.1 hbk
      exact h.ri.blt x B es hx⟩
    · show (match lk m.o id with | some _ => R.ar id | none => []) = []
      rw [ho]
    · have hbk : (src id').bind R.blk = some (b, es) := hbk
      obtain ⟨x, _, hx⟩ := Option.bind_eq_some_iff.1 hbk
      exact h.ri.sep id b x es (hm _ _ hb) hx
  · have hk := List.all_eq_true.mp h3.2 _ (lk_mem ho)
    cases o with
    | dead => exact True.intro
    | lit cs =>
      obtain ⟨cs', g1, g2, g3⟩ := hob id _ ho
      obtain ⟨B, es, arr, el, e1, e2, e3, e4⟩ := h.objs id _ g1
      refine ⟨B, es, arr, el, by show (src id).bind R.blk = _; rw [srcO id _ ho True.intro]; exact e1, e2, g2 ▸ e3, fun i x y hx hy => ?_⟩
      obtain ⟨v0, hv0⟩ : ∃ v0, cs'[i]? = some v0 := ⟨_, List.getElem?_eq_getElem (by rw [g2]; exact (List.getElem?_eq_some_iff.1 hx).1)⟩
      exact tell0 v0 x y (g3 i v0 x hv0 hx) (e4 i v0 y hv0 hy) (.inr (List.all_eq_true.mp hk x (List.mem_of_getElem? hx)))
    | arr n c l =>
      obtain ⟨B, arr, el, e1, e2, e3, e4, e5⟩ := h.objs id _ (hob id _ ho)
      refine ⟨B, arr, el, by show (src id).bind R.blk = _; rw [srcO id _ ho True.intro]; exact e1, e2, e3, e4, fun i x hx j v y hv hy => ?_⟩
      exact closed (e5 i x hx j v y hv hy) (c1_of_c0 (L.enc_c0 _ x v (List.mem_of_getElem? hv)))
    | ar ka va ck cv LL =>
      obtain ⟨e1, e2, e3⟩ := h.objs id _ (hob id _ ho)
      have har : R2.ar id = R.ar id := by show (match lk m.o id with | some _ => R.ar id | none => []) = _; rw [ho]
      refine ⟨by rw [har]; exact e1, by rw [har]; exact e2, fun j b l hj hl => ?_⟩
      rw [har] at hj
      obtain ⟨k1, es, clock, k2, k3, k4⟩ := e3 j b l hj hl
      exact ⟨k1, es, clock, k2, k3, fun i x e hx he => ⟨closed (k4 i x e hx he).1 (c1_packV (L := L)), closed (k4 i x e hx he).2 (c1_packV (L := L))⟩⟩
    | om A ka ck l =>
      obtain ⟨a', e1, e2⟩ := hob id _ ho
      obtain ⟨hd1, hsrc⟩ := hhd id _ _ ho (.inr (.inr (.inr ⟨_, _, _, _, rfl⟩))) e1
      obtain ⟨b, es, clock, k1, k2, k3, k4, k5⟩ := h.objs a' _ e2
      refine ⟨b, es, clock, hd1.trans k1, by show (src id).bind R.blk = _; rw [hsrc]; exact k2, k3, k4, fun i x e hx he => ⟨closed (k5 i x e hx he).1 (c1_packV (L := L)), ?_⟩⟩
      have hkA : (lk m.o A).isSome = true := hk
      cases hA : lk m.o A with
      | none => rw [hA] at hkA; cases hkA
      | some _ =>
        have := (k5 i x e hx he).2
        cases hev : e.val <;> rw [hev] at this <;> cases this
        rename_i hj
        refine .sm ?_
        show ((match lk m.o A with | some _ => R.ar A | none => []) : List Nat)[_]? = _
        rw [hA]
        exact hj
    | vec c l =>
      obtain ⟨a', e1, e2, e3⟩ := hob id _ ho
      obtain ⟨hd1, hsrc⟩ := hhd id a' _ ho (.inr (.inl ⟨_, _, rfl⟩)) e1
      cases a' with
      | none => rw [e3 rfl]; exact ⟨none, 0, hd1, .inl ⟨rfl, rfl⟩⟩
      | some b =>
        obtain ⟨bb, cap, g1, g2⟩ := h.objs b _ (e2 b rfl)
        refine ⟨bb, cap, hd1.trans g1, ?_⟩
        rcases g2 with g2 | ⟨B, arr, el, k1, k2, k3, k4, k5, k6⟩
        · exact .inl g2
        · exact .inr ⟨B, arr, el, k1, by show (src id).bind R.blk = _; rw [hsrc]; exact k2, k3, k4, k5, fun i x hx j v y hv hy =>
            closed (k6 i x hx j v y hv hy) (c1_of_c0 (L.enc_c0 _ x v (List.mem_of_getElem? hv)))⟩
    | map w ka va ck cv l =>
      obtain ⟨a', e1, e2, e3⟩ := hob id _ ho
      obtain ⟨hd1, hsrc⟩ := hhd id a' _ ho (.inr (.inr (.inl ⟨_, _, _, _, _, _, rfl⟩))) e1
      cases a' with
      | none =>
        obtain ⟨rfl, rfl⟩ := e3 rfl
        exact ⟨none, hd1, .inl ⟨rfl, rfl, rfl, by show (src id).bind R.blk = _; rw [hsrc]; rfl⟩⟩
      | some b =>
        obtain ⟨w', e4, e5⟩ := e2 b rfl
        obtain ⟨BB, g1, g2⟩ := h.objs b _ e4
        refine ⟨BB, hd1.trans g1, ?_⟩
        rcases g2 with ⟨k1, k2, k3, k4⟩ | ⟨bm, es, clock, k1, k2, k3, k4, k5⟩
        · refine .inl ⟨k1, k2, ?_, by show (src id).bind R.blk = _; rw [hsrc]; exact k4⟩
          cases w with
          | false => rfl
          | true => rw [e5 rfl] at k3; cases k3
        · exact .inr ⟨bm, es, clock, k1, by show (src id).bind R.blk = _; rw [hsrc]; exact k2, k3, k4, fun i x e hx he => ⟨closed (k5 i x e hx he).1 (c1_packV (L := L)), closed (k5 i x e hx he).2 (c1_packV (L := L))⟩⟩
    | tip sz =>
      obtain ⟨a', e1, e2⟩ := hob id _ ho
      obtain ⟨hd1, hsrc⟩ := hhd id a' _ ho (.inl ⟨_, rfl⟩) e1
      cases a' with
      | none => exact ⟨none, 0, 0, hd1, .inl ⟨rfl, rfl⟩⟩
      | some b =>
        obtain ⟨bb, n, cap, g1, g2⟩ := h.objs b _ (e2 b rfl)
        refine ⟨bb, n, cap, hd1.trans g1, ?_⟩
        rcases g2 with g2 | ⟨B, arr, el, k1, k2, k3, k4, k5, k6⟩
        · exact .inl g2
        · exact .inr ⟨B, arr, el, k1, by show (src id).bind R.blk = _; rw [hsrc]; exact k2, k3, k4, k5, k6⟩
  · show (src id).bind R.blk = none
    have : src id = none := by
      show (match lk m.o id with | some (.tip _) | some (.vec ..) | some (.map ..) | some (.om ..) | some .dead => (lk ren id).join | some _ => some id | none => none) = none
      rw [ho]
    rw [this]
    rfl
  · show (match lk m.o id with | some (.tip _) | some (.vec ..) | some (.map ..) | some (.om ..) | some .dead => srcHdr R (src id) | _ => none) = none
    rw [ho]
  · have hb : (src id).bind R.blk = some (B, es) := hb
    obtain ⟨b, hs, hb⟩ := Option.bind_eq_some_iff.1 hb
    obtain ⟨o', g1, g2, g3, _⟩ := from_ id o b ho hs ha
    have := h.own b o' B es g1 g2 hb
    exact ⟨fun hw => this.1 (g3 hw), this.2⟩
  · have hb : (src id).bind R.blk = some (B, es) := hb
    have hb' : (src id').bind R.blk = some (B, es') := hb'
    obtain ⟨b, hs, hb⟩ := Option.bind_eq_some_iff.1 hb
    obtain ⟨b', hs', hb'⟩ := Option.bind_eq_some_iff.1 hb'
    obtain ⟨p, g1, g2, _, g3, g4⟩ := from_ id o b ho hs ha
    obtain ⟨p', g1', g2', _, g3', g4'⟩ := from_ id' o' b' ho' hs' ha'
    have := h.inj b b' p p' B es es' g1 g1' g2 g2' hb hb'
    subst this
    rw [g1] at g1'
    cases g1'
    have hpp : o.plain ↔ o'.plain := g3.symm.trans g3'
    rcases g4 with ⟨e1, e2⟩ | ⟨e1, e2⟩ <;> rcases g4' with ⟨e1', e2'⟩ | ⟨e1', e2'⟩
    · exact hren _ _ _ e1 e1'
    · exact absurd (hpp.2 e2') e2
    · exact absurd (hpp.1 e2) e2'
    · rw [← e1, ← e1']
  · cases hg : lk m.t n with
    | none => simp only [St.get, hg, Option.getD_none]; exact .undef _
    | some v =>
      have hmem := lk_mem hg
      exact tell _ v _ (h1 _ hmem) (h.tm n) (List.all_eq_true.mp h3.1 _ hmem) |> fun h => by simpa only [St.get, hg, Option.getD_some] using h
structure Cd (U : Univ) (α : Type) where
  enc : α → List (AV U)
  dec : List (AV U) → Option (α × List (AV U))
  ok : ∀ cs x r, dec cs = some (x, r) → cs = enc x ++ r
namespace Cd
variable {α β : Type}
def int (k : IntKind) : Cd U Int where
  enc x := [.flat (.int k x)]
  dec cs := match cs with
    | .flat (.int k' x) :: r => bif k == k' then some (x, r) else none
    | _ => none
  ok cs x r h := by
    split at h
    · rename_i k' x' r'
      obtain ⟨h1, h2⟩ := cond_none h
      have : k = k' := by simpa using h1
      subst this
      cases h2
      rfl
    · cases h
def bool : Cd U Bool where
  enc x := [.flat (.bool x)]
  dec cs := match cs with
    | .flat (.bool x) :: r => some (x, r)
    | _ => none
  ok cs x r h := by
    split at h
    · cases h; rfl
    · cases h
def unit : Cd U Unit where
  enc _ := []
  dec cs := some ((), cs)
  ok cs x r h := by cases h; rfl
def row (q : DecidableEq U.C) (c : U.C) : Cd U (List (U.El c)) where
  enc l := [.row c l]
  dec cs := match cs with
    | .row c' l :: r => match q c' c with
      | isTrue e => some (e ▸ l, r)
      | isFalse _ => none
    | _ => none
  ok cs x r h := by
    split at h
    · split at h
      · rename_i e _
        subst e
        cases h
        rfl
      · cases h
    · cases h
def pair (a : Cd U α) (b : Cd U β) : Cd U (α × β) where
  enc x := a.enc x.1 ++ b.enc x.2
  dec cs := match a.dec cs with
    | some (x, r) => match b.dec r with
      | some (y, r') => some ((x, y), r')
      | none => none
    | none => none
  ok cs x r h := by
    split at h
    · rename_i x1 r1 h1
      split at h
      · rename_i y r2 h2
        cases h
        rw [a.ok _ _ _ h1, b.ok _ _ _ h2, List.append_assoc]
      · cases h
    · cases h
def iso (a : Cd U α) (f : α → β) (g : β → α) (h : ∀ x, g (f x) = x) : Cd U β where
  enc x := a.enc (g x)
  dec cs := match a.dec cs with
    | some (x, r) => some (f x, r)
    | none => none
  ok cs x r hd := by
    split at hd
    · rename_i x1 r1 h1
      cases hd
      rw [h]
      exact a.ok _ _ _ h1
    · cases hd
def encN (a : Cd U α) (d : α) : Nat → Nat → List α → List (AV U)
  | 0, _, _ => []
  | n + 1, i, l => a.enc (List.getD l i d) ++ encN a d n (i + 1) l
def decN (a : Cd U α) : Nat → List (AV U) → Option (List α × List (AV U))
  | 0, cs => some ([], cs)
  | n + 1, cs => match a.dec cs with
    | some (x, r) => match decN a n r with
      | some (l, r') => some (x :: l, r')
      | none => none
    | none => none
theorem encN_succ (a : Cd U α) (d v : α) (l : List α) : ∀ n i, encN a d n (i + 1) (v :: l) = encN a d n i l
  | 0, _ => rfl
  | n + 1, i => by
    show a.enc (List.getD (v :: l) (i + 1) d) ++ _ = a.enc (List.getD l i d) ++ _
    rw [encN_succ a d v l n (i + 1)]
    rfl
theorem decN_ok (a : Cd U α) (d : α) : ∀ (n : Nat) (cs : List (AV U)) (l : List α) (r : List (AV U)), decN a n cs = some (l, r) → cs = encN a d n 0 l ++ r
  | 0, cs, l, r, h => by cases h; rfl
  | n + 1, cs, l, r, h => by
    unfold decN at h
    split at h
    · rename_i x1 r1 h1
      split at h
      · rename_i l2 r2 h2
        cases h
        rw [a.ok _ _ _ h1, decN_ok a d n _ _ _ h2]
        show _ = (a.enc x1 ++ encN a d n 1 (x1 :: l2)) ++ r
        rw [encN_succ a d x1 l2 n 0, List.append_assoc]
      · cases h
    · cases h
def arr (n : Nat) (d : α) (a : Cd U α) : Cd U (List α) where
  enc l := encN a d n 0 l
  dec cs := decN a n cs
  ok cs x r h := decN_ok a d n cs x r h
def full (a : Cd U α) (cs : List (AV U)) : Option α := match a.dec cs with
  | some (x, []) => some x
  | _ => none
theorem full_ok {a : Cd U α} {cs : List (AV U)} {x : α} (h : a.full cs = some x) : cs = a.enc x := by
  unfold full at h
  split at h
  · rename_i y hy
    cases h
    simpa using a.ok _ _ _ hy
  · cases h
end Cd
end Go.Ev
