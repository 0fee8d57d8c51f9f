import Derived.Test.YtgfbcclfajcjnaaEvR
universe u
namespace Go.Ev
set_option linter.unusedVariables false
set_option linter.unusedSimpArgs false
open Go.RowKit (Below)
variable {U : Univ} {ρ : Type}
theorem lk_mem {α : Type u} : ∀ {l : List (Nat × α)} {n : Nat} {v : α}, lk l n = some v → (n, v) ∈ l
  | [], n, v, h => by cases h
  | (k, u) :: l, n, v, h => by
    simp only [lk] at h
    cases hb : Nat.beq k n with
    | true =>
      simp only [hb, cond_true, Option.some.injEq] at h
      have := Nat.eq_of_beq_eq_true hb
      subst this; subst h
      simp
    | false =>
      simp only [hb, cond_false] at h
      exact List.mem_cons_of_mem _ (lk_mem h)
theorem lk_none {α : Type u} : ∀ {l : List (Nat × α)} {n : Nat}, lk l n = none → ∀ p ∈ l, p.1 ≠ n
  | [], n, _, p, hp => by cases hp
  | (k, u) :: l, n, h, p, hp => by
    simp only [lk] at h
    cases hb : Nat.beq k n with
    | true => simp [hb] at h
    | false =>
      simp only [hb, cond_false] at h
      rcases List.mem_cons.1 hp with rfl | hp
      · intro e
        have e : k = n := e
        subst e
        rw [Nat.beq_refl] at hb
        cases hb
      · exact lk_none h p hp
theorem lk_some {α : Type u} {l : List (Nat × α)} {n : Nat} {p : Nat × α} (hp : p ∈ l) (h : p.1 = n) : ∃ v, lk l n = some v := by
  cases hl : lk l n with
  | none => exact absurd h (lk_none hl p hp)
  | some v => exact ⟨v, rfl⟩
theorem nodupB_spec : ∀ {l : List Nat}, nodupB l = true → l.Nodup
  | [], _ => List.nodup_nil
  | n :: r, h => by
    simp only [nodupB, Bool.and_eq_true, Bool.not_eq_true'] at h
    refine List.nodup_cons.2 ⟨fun hm => ?_, nodupB_spec h.2⟩
    have : r.any (Nat.beq n) = true := List.any_eq_true.2 ⟨n, hm, Nat.beq_refl n⟩
    rw [h.1] at this
    cases this
theorem nodup_uniq {α β : Type u} {f : α → β} : ∀ {l : List α}, (l.map f).Nodup → ∀ {p p'}, p ∈ l → p' ∈ l → f p = f p' → p = p'
  | [], _, _, _, hp, _, _ => by cases hp
  | x :: l, h, p, p', hp, hp', e => by
    rw [List.map_cons, List.nodup_cons] at h
    rcases List.mem_cons.1 hp with k1 | k1 <;> rcases List.mem_cons.1 hp' with k2 | k2
    · rw [k1, k2]
    · exact absurd (List.mem_map.2 ⟨p', k2, by rw [← e, k1]⟩) h.1
    · exact absurd (List.mem_map.2 ⟨p, k1, by rw [e, k2]⟩) h.1
    · exact nodup_uniq h.2 k1 k2 e
theorem lk_of {α : Type} {l : List (Nat × α)} (h : (l.map (·.1)).Nodup) {p : Nat × α} (hp : p ∈ l) : lk l p.1 = some p.2 := by
  obtain ⟨v, hv⟩ := lk_some hp rfl
  have := nodup_uniq h hp (lk_mem hv) rfl
  rw [hv, this]
theorem lk_swap {q : List (Nat × Nat)} (h : (q.map (·.2)).Nodup) {p : Nat × Nat} (hp : p ∈ q) : lk (swap q) p.2 = some p.1 := by
  have h2 : ((swap q).map (·.1)).Nodup := by unfold swap; rw [List.map_map]; exact h
  exact lk_of h2 (p := (p.2, p.1)) (List.mem_map.2 ⟨p, hp, rfl⟩)
theorem swap_mem {q : List (Nat × Nat)} {a c : Nat} (h : lk (swap q) c = some a) : (a, c) ∈ q := by
  obtain ⟨p, hp, e⟩ := List.mem_map.1 (lk_mem h)
  cases e
  exact hp
theorem inQ_spec {q : List (Nat × Nat)} {n : Nat} (h : inQ q n = true) : ∃ c, lk q n = some c ∧ rn q n = c := by
  unfold inQ at h
  unfold rn
  cases hl : lk q n with
  | none => rw [hl] at h; cases h
  | some c => exact ⟨c, rfl, rfl⟩
section
variable {D : Codec U} {R R' : Rl} {q : List (Nat × Nat)} {ob : Nat → Option (Obj U)}
structure RenOk (ob : Nat → Option (Obj U)) (q : List (Nat × Nat)) (R R' : Rl) : Prop where
  w : R'.w = R.w
  n : ∀ B i, R'.N B i ↔ R.N B i
  blk : ∀ a c, lk q a = some c → ∀ B es, R.blk a = some (B, es) → ∃ es', R'.blk c = some (B, es')
  hdr : ∀ a c, lk q a = some c → hasHdr ob a = true → ∀ p, R.hdr a = some p → R'.hdr c = some p
theorem VR.ren0 (L : Lawful D) (h : RenOk ob q R R') {v : AV U} {y : Value} (hv : VR D R v y) (hc : cov0 ob q v = true) : VR D R' (ren0 q v) y := by
  cases v with
  | ptr id off =>
    obtain ⟨c, h1, h2⟩ := inQ_spec hc
    obtain ⟨B, es, hb, rfl⟩ := hv.ptr_inv
    obtain ⟨es', hb'⟩ := h.blk _ _ h1 _ _ hb
    show VR D R' (.ptr (rn q id) off) _
    rw [h2]
    exact .ptr hb'
  | tip id c l =>
    simp only [cov0, Bool.and_eq_true] at hc
    obtain ⟨c', h1, h2⟩ := inQ_spec hc.1
    show VR D R' (.tip (rn q id) c l) _
    rw [h2]
    cases hv with
    | tip h3 h4 => exact .tip (h.hdr _ _ h1 hc.2 _ h3) (h4.closed L h.w (fun B i _ hn => (h.n B i).1 hn) rfl)
  | vs id =>
    simp only [cov0, Bool.and_eq_true] at hc
    obtain ⟨c', h1, h2⟩ := inQ_spec hc.1
    show VR D R' (.vs (rn q id)) _
    rw [h2]
    cases hv with
    | vs h3 => exact .vs (h.hdr _ _ h1 hc.2 _ h3)
  | mp id =>
    simp only [cov0, Bool.and_eq_true] at hc
    obtain ⟨c', h1, h2⟩ := inQ_spec hc.1
    show VR D R' (.mp (rn q id)) _
    rw [h2]
    cases hv with
    | mp h3 => exact .mp (h.hdr _ _ h1 hc.2 _ h3)
  | undef => exact .undef _
  | flat v => exact hv.closed L h.w (fun B i _ hn => (h.n B i).1 hn) rfl
  | row c l => exact hv.closed L h.w (fun B i _ hn => (h.n B i).1 hn) rfl
  | fm ka va ck cv l => exact hv.closed L h.w (fun B i _ hn => (h.n B i).1 hn) rfl
  | _ => cases hc
theorem VR.renA (L : Lawful D) (h : RenOk ob q R R') {v : AV U} {y : Value} (hv : VR D R v y) (hc : covA ob q v = true) : VR D R' (renA q v) y := by
  cases v with
  | agg xs =>
    cases hv with
    | agg hl hv =>
      refine .agg (by simpa using hl) (fun i x y hx hy => ?_)
      rw [List.getElem?_map] at hx
      obtain ⟨x', hx', rfl⟩ := Option.map_eq_some_iff.1 hx
      exact (hv i x' y hx' hy).ren0 L h (List.all_eq_true.mp hc x' (List.mem_of_getElem? hx'))
  | fn f xs => exact hv.closed L h.w (fun B i _ hn => (h.n B i).1 hn) hc
  | rp cs off => exact hv.closed L h.w (fun B i _ hn => (h.n B i).1 hn) hc
  | ptr id off => exact hv.ren0 L h hc
  | tip id c l => exact hv.ren0 L h hc
  | vs id => exact hv.ren0 L h hc
  | mp id => exact hv.ren0 L h hc
  | undef => exact hv.ren0 L h hc
  | flat v => exact hv.ren0 L h hc
  | row c l => exact hv.ren0 L h hc
  | fm ka va ck cv l => exact hv.ren0 L h hc
  | _ => cases hc
theorem VR.renV (L : Lawful D) (h : RenOk ob q R R') {v : AV U} {y : Value} (hv : VR D R v y) (hc : covV ob q v = true) : VR D R' (renV q v) y := by
  cases v with
  | tup xs =>
    cases hv with
    | tup hl hv =>
      refine .tup (by simpa using hl) (fun i x y hx hy => ?_)
      rw [List.getElem?_map] at hx
      obtain ⟨x', hx', rfl⟩ := Option.map_eq_some_iff.1 hx
      exact (hv i x' y hx' hy).renA L h (List.all_eq_true.mp hc x' (List.mem_of_getElem? hx'))
  | _ => exact hv.renA L h hc
theorem c1_packV {L : Lawful D} {g : Bool} {c : U.C} {x : U.El c} : c1 (packV g (D.enc c x)) = true := by
  unfold packV
  cases g with
  | true => exact List.all_eq_true.2 fun v hv => L.enc_c0 c x v hv
  | false =>
    simp only
    split
    · rename_i v hv
      exact c1_of_c0 (L.enc_c0 c x v (by rw [hv]; simp))
    · rfl
theorem OR.ren (L : Lawful D) (h : RenOk ob q R R') {a c : Nat} (hac : lk q a = some c) {o : Obj U} (ho : OR D R a o) (hc : covO ob q o = true) (hob : ob a = some o) (hes : ∀ n cc l, o = .arr n cc l → R'.blk c = R.blk a)
    (htip : hasHdr ob a = true → ∀ B es, R.blk a = some (B, es) → R'.blk c = some (B, es)) (hno : hasHdr ob a = true → R.blk a = none → R'.blk c = none) : OR D R' c (renO q o) := by
  have hcl : ∀ {v : AV U} {y : Value}, VR D R v y → c1 v = true → VR D R' v y := fun hv hc => hv.closed L h.w (fun B i _ hn => (h.n B i).1 hn) hc
  cases o with
  | dead => exact True.intro
  | lit cs =>
    obtain ⟨B, es, arr, el, h1, h2, h3, h4⟩ := ho
    obtain ⟨es', hb⟩ := h.blk _ _ hac _ _ h1
    refine ⟨B, es', arr, el, hb, by rw [h.w]; exact h2, by simpa using h3, fun i x y hx hy => ?_⟩
    rw [List.getElem?_map] at hx
    obtain ⟨x', hx', rfl⟩ := Option.map_eq_some_iff.1 hx
    exact (h4 i x' y hx' hy).ren0 L h (List.all_eq_true.mp hc x' (List.mem_of_getElem? hx'))
  | arr n cc l =>
    obtain ⟨B, arr, el, h1, h2, h3, h4, h5⟩ := ho
    exact ⟨B, arr, el, (hes _ _ _ rfl).trans h1, by rw [h.w]; exact h2, h3, h4, fun i x hx j v y hv hy => hcl (h5 i x hx j v y hv hy) (c1_of_c0 (L.enc_c0 _ x v (List.mem_of_getElem? hv)))⟩
  | tip sz =>
    obtain ⟨b, n, cap, h0, ho⟩ := ho
    have hh : hasHdr ob a = true := by unfold hasHdr; rw [hob]
    refine ⟨b, n, cap, h.hdr _ _ hac hh _ h0, ?_⟩
    rcases ho with ho | ⟨B, arr, el, h1, h2, h3, h4, h5, h6⟩
    · exact .inl ho
    · exact .inr ⟨B, arr, el, h1, htip hh _ _ h2, by rw [h.w]; exact h3, h4, h5, fun i hi => (h.n B i).2 (h6 i hi)⟩
  | vec cc l =>
    obtain ⟨b, cap, h0, ho⟩ := ho
    have hh : hasHdr ob a = true := by unfold hasHdr; rw [hob]
    refine ⟨b, cap, h.hdr _ _ hac hh _ h0, ?_⟩
    rcases ho with ho | ⟨B, arr, el, h1, h2, h3, h4, h5, h6⟩
    · exact .inl ho
    · exact .inr ⟨B, arr, el, h1, htip hh _ _ h2, by rw [h.w]; exact h3, h4, h5, fun i x hx j v y hv hy => hcl (h6 i x hx j v y hv hy) (c1_of_c0 (L.enc_c0 _ x v (List.mem_of_getElem? hv)))⟩
  | map w ka va ck cv l =>
    obtain ⟨B, h0, ho⟩ := ho
    have hh : hasHdr ob a = true := by unfold hasHdr; rw [hob]
    refine ⟨B, h.hdr _ _ hac hh _ h0, ?_⟩
    rcases ho with ⟨k1, k2, k3, k4⟩ | ⟨b, es, clock, h1, h2, h3, h4, h5⟩
    · exact .inl ⟨k1, k2, k3, hno hh k4⟩
    · exact .inr ⟨b, es, clock, h1, htip hh _ _ h2, by rw [h.w]; exact h3, h4, fun i x e hx he => ⟨hcl (h5 i x e hx he).1 (c1_packV (L := L)), hcl (h5 i x e hx he).2 (c1_packV (L := L))⟩⟩
  | ar => cases hc
  | om => cases hc
theorem renO_whole {o : Obj U} : (renO q o).whole ↔ o.whole := by cases o <;> rfl
theorem covO_alive {o : Obj U} (h : covO ob q o = true) : o.alive := by cases o <;> first | exact True.intro | cases h
end
section
variable {E : Env U} {nt : Nat} {w0 : Cx} {N0 : Nat → Nat → Prop} {R : Rl} {s : St U} {a : Act}
theorem lk_objsAt {ob : Nat → Option (Obj U)} {q : List (Nat × Nat)} {c : Nat} {o : Obj U} (h : lk (objsAt ob q) c = some o) : ∃ p ∈ q, p.2 = c ∧ o = renO q ((ob p.1).getD .dead) := by
  obtain ⟨p, hp, e⟩ := List.mem_map.1 (lk_mem h)
  cases e
  exact ⟨p, hp, rfl, rfl⟩
theorem lk_objsAt_none {ob : Nat → Option (Obj U)} {q : List (Nat × Nat)} {c : Nat} (h : lk (objsAt ob q) c = none) : lk (swap q) c = none := by
  cases hs : lk (swap q) c with
  | none => rfl
  | some b =>
    have := swap_mem hs
    exact absurd rfl (lk_none h (c, renO q ((ob b).getD .dead)) (List.mem_map.2 ⟨_, this, rfl⟩))
theorem lk_append {α : Type u} : ∀ (l l' : List (Nat × α)) (n : Nat), lk (l ++ l') n = match lk l n with | some v => some v | none => lk l' n
  | [], _, _ => rfl
  | (k, v) :: l, l', n => by
    simp only [List.cons_append, lk]
    cases Nat.beq k n with
    | true => rfl
    | false => simp only [cond_false]; exact lk_append l l' n
theorem lk_ghosts {args : List (AV U)} : ∀ {gh : List Nat} {n : Nat} {v : AV U}, lk (ghosts args gh) n = some v → ∃ i, n = gb + i ∧ args[i]? = some v
  | [], n, v, h => by cases h
  | i :: r, n, v, h => by
    unfold ghosts at h
    split at h
    · rename_i u hu
      simp only [lk] at h
      cases hb : Nat.beq (gb + i) n with
      | true =>
        simp only [hb, cond_true, Option.some.injEq] at h
        subst h
        exact ⟨i, (Nat.eq_of_beq_eq_true hb).symm, hu⟩
      | false =>
        simp only [hb, cond_false] at h
        exact lk_ghosts h
    · exact lk_ghosts h
def GivenB (R : Rl) (q : List (Nat × Nat)) (B : Nat) : Prop := ∃ p ∈ q, ∃ es, R.blk p.1 = some (B, es)
def entryR (R : Rl) (q : List (Nat × Nat)) : Rl := { w := R.w, N := R.N, blk := fun c => (lk (swap q) c).bind R.blk, hdr := fun c => (lk (swap q) c).bind R.hdr, ar := fun _ => [] }
theorem entry_sr (L : Lawful E.D) (h : SR E.D nt w0 N0 R s a) {d : FDen U} {q : List (Nat × Nat)} {args : List (AV U)} {vs : Array Value} (hlen : args.length = vs.size)
    (hargs : ∀ (i : Nat) (p : AV U) (v : Value), args[i]? = some p → vs[i]? = some v → VR E.D R p v) (hok : entryOk (lk s.o) q args = true) (hsz : vs.size ≤ d.nt) (hnt : d.nt ≤ gb) :
    SR E.D d.nt ⟨R.w, GivenB R q, vs⟩ R.N (entryR R q) (entry d (lk s.o) q args) { tmps := vs ++ Array.replicate (d.nt - vs.size) undef, defers := [] } := by
  unfold entryOk at hok
  simp only [Bool.and_eq_true] at hok
  obtain ⟨⟨⟨hA, n1⟩, n2⟩, hO⟩ := hok
  replace n1 := nodupB_spec n1
  replace n2 := nodupB_spec n2
  have hob : ∀ p ∈ q, ∃ o, lk s.o p.1 = some o ∧ covO (lk s.o) q o = true := fun p hp => by
    have := List.all_eq_true.mp hO p hp
    cases ho : lk s.o p.1 with
    | none => rw [ho] at this; cases this
    | some o => rw [ho] at this; exact ⟨o, rfl, this⟩
  have hbk : ∀ x c, lk q x = some c → lk (swap q) c = some x := fun x c hx => lk_swap n2 (lk_mem hx)
  have hren : RenOk (lk s.o) q R (entryR R q) := ⟨rfl, fun _ _ => Iff.rfl,
    fun x c hx B es hb => ⟨es, by show (lk (swap q) c).bind R.blk = _; rw [hbk x c hx]; exact hb⟩,
    fun x c hx _ p hp => by show (lk (swap q) c).bind R.hdr = _; rw [hbk x c hx]; exact hp⟩
  have from_ : ∀ c o, lk (entry d (lk s.o) q args).o c = some o → ∃ x ox, lk q x = some c ∧ lk s.o x = some ox ∧ covO (lk s.o) q ox = true ∧ o = renO q ox := by
    intro c o ho
    obtain ⟨p, hp, rfl, rfl⟩ := lk_objsAt ho
    obtain ⟨ox, h1, h2⟩ := hob p hp
    exact ⟨p.1, ox, lk_of n1 hp, h1, h2, by rw [h1]; rfl⟩
  have hblk : ∀ x c, lk q x = some c → (entryR R q).blk c = R.blk x := fun x c hx => by show (lk (swap q) c).bind R.blk = _; rw [hbk x c hx]; rfl
  refine { objs := fun c o ho => ?_, none := fun c ho => ?_, own := fun c o B es ho ha hb => ?_, inj := fun c c' o o' B es es' h1 h2 a1 a2 b1 b2 => ?_,
           keep := .refl _ _ _, le0 := fun B i _ hh => ⟨rfl, hh⟩, nn := fun _ _ _ _ hh => hh, nlt := h.nlt, ri := .nil (fun _ => rfl) (fun c B es hb => by
             have hb : (lk (swap q) c).bind R.blk = some (B, es) := hb
             obtain ⟨x, _, hx⟩ := Option.bind_eq_some_iff.1 hb
             exact h.ri.blt x B es hx), size := by simp; omega, defers := rfl, ntle := hnt, tm := fun n => ?_ }
  · obtain ⟨x, ox, h1, h2, h3, rfl⟩ := from_ c o ho
    exact (h.objs x ox h2).ren L hren h1 h3 h2 (fun _ _ _ _ => hblk x c h1) (fun _ B es hb => (hblk x c h1).trans hb) (fun _ hb => (hblk x c h1).trans hb)
  · have := lk_objsAt_none (show lk (objsAt (lk s.o) q) c = none from ho)
    exact ⟨by show (lk (swap q) c).bind R.blk = _; rw [this]; rfl, by show (lk (swap q) c).bind R.hdr = _; rw [this]; rfl⟩
  · obtain ⟨x, ox, h1, h2, h3, rfl⟩ := from_ c o ho
    rw [hblk x c h1] at hb
    obtain ⟨k1, k2, k3⟩ := h.own x ox B es h2 (covO_alive h3) hb
    exact ⟨fun hw => k1 (renO_whole.1 hw), .inr ⟨(x, c), lk_mem h1, es, hb⟩, k3⟩
  · obtain ⟨x, ox, g1, g2, g3, rfl⟩ := from_ c o h1
    obtain ⟨x', ox', g1', g2', g3', rfl⟩ := from_ c' o' h2
    rw [hblk x c g1] at b1
    rw [hblk x' c' g1'] at b2
    have := h.inj x x' ox ox' B es es' g2 g2' (covO_alive g3) (covO_alive g3') b1 b2
    subst this
    rw [g1] at g1'
    cases g1'
    rfl
  · have hgt : ∀ (i : Nat) (v : AV U), (args.map (renV q))[i]? = some v → ∀ (y : Value), vs[i]? = some y → VR E.D (entryR R q) v y := by
      intro i v hv y hy
      rw [List.getElem?_map] at hv
      obtain ⟨p, hp, rfl⟩ := Option.map_eq_some_iff.1 hv
      exact (hargs i p y hp hy).renV L hren (List.all_eq_true.mp hA p (List.mem_of_getElem? hp))
    show VR E.D (entryR R q) ((lk (startT (args.map (renV q)) 0 ++ ghosts (args.map (renV q)) d.gh) n).getD .undef) _
    rw [lk_append, startT_get]
    simp only [Nat.zero_le, if_true, Nat.sub_zero]
    cases hg : (args.map (renV q))[n]? with
    | some v =>
      have hlt := (List.getElem?_eq_some_iff.1 hg).1
      simp only [List.length_map] at hlt
      have hvs : vs[n]? = some (vs[n]'(by omega)) := Array.getElem?_eq_getElem (by omega)
      rw [tv_lt (by omega), Array.getD_eq_getD_getElem?, Array.getElem?_append_left (by omega), hvs]
      exact hgt n v hg _ hvs
    | none =>
      simp only
      cases hh : lk (ghosts (args.map (renV q)) d.gh) n with
      | none => exact .undef _
      | some v =>
        obtain ⟨i, rfl, hv⟩ := lk_ghosts hh
        have hlt := (List.getElem?_eq_some_iff.1 hv).1
        simp only [List.length_map] at hlt
        have hvs : vs[i]? = some (vs[i]'(by omega)) := Array.getElem?_eq_getElem (by omega)
        unfold tv
        rw [if_neg (by omega), show gb + i - gb = i by omega, Array.getD_eq_getD_getElem?, hvs]
        exact hgt i v hv _ hvs
end
end Go.Ev
