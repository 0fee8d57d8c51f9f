import Derived.Test.YthknecaigoilmaaEvX
/-! A state that is told by another. -/
universe u
namespace Go.Ev
set_option linter.unusedVariables false
set_option linter.unusedSimpArgs false
open Go.RowKit (Below)
variable {U : Univ} {ρ : Type}

theorem c1_of_cA {v : AV U} (h : cA v = true) : c1 v = true := by cases v <;> first | exact h | cases h
theorem c1_of_c0 {v : AV U} (h : c0 v = true) : c1 v = true := by cases v <;> first | exact h | cases h

theorem VR.closed {D : Codec U} (L : Lawful D) {R R' : Rl} (hw : R'.w = R.w) (hn : ∀ B i, B < R.w.heap.size → R'.N B i → R.N B i) {x : AV U} {y : Value} (h : VR D R x y) : c1 x = true → VR D R' x y := by
  induction h with
  | undef u => exact fun _ => .undef u
  | flat v => exact fun _ => .flat v
  | ptr h => exact fun h => by cases h
  | el h => exact fun h => by cases h
  | pe h => exact fun h => by cases h
  | rp f hB hc hv ih => exact fun h => by cases h
  | tip h hr ih => exact fun h => by cases h
  | vs h => exact fun h => by cases h
  | rownil => exact fun _ => .rownil
  | row f hB hl hc hv ih =>
    exact fun _ => .row f (by rw [hw]; exact hB) hl (fun i x hx j v hj => ⟨by rw [hw]; exact (hc i x hx j v hj).1, fun h => (hc i x hx j v hj).2 (hn _ _ hB h)⟩)
      (fun i x hx j v hj => ih i x hx j v hj (c1_of_c0 (L.enc_c0 _ x v (List.mem_of_getElem? hj))))
  | agg hl hv ih => exact fun hc => .agg hl (fun i x y hx hy => ih i x y hx hy (c1_of_c0 (List.all_eq_true.mp hc x (List.mem_of_getElem? hx))))
  | tup hl hv ih => exact fun hc => .tup hl (fun i x y hx hy => ih i x y hx hy (c1_of_cA (List.all_eq_true.mp hc x (List.mem_of_getElem? hx))))
  | fn hl hv ih => exact fun hc => .fn hl (fun i x y hx hy => ih i x y hx hy (c1_of_c0 (List.all_eq_true.mp hc x (List.mem_of_getElem? hx))))

def iter {X Y : Type} (once : X → Option (X ⊕ Y)) : Nat → X → Option Y
  | 0, _ => none
  | n + 1, x => (once x).bind fun
    | .inl x' => iter once n x'
    | .inr y => some y

theorem lk_mem {α : Type u} : ∀ {l : List (Nat × α)} {n : Nat} {v : α}, lk l n = some v → (n, v) ∈ l
  | [], n, v, h => by cases h
  | (k, u) :: l, n, v, h => by
    simp only [lk] at h
    cases hb : Nat.beq k n with
    | true =>
      simp only [hb, cond_true, Option.some.injEq] at h
      have := Nat.eq_of_beq_eq_true hb
      subst this; subst h
      simp
    | false =>
      simp only [hb, cond_false] at h
      exact List.mem_cons_of_mem _ (lk_mem h)

def Obj.plain : Obj U → Prop
  | .lit _ | .arr .. => True
  | _ => False

def srcHdr (R : Rl) (x : Option Nat) : Option (Option Addr × Nat × Nat) := match x with
  | some a => R.hdr a
  | none => some (none, 0, 0)

theorem VR.tip_inv {D : Codec U} {R : Rl} {id : Nat} {c : U.C} {l : List (U.El c)} {y : Value} (h : VR D R (.tip id c l) y) :
    ∃ b n cap, R.hdr id = some (b, n, cap) ∧ y = .slice b n cap ∧ VR D R (.row c l) (.slice b n cap) := by
  cases h with | tip h1 h2 => exact ⟨_, _, _, h1, rfl, h2⟩

theorem SR.fits {D : Codec U} (L : Lawful D) {nt : Nat} {w0 : World} {N0 : Nat → Nat → Prop} {R : Rl} {s m : St U} {a : Act} (h : SR D nt w0 N0 R s a) (hf : Fits s m) :
    ∃ R2, R2.w = R.w ∧ SR D nt w0 N0 R2 m a := by
  obtain ⟨⟨ren, h1, h2, hren⟩, h3⟩ := hf
  simp only [keepOk, Bool.and_eq_true] at h3
  let src : Nat → Option Nat := fun id => match lk m.o id with
    | some (.tip _) | some (.vec ..) => (lk ren id).join
    | some _ => some id
    | none => none
  let R2 : Rl := { w := R.w, N := R.N, blk := fun id => (src id).bind R.blk, hdr := fun id => match lk m.o id with
    | some (.tip _) | some (.vec ..) => srcHdr R (src id)
    | _ => none }
  refine ⟨R2, rfl, ?_⟩
  have hob : ∀ id o, lk m.o id = some o → FO ren s id o := fun id o ho => h2 _ (lk_mem ho)
  -- where an object comes from
  have from_ : ∀ id o b, lk m.o id = some o → src id = some b → o.alive → lk s.o b = some o ∧ ((lk ren id = some (some b) ∧ ¬ o.plain) ∨ (b = id ∧ o.plain)) := by
    intro id o b ho hb ha
    have hfo := hob id o ho
    have hb : (match lk m.o id with | some (.tip _) | some (.vec ..) => (lk ren id).join | some _ => some id | none => none) = some b := hb
    rw [ho] at hb
    cases o with
    | dead => exact ha.elim
    | lit cs => cases hb; exact ⟨hfo, .inr ⟨rfl, True.intro⟩⟩
    | arr n c l => cases hb; exact ⟨hfo, .inr ⟨rfl, True.intro⟩⟩
    | vec c l =>
      obtain ⟨a', e1, e2, _⟩ := hfo
      have hb : (lk ren id).join = some b := hb
      rw [e1] at hb
      have : a' = some b := hb
      subst this
      exact ⟨e2 b rfl, .inl ⟨e1, fun h => h.elim⟩⟩
    | tip sz =>
      obtain ⟨a', e1, e2⟩ := hfo
      have hb : (lk ren id).join = some b := hb
      rw [e1] at hb
      have : a' = some b := hb
      subst this
      exact ⟨e2 b rfl, .inl ⟨e1, fun h => h.elim⟩⟩
  have srcO : ∀ id o, lk m.o id = some o → o.plain → src id = some id := by
    intro id o ho hw
    show (match lk m.o id with | some (.tip _) | some (.vec ..) => (lk ren id).join | some _ => some id | none => none) = some id
    rw [ho]
    cases o <;> first | rfl | exact hw.elim
  refine { objs := fun id o ho => ?_, none := fun id ho => ⟨?_, ?_⟩, own := fun id o B es ho ha hb => ?_, inj := fun id id' o o' B es es' ho ho' ha ha' hb hb' => ?_,
           keep := h.keep, nn := h.nn, nlt := h.nlt, size := h.size, defers := h.defers, tm := fun n => ?_ }
  · have hk := List.all_eq_true.mp h3.2 _ (lk_mem ho)
    cases o with
    | dead => exact True.intro
    | lit cs =>
      obtain ⟨B, es, arr, el, e1, e2, e3, e4⟩ := h.objs id _ (hob id _ ho)
      refine ⟨B, es, arr, el, by show (src id).bind R.blk = _; rw [srcO id _ ho True.intro]; exact e1, e2, e3, fun i x y hx hy => ?_⟩
      exact (e4 i x y hx hy).closed (R := R) (R' := R2) L rfl (fun _ _ _ h => h) (c1_of_c0 (List.all_eq_true.mp hk x (List.mem_of_getElem? hx)))
    | arr n c l =>
      obtain ⟨B, arr, el, e1, e2, e3, e4, e5⟩ := h.objs id _ (hob id _ ho)
      refine ⟨B, arr, el, by show (src id).bind R.blk = _; rw [srcO id _ ho True.intro]; exact e1, e2, e3, e4, fun i x hx j v y hv hy => ?_⟩
      exact (e5 i x hx j v y hv hy).closed (R := R) (R' := R2) L rfl (fun _ _ _ h => h) (c1_of_c0 (L.enc_c0 _ x v (List.mem_of_getElem? hv)))
    | vec c l =>
      obtain ⟨a', e1, e2, e3⟩ := hob id _ ho
      have hsrc : src id = a' := by
        show (match lk m.o id with | some (.tip _) | some (.vec ..) => (lk ren id).join | some _ => some id | none => none) = a'
        rw [ho, e1]
        rfl
      have hhd : R2.hdr id = srcHdr R a' := by
        show (match lk m.o id with | some (.tip _) | some (.vec ..) => srcHdr R (src id) | _ => none) = _
        rw [ho, hsrc]
      cases a' with
      | none => rw [e3 rfl]; exact ⟨none, 0, hhd, .inl ⟨rfl, rfl, rfl⟩⟩
      | some b =>
        obtain ⟨bb, cap, g1, g2⟩ := h.objs b _ (e2 b rfl)
        refine ⟨bb, cap, hhd.trans g1, ?_⟩
        rcases g2 with g2 | ⟨B, arr, el, k1, k2, k3, k4, k5, k6⟩
        · exact .inl g2
        · exact .inr ⟨B, arr, el, k1, by show (src id).bind R.blk = _; rw [hsrc]; exact k2, k3, k4, k5, fun i x hx j v y hv hy =>
            (k6 i x hx j v y hv hy).closed (R := R) (R' := R2) L rfl (fun _ _ _ h => h) (c1_of_c0 (L.enc_c0 _ x v (List.mem_of_getElem? hv)))⟩
    | tip sz =>
      obtain ⟨a', e1, e2⟩ := hob id _ ho
      have hsrc : src id = a' := by
        show (match lk m.o id with | some (.tip _) | some (.vec ..) => (lk ren id).join | some _ => some id | none => none) = a'
        rw [ho, e1]
        rfl
      have hhd : R2.hdr id = srcHdr R a' := by
        show (match lk m.o id with | some (.tip _) | some (.vec ..) => srcHdr R (src id) | _ => none) = _
        rw [ho, hsrc]
      cases a' with
      | none => exact ⟨none, 0, 0, hhd, .inl ⟨rfl, rfl, rfl⟩⟩
      | some b =>
        obtain ⟨bb, n, cap, g1, g2⟩ := h.objs b _ (e2 b rfl)
        refine ⟨bb, n, cap, hhd.trans g1, ?_⟩
        rcases g2 with g2 | ⟨B, arr, el, k1, k2, k3, k4, k5, k6⟩
        · exact .inl g2
        · exact .inr ⟨B, arr, el, k1, by show (src id).bind R.blk = _; rw [hsrc]; exact k2, k3, k4, k5, k6⟩
  · show (src id).bind R.blk = none
    have : src id = none := by
      show (match lk m.o id with | some (.tip _) | some (.vec ..) => (lk ren id).join | some _ => some id | none => none) = none
      rw [ho]
    rw [this]
    rfl
  · show (match lk m.o id with | some (.tip _) | some (.vec ..) => srcHdr R (src id) | _ => none) = none
    rw [ho]
  · have hb : (src id).bind R.blk = some (B, es) := hb
    obtain ⟨b, hs, hb⟩ := Option.bind_eq_some_iff.1 hb
    obtain ⟨g1, _⟩ := from_ id o b ho hs ha
    exact h.own b o B es g1 ha hb
  · have hb : (src id).bind R.blk = some (B, es) := hb
    have hb' : (src id').bind R.blk = some (B, es') := hb'
    obtain ⟨b, hs, hb⟩ := Option.bind_eq_some_iff.1 hb
    obtain ⟨b', hs', hb'⟩ := Option.bind_eq_some_iff.1 hb'
    obtain ⟨g1, g4⟩ := from_ id o b ho hs ha
    obtain ⟨g1', g4'⟩ := from_ id' o' b' ho' hs' ha'
    have := h.inj b b' o o' B es es' g1 g1' ha ha' hb hb'
    subst this
    rw [g1] at g1'
    cases g1'
    rcases g4 with ⟨e1, e2⟩ | ⟨e1, e2⟩ <;> rcases g4' with ⟨e1', e2'⟩ | ⟨e1', e2'⟩
    · exact hren _ _ _ e1 e1'
    · exact absurd e2' e2
    · exact absurd e2 e2'
    · rw [← e1, ← e1']
  · cases hg : lk m.t n with
    | none => simp only [St.get, hg, Option.getD_none]; exact .undef _
    | some v =>
      have hmem := lk_mem hg
      have hk := List.all_eq_true.mp h3.1 _ hmem
      have hs := h1 _ hmem
      have htm := h.tm n
      simp only at hs hk
      simp only [St.get, hg, Option.getD_some]
      rw [Bool.or_eq_true] at hk
      -- a value that is told as it is, or as a row
      have asis : VR D R v (a.tmps.getD n undef) → (∀ id c l, v ≠ .tip id c l) → (∀ id, v ≠ .vs id) → VR D R2 v (a.tmps.getD n undef) := by
        intro htm hnt hnv
        rcases hk with hk | hk
        · exact htm.closed (R := R) (R' := R2) L rfl (fun _ _ _ h => h) hk
        · cases v with
          | ptr id off =>
            simp only at hk
            cases ho : lk m.o id with
            | none => rw [ho] at hk; cases hk
            | some o =>
              obtain ⟨B, es, hb, hy⟩ := htm.ptr_inv
              rw [hy]
              have hw : o.plain ∨ o = .dead := by
                cases o with
                | tip sz => rw [ho] at hk; cases hk
                | vec c l => rw [ho] at hk; cases hk
                | dead => exact .inr rfl
                | lit cs => exact .inl True.intro
                | arr n c l => exact .inl True.intro
              rcases hw with hw | rfl
              · exact .ptr (es := es) (by show (src id).bind R.blk = _; rw [srcO id o ho hw]; exact hb)
              · have := List.all_eq_true.mp h3.2 _ (lk_mem ho)
                cases this
          | tip id c l => exact absurd rfl (hnt id c l)
          | vs id => exact absurd rfl (hnv id)
          | _ => cases hk
      rcases hs with ⟨rfl, hnt, hnv⟩ | ⟨hs, hnv⟩ | ⟨c, rfl, hv⟩ | ⟨cid, c, l, rfl, hs⟩ | ⟨cid, rfl, hs⟩
      · exact asis htm hnt hnv
      · subst hs
        exact asis htm.drop (fun id c l e => by
          cases hx : s.get n <;> rw [hx] at e <;> cases e) hnv
      · rw [hv] at htm
        rw [htm.flat_inv]
        exact .rownil
      · rcases hk with hk | hk
        · cases hk
        · simp only at hk
          cases ho : lk m.o cid with
          | none => rw [ho] at hk; cases hk
          | some o =>
            rw [ho] at hk
            cases o with
            | tip sz =>
              have hhd : ∀ a', lk ren cid = some a' → R2.hdr cid = srcHdr R a' := by
                intro a' e1
                show (match lk m.o cid with | some (.tip _) | some (.vec ..) => srcHdr R (match lk m.o cid with | some (.tip _) | some (.vec ..) => (lk ren cid).join | some _ => some cid | none => none) | _ => none) = _
                rw [ho, e1]
                rfl
              rcases hs with ⟨aid, hv, hr⟩ | ⟨rfl, hv, hr⟩
              · rw [hv] at htm
                obtain ⟨b, n', cap, e1, e3, e2⟩ := htm.tip_inv
                rw [e3]
                exact .tip ((hhd _ hr).trans e1) (e2.closed (R := R) (R' := R2) L rfl (fun _ _ _ h => h) rfl)
              · rw [hv] at htm
                rw [htm.flat_inv]
                exact .tip (hhd _ hr) .rownil
            | _ => cases hk
      · rcases hk with hk | hk
        · cases hk
        · simp only at hk
          cases ho : lk m.o cid with
          | none => rw [ho] at hk; cases hk
          | some o =>
            rw [ho] at hk
            cases o with
            | vec c l =>
              have hhd : ∀ a', lk ren cid = some a' → R2.hdr cid = srcHdr R a' := by
                intro a' e1
                show (match lk m.o cid with | some (.tip _) | some (.vec ..) => srcHdr R (match lk m.o cid with | some (.tip _) | some (.vec ..) => (lk ren cid).join | some _ => some cid | none => none) | _ => none) = _
                rw [ho, e1]
                rfl
              rcases hs with ⟨aid, hv, hr⟩ | ⟨hv, hr⟩
              · rw [hv] at htm
                obtain ⟨b, n', cap, e1, e3⟩ := htm.vs_inv
                rw [e3]
                exact .vs ((hhd _ hr).trans e1)
              · rw [hv] at htm
                rw [htm.flat_inv]
                exact .vs (hhd _ hr)
            | _ => cases hk


/-! ### Lists of a known length -/
def packN {α : Type} (d : α) (l : List α) : Nat → Nat → List α
  | 0, _ => []
  | n + 1, i => List.getD l i d :: packN d l n (i + 1)
/-- The first n of a list. -/
def pack {α : Type} (n : Nat) (d : α) (l : List α) : List α := packN d l n 0
/-- A list with another i-th. -/
def putAll {α : Type} (i : Nat) (v : α) : Nat → List α → List α
  | _, [] => []
  | j, x :: r => cond (Nat.beq i j) v x :: putAll i v (j + 1) r
theorem packN_eq {α : Type} (d : α) : ∀ (n i : Nat) (l : List α), l.length = i + n → packN d l n i = l.drop i
  | 0, i, l, h => by rw [List.drop_eq_nil_of_le (by omega)]; rfl
  | n + 1, i, l, h => by
    show List.getD l i d :: packN d l n (i + 1) = _
    rw [packN_eq d n (i + 1) l (by omega), List.drop_eq_getElem_cons (show i < l.length by omega), List.getD_eq_getElem?_getD, List.getElem?_eq_getElem (show i < l.length by omega)]
    rfl
theorem pack_eq {α : Type} {n : Nat} (d : α) {l : List α} (h : l.length = n) : pack n d l = l := by
  unfold pack
  rw [packN_eq d n 0 l (by omega), List.drop_zero]
theorem putAll_eq {α : Type} (i : Nat) (v : α) : ∀ (l : List α) (j : Nat), j ≤ i → putAll i v j l = l.set (i - j) v
  | [], j, _ => rfl
  | x :: r, j, h => by
    show cond (Nat.beq i j) v x :: putAll i v (j + 1) r = _
    by_cases e : i = j
    · subst e
      rw [Nat.beq_refl, Nat.sub_self]
      show v :: putAll i v (i + 1) r = v :: r
      congr 1
      have key : ∀ (l : List α) (j : Nat), i < j → putAll i v j l = l := by
        intro l
        induction l with
        | nil => intro j _; rfl
        | cons y l ih =>
          intro j hj
          show cond (Nat.beq i j) v y :: putAll i v (j + 1) l = _
          rw [ih (j + 1) (by omega), show Nat.beq i j = false from Bool.eq_false_iff.2 fun h => by have := Nat.eq_of_beq_eq_true h; omega]
          rfl
      exact key r _ (by omega)
    · rw [show Nat.beq i j = false from Bool.eq_false_iff.2 fun h => e (Nat.eq_of_beq_eq_true h), putAll_eq i v r (j + 1) (by omega), show i - j = (i - (j + 1)) + 1 by omega]
      rfl
theorem putAll_set {α : Type} (i : Nat) (v : α) (l : List α) : putAll i v 0 l = l.set i v := putAll_eq i v l 0 (Nat.zero_le _)

/-! ### Values of many cells, told as one datum -/

structure Cd (U : Univ) (α : Type) where
  enc : α → List (AV U)
  dec : List (AV U) → Option (α × List (AV U))
  ok : ∀ cs x r, dec cs = some (x, r) → cs = enc x ++ r

namespace Cd
variable {α β : Type}
def int (k : IntKind) : Cd U Int where
  enc x := [.flat (.int k x)]
  dec cs := match cs with
    | .flat (.int k' x) :: r => bif k == k' then some (x, r) else none
    | _ => none
  ok cs x r h := by
    split at h
    · rename_i k' x' r'
      obtain ⟨h1, h2⟩ := cond_none h
      have : k = k' := by simpa using h1
      subst this
      cases h2
      rfl
    · cases h
def bool : Cd U Bool where
  enc x := [.flat (.bool x)]
  dec cs := match cs with
    | .flat (.bool x) :: r => some (x, r)
    | _ => none
  ok cs x r h := by
    split at h
    · cases h; rfl
    · cases h
def str : Cd U ByteArray where
  enc x := [.flat (.string x)]
  dec cs := match cs with
    | .flat (.string x) :: r => some (x, r)
    | _ => none
  ok cs x r h := by
    split at h
    · cases h; rfl
    · cases h
def unit : Cd U Unit where
  enc _ := []
  dec cs := some ((), cs)
  ok cs x r h := by cases h; rfl
def row (q : DecidableEq U.C) (c : U.C) : Cd U (List (U.El c)) where
  enc l := [.row c l]
  dec cs := match cs with
    | .row c' l :: r => match q c' c with
      | isTrue e => some (e ▸ l, r)
      | isFalse _ => none
    | _ => none
  ok cs x r h := by
    split at h
    · split at h
      · rename_i e _
        subst e
        cases h
        rfl
      · cases h
    · cases h
def pair (a : Cd U α) (b : Cd U β) : Cd U (α × β) where
  enc x := a.enc x.1 ++ b.enc x.2
  dec cs := match a.dec cs with
    | some (x, r) => match b.dec r with
      | some (y, r') => some ((x, y), r')
      | none => none
    | none => none
  ok cs x r h := by
    split at h
    · rename_i x1 r1 h1
      split at h
      · rename_i y r2 h2
        cases h
        rw [a.ok _ _ _ h1, b.ok _ _ _ h2, List.append_assoc]
      · cases h
    · cases h
def iso (a : Cd U α) (f : α → β) (g : β → α) (h : ∀ x, g (f x) = x) : Cd U β where
  enc x := a.enc (g x)
  dec cs := match a.dec cs with
    | some (x, r) => some (f x, r)
    | none => none
  ok cs x r hd := by
    split at hd
    · rename_i x1 r1 h1
      cases hd
      rw [h]
      exact a.ok _ _ _ h1
    · cases hd
def encN (a : Cd U α) (d : α) : Nat → Nat → List α → List (AV U)
  | 0, _, _ => []
  | n + 1, i, l => a.enc (List.getD l i d) ++ encN a d n (i + 1) l
def decN (a : Cd U α) : Nat → List (AV U) → Option (List α × List (AV U))
  | 0, cs => some ([], cs)
  | n + 1, cs => match a.dec cs with
    | some (x, r) => match decN a n r with
      | some (l, r') => some (x :: l, r')
      | none => none
    | none => none
theorem encN_succ (a : Cd U α) (d v : α) (l : List α) : ∀ n i, encN a d n (i + 1) (v :: l) = encN a d n i l
  | 0, _ => rfl
  | n + 1, i => by
    show a.enc (List.getD (v :: l) (i + 1) d) ++ _ = a.enc (List.getD l i d) ++ _
    rw [encN_succ a d v l n (i + 1)]
    rfl
theorem decN_ok (a : Cd U α) (d : α) : ∀ (n : Nat) (cs : List (AV U)) (l : List α) (r : List (AV U)), decN a n cs = some (l, r) → cs = encN a d n 0 l ++ r
  | 0, cs, l, r, h => by cases h; rfl
  | n + 1, cs, l, r, h => by
    unfold decN at h
    split at h
    · rename_i x1 r1 h1
      split at h
      · rename_i l2 r2 h2
        cases h
        rw [a.ok _ _ _ h1, decN_ok a d n _ _ _ h2]
        show _ = (a.enc x1 ++ encN a d n 1 (x1 :: l2)) ++ r
        rw [encN_succ a d x1 l2 n 0, List.append_assoc]
      · cases h
    · cases h
def arr (n : Nat) (d : α) (a : Cd U α) : Cd U (List α) where
  enc l := encN a d n 0 l
  dec cs := decN a n cs
  ok cs x r h := decN_ok a d n cs x r h
def full (a : Cd U α) (cs : List (AV U)) : Option α := match a.dec cs with
  | some (x, []) => some x
  | _ => none
/-- What is told is read again. -/
def Rt (a : Cd U α) (wf : α → Prop) : Prop := ∀ x r, wf x → a.dec (a.enc x ++ r) = some (x, r)
theorem rt_int (k : IntKind) : (int k : Cd U Int).Rt (fun _ => True) := fun x r _ => by
  show (bif k == k then some (x, r) else none) = _
  rw [show (k == k) = true by simp]
  rfl
theorem rt_bool : (bool : Cd U Bool).Rt (fun _ => True) := fun _ _ _ => rfl
theorem rt_arr {a : Cd U α} {wf : α → Prop} (n : Nat) (d : α) (h : a.Rt wf) : (arr n d a).Rt (fun l => l.length = n ∧ ∀ z ∈ l, wf z) := by
  have key : ∀ (n : Nat) (l : List α) (r : List (AV U)), l.length = n → (∀ z ∈ l, wf z) → decN a n (encN a d n 0 l ++ r) = some (l, r) := by
    intro n
    induction n with
    | zero => intro l r hl _; rw [List.length_eq_zero_iff.1 hl]; rfl
    | succ n ih =>
      intro l r hl hw
      cases l with
      | nil => simp at hl
      | cons x l =>
        show (match a.dec (a.enc x ++ encN a d n 1 (x :: l) ++ r) with | some (x, r) => _ | none => _) = _
        rw [encN_succ, List.append_assoc, h x _ (hw x (by simp))]
        show (match decN a n (encN a d n 0 l ++ r) with | some (l, r') => _ | none => _) = _
        rw [ih l r (by simpa using hl) (fun z hz => hw z (by simp [hz]))]
  exact fun l r hl => key n l r hl.1 hl.2
theorem full_rt {a : Cd U α} {wf : α → Prop} (h : a.Rt wf) {x : α} (hx : wf x) : a.full (a.enc x) = some x := by
  unfold full
  have := h x [] hx
  rw [List.append_nil] at this
  rw [this]
theorem full_ok {a : Cd U α} {cs : List (AV U)} {x : α} (h : a.full cs = some x) : cs = a.enc x := by
  unfold full at h
  split at h
  · rename_i y hy
    cases h
    simpa using a.ok _ _ _ hy
  · cases h
def ofAgg (a : Cd U α) : AV U → Option α
  | .agg cs => a.full cs
  | _ => none
theorem ofAgg_ok {a : Cd U α} {v : AV U} {x : α} (h : a.ofAgg v = some x) : v = .agg (a.enc x) := by
  unfold ofAgg at h
  split at h
  · rw [full_ok h]
  · cases h
def ofLit (a : Cd U α) (o : List (Nat × Obj U)) (i : Nat) : Option α := match lk o i with
  | some (.lit cs) => a.full cs
  | _ => none
theorem ofLit_ok {a : Cd U α} {o : List (Nat × Obj U)} {i : Nat} {x : α} (h : a.ofLit o i = some x) : lk o i = some (.lit (a.enc x)) := by
  unfold ofLit at h
  split at h
  · rename_i cs hc
    rw [hc, full_ok h]
  · cases h
end Cd
end Go.Ev
