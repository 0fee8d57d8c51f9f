import Derived.Test.YtgfbcclfajcjnaaEvW
universe u
namespace Go.Ev
set_option linter.unusedVariables false
set_option linter.unusedSimpArgs false
open Go.RowKit (Below)
variable {U : Univ} {ρ : Type}
theorem drawCk_same {E : Env U} {ops : List Oper} {bits : List Nat} (j : Nat) (o : Oper) (s s' : St U) (h : Same s s') : drawCk E ops bits j o s = drawCk E ops bits j o s' := by
  have ho : ∀ x, s.op x = s'.op x := fun x => op_congr (fun n => h.1 n) x
  have ht : ∀ p : Oper, touched p s = touched p s' := fun p => by
    unfold touched
    cases p.op <;> simp [ho]
  have hop : s.op = s'.op := funext ho
  have hlk : lk s.o = lk s'.o := funext h.2
  have hp : ∀ (i : Nat) (a : Oper), pairOk E ops i j a o s = pairOk E ops i j a o s' := fun i a => by
    unfold pairOk harmless loadFirst loadLast newFirst newLast lookNew newBare apartM loadId argsX
    simp only [hop, hlk]
  unfold drawCk ownCk twoCk xCk
  simp only [ht, hp]
section
variable {E : Env U} {nt : Nat} {w0 : Cx} {N0 : Nat → Nat → Prop}
structure DrawData (E : Env U) (all : Array Oper) (xs : List (Res U)) (s : St U) : Prop where
  len : xs.length = all.toList.length
  fact : ∀ (k : Nat) (o : Oper), all.toList[k]? = some o → ∃ x s1, xs[k]? = some x ∧ Same s1 (stD all.toList xs (fun m => decide (m < k)) 0 s) ∧ OpFact E (drawCk E all.toList (ahead all.toList)) all k o x s1
  lt : ∀ (j : Nat) (o : Oper), all.toList[j]? = some o → ∀ e ∈ o.after.toList, Region.binds .any e = true → e.on < j
  pair : ∀ (i j : Nat) (p o : Oper), all.toList[i]? = some p → all.toList[j]? = some o → i < j → bit all.toList j i = true ∨ apartB all i p o = true
theorem zipIdx_all {α : Type} {l : List α} {f : α × Nat → Bool} (h : l.zipIdx.all f = true) (i : Nat) (x : α) (hx : l[i]? = some x) : f (x, i) = true := by
  have : (l.zipIdx)[i]? = some (x, i) := by simp [List.getElem?_zipIdx, hx]
  exact List.all_eq_true.mp h _ (List.mem_of_getElem? this)
theorem drawData {all : Array Oper} {s : St U} {K : St U → Option ρ} {r : ρ} (hok : drawOkB all (ahead all.toList) = true)
    (hk : regC E (drawCk E all.toList (ahead all.toList)) all 0 all.toList s K = some r) :
    ∃ xs sf, DrawData E all xs s ∧ K sf = some r ∧ Same sf (stD all.toList xs (fun _ => true) 0 s) := by
  obtain ⟨xs, sf, h1, h2, h3, h4⟩ := regC_runs (fun j o s s' h => drawCk_same j o s s' h) all.toList 0 s hk
  refine ⟨xs, sf, ⟨h1, fun k o hk => by simpa using h4 k o hk, fun j o hj e he hb => ?_, fun i j p o hi hj hlt => ?_⟩, h2, h3⟩
  · have := zipIdx_all hok j o hj
    simp only [Bool.and_eq_true] at this
    have := Array.all_eq_true_iff_forall_mem.1 this.1.2 e (by simpa using he)
    simp only [hb, Bool.not_true, Bool.false_or] at this
    exact Nat.le_of_ble_eq_true this
  · have := zipIdx_all hok j o hj
    simp only [Bool.and_eq_true] at this
    have := zipIdx_all this.1.1 i p hi
    have hb : Nat.blt i j = true := by simp [Nat.blt]; omega
    simp only [hb, Bool.not_true, Bool.false_or, Bool.or_eq_true] at this
    exact this
variable {all : Array Oper} {xs : List (Res U)} {s : St U}
theorem DrawData.tmps (d : DrawData E all xs s) {i j t : Nat} {p o : Oper} (hi : all.toList[i]? = some p) (hj : all.toList[j]? = some o) (hlt : i < j)
    (h : (p.dst = some t ∧ (t ∈ names all o ∨ o.dst = some t)) ∨ (o.dst = some t ∧ t ∈ names all p)) : bit all.toList j i = true := by
  rcases d.pair i j p o hi hj hlt with hb | hb
  · exact hb
  · exfalso
    unfold apartB at hb
    simp only [Bool.and_eq_true] at hb
    rcases h with ⟨h1, h2⟩ | ⟨h1, h2⟩
    · have := hb.1.1
      simp only [h1, Bool.and_eq_true, Bool.not_eq_true', List.contains_eq_mem, decide_eq_false_iff_not, beq_eq_false_iff_ne, ne_eq] at this
      rcases h2 with h2 | h2
      · exact this.1 h2
      · exact this.2 h2
    · have := hb.1.2
      simp only [h1, Bool.not_eq_true', List.contains_eq_mem, decide_eq_false_iff_not] at this
      exact this h2
theorem rel_loads {o : Oper} {ev : Operand → AV U} {id : Nat} (h : id ∈ relO o ev) : (loads o.op = true ∧ ∀ s : St U, s.op = ev → touched o s = some id) ∨ (isNew o.op = true ∧ o.dst = some id) := by
  unfold relO at h
  split at h
  · rename_i t x ho
    simp at h
    exact .inl ⟨by simp [ho, loads], fun s hs => by simp [touched, ho, hs, h]⟩
  · rename_i t x y ho
    simp at h
    exact .inl ⟨by simp [ho, loads], fun s hs => by simp [touched, ho, hs, h]⟩
  · rename_i t x y ho
    simp at h
    exact .inl ⟨by simp [ho, loads], fun s hs => by simp [touched, ho, hs, h]⟩
  · rename_i t ho
    simp at h
    exact .inr ⟨by simp [ho, isNew], h⟩
  · rename_i t x ho
    simp at h
    exact .inr ⟨by simp [ho, isNew], h⟩
  · rename_i t n ps ho
    simp at h
    exact .inr ⟨by simp [ho, isNew], h⟩
  · rename_i t x y ho
    simp at h
    exact .inr ⟨by simp [ho, isNew], h⟩
  · rename_i x ho
    cases hn : isNil (ev x) with
    | false => simp [hn] at h
    | true => simp [hn] at h; exact .inr ⟨by simp [ho, isNew], h⟩
  · rename_i x ho
    cases hn : isNil (ev x) with
    | false => simp [hn] at h
    | true => simp [hn] at h; exact .inr ⟨by simp [ho, isNew], h⟩
  · rename_i c ho
    split at h
    · rename_i z hz
      simp only [List.mem_append, Option.mem_toList] at h
      rcases h with h | h
      · exact .inl ⟨by simp [ho, loads, hz], fun s hs => by simp [touched, ho, hz, hs, h]⟩
      · exact .inr ⟨by simp [ho, isNew, hz], h⟩
    · simp at h
  · simp at h
theorem owner {E : Env U} {ops : List Oper} {bits : List Nat} {j id i : Nat} {o p : Oper} {s : St U} (hck : drawCk E ops bits j o s = true) (ht : touched o s = some id) (hi : ops[i]? = some p) (hp : p.dst = some id) :
    (bits.getD j 0).testBit i = true := by
  unfold drawCk at hck
  rw [Bool.and_eq_true, Bool.and_eq_true] at hck
  replace hck := hck.1.1
  unfold ownCk at hck
  simp only [ht, ownerOk] at hck
  have := zipIdx_all hck i p hi
  simpa [hp] using this
theorem steady_touched {all : Array Oper} {xs : List (Res U)} {s s1 s2 : St U} {i j : Nat} {p : Oper} (hp : steady all.toList i p = true) (hij : i < j)
    (h1 : Same s1 (stD all.toList xs (fun m => decide (m < i)) 0 s)) (h2 : Same s2 (stD all.toList xs (fun m => decide (m < j)) 0 s)) : touched p s1 = touched p s2 := by
  have key : ∀ n, ((all.toList.drop i).all fun q => !(q.dst == some n)) = true → s1.get n = s2.get n := fun n hn => by
    rw [h1.1 n, h2.1 n]
    refine stD_get n all.toList xs _ _ 0 s s rfl (fun k q hq hd => ?_)
    by_cases hk : k < i
    · simp only [Nat.zero_add, hk, decide_true, show k < j by omega]
    · have hm : q ∈ all.toList.drop i := List.mem_of_getElem? (i := k - i) (by rw [List.getElem?_drop, show i + (k - i) = k by omega]; exact hq)
      have := List.all_eq_true.mp hn q hm
      simp [hd] at this
  unfold steady addrOf at hp
  unfold touched
  cases ho : p.op with
  | load t a => cases a with
    | tmp n => simp only [ho] at hp ⊢; simp only [St.op, key n hp]
    | _ => simp only [ho] at hp; cases hp
  | store t a b => cases a with
    | tmp n => simp only [ho] at hp ⊢; simp only [St.op, key n hp]
    | _ => simp only [ho] at hp; cases hp
  | indexAddr t a b => cases a with
    | tmp n => simp only [ho] at hp ⊢; simp only [St.op, key n hp]
    | _ => simp only [ho] at hp; cases hp
  | call c =>
    simp only [ho] at hp ⊢
    cases hz : seeArg c with
    | none => rfl
    | some z => cases z with
      | tmp n => simp only [hz] at hp ⊢; simp only [St.op, key n hp]
      | _ => simp only [hz] at hp; cases hp
  | _ => rfl
theorem harmless_rel {E : Env U} {o : Oper} {s : St U} (h : harmless E o s = true) (id : Nat) : ¬ (isX E o s.op = true ∨ id ∈ relO o s.op) := by
  unfold harmless at h
  intro hr
  split at h
  · rename_i x ho
    rcases hr with hr | hr
    · simp [isX, ho] at hr
    · unfold relO at hr
      simp only [ho] at hr
      rw [show isNil (s.op x) = false by simpa using h] at hr
      cases hr
  · rename_i x ho
    rcases hr with hr | hr
    · simp [isX, ho] at hr
    · unfold relO at hr
      simp only [ho] at hr
      rw [show isNil (s.op x) = false by simpa using h] at hr
      cases hr
  · simp only [Bool.and_eq_true, Bool.not_eq_true', Bool.or_eq_false_iff] at h
    rcases hr with hr | hr
    · rw [h.2] at hr; cases hr
    · rcases rel_loads hr with ⟨h1, _⟩ | ⟨h1, _⟩
      · rw [h.1.1] at h1; cases h1
      · rw [h.1.2] at h1; cases h1
theorem ops_same {all : Array Oper} {xs : List (Res U)} {s s1 s2 : St U} {i j : Nat} {p : Oper} (hp : steadyOps all.toList i p = true) (hij : i < j)
    (h1 : Same s1 (stD all.toList xs (fun m => decide (m < i)) 0 s)) (h2 : Same s2 (stD all.toList xs (fun m => decide (m < j)) 0 s)) : ∀ x, x ∈ p.op.operands.toList → s1.op x = s2.op x := by
  have key : ∀ n, ((all.toList.drop i).all fun q => !(q.dst == some n)) = true → s1.get n = s2.get n := fun n hn => by
    rw [h1.1 n, h2.1 n]
    refine stD_get n all.toList xs _ _ 0 s s rfl (fun k q hq hd => ?_)
    by_cases hk : k < i
    · simp only [Nat.zero_add, hk, decide_true, show k < j by omega]
    · have hm : q ∈ all.toList.drop i := List.mem_of_getElem? (i := k - i) (by rw [List.getElem?_drop, show i + (k - i) = k by omega]; exact hq)
      have := List.all_eq_true.mp hn q hm
      simp [hd] at this
  intro x hx
  have := List.all_eq_true.mp hp x hx
  cases x with
  | tmp n =>
    show (bif Nat.blt n gb then s1.get n else .undef) = (bif Nat.blt n gb then s2.get n else .undef)
    rw [key n this]
  | _ => rfl
theorem ops_sameT {all : Array Oper} {xs : List (Res U)} {s s1 s2 : St U} {i j : Nat} {p : Oper} (hp : steadyTo all.toList i j p = true) (hij : i < j)
    (h1 : Same s1 (stD all.toList xs (fun m => decide (m < i)) 0 s)) (h2 : Same s2 (stD all.toList xs (fun m => decide (m < j)) 0 s)) : ∀ x, x ∈ p.op.operands.toList → s1.op x = s2.op x := by
  have key : ∀ n, (((all.toList.drop i).take (j - i)).all fun q => !(q.dst == some n)) = true → s1.get n = s2.get n := fun n hn => by
    rw [h1.1 n, h2.1 n]
    refine stD_get n all.toList xs _ _ 0 s s rfl (fun k q hq hd => ?_)
    by_cases hk : k < i
    · simp only [Nat.zero_add, hk, decide_true, show k < j by omega]
    · by_cases hkj : k < j
      · have hm : q ∈ (all.toList.drop i).take (j - i) := List.mem_of_getElem? (i := k - i) (by rw [List.getElem?_take_of_lt (by omega), List.getElem?_drop, show i + (k - i) = k by omega]; exact hq)
        have := List.all_eq_true.mp hn q hm
        simp [hd] at this
      · simp only [Nat.zero_add, hk, decide_false, hkj]
  intro x hx
  have := List.all_eq_true.mp hp x hx
  cases x with
  | tmp n =>
    show (bif Nat.blt n gb then s1.get n else .undef) = (bif Nat.blt n gb then s2.get n else .undef)
    rw [key n this]
  | _ => rfl
theorem harmless_local {E : Env U} {o : Oper} {s s' : St U} (hev : ∀ x, x ∈ o.op.operands.toList → s.op x = s'.op x) (h : harmless E o s' = true) : harmless E o s = true := by
  unfold harmless at h ⊢
  split at h
  · rename_i x ho
    simp only [ho, Op.operands] at hev ⊢
    rw [hev x (by simp)]
    exact h
  · rename_i x ho
    simp only [ho, Op.operands] at hev ⊢
    rw [hev x (by simp)]
    exact h
  · rename_i op h1 h2
    rw [isX_local hev]; exact h
theorem argsX_local {E : Env U} {o : Oper} {s s' : St U} (hev : ∀ x, x ∈ o.op.operands.toList → s.op x = s'.op x) : argsX E o s = argsX E o s' := by
  cases ho : o.op with
  | call c =>
    simp only [ho, Op.operands, Call.operands] at hev
    have hargs : ∀ x, x ∈ c.args.toList → s.op x = s'.op x := fun x hx => hev x (by simp; exact .inr (by simpa using hx))
    have this3 : argsA E c s.op = argsA E c s'.op := argsFrom_congr E c.argTypes c.args.toList 0 hargs
    simp only [argsX, ho, this3]
    cases hc : c.callee with
    | value g => simp only [hev g (by simp [hc])]
    | _ => rfl
  | _ => simp only [argsX, ho]
theorem callX_of {E : Env U} {o : Oper} {s : St U} {args : List (AV U)} {v : AV U} {u : Eff U} (ha : argsX E o s = some args) (hx : isX E o s.op = true) (h : opA E o s.op (lk s.o) pairK = some (v, u)) :
    ∃ d, callX d (lk s.o) o.dst args pairK = some (v, u) := by
  unfold opA at h
  rw [hx] at h
  have h : opX E o s.op (lk s.o) pairK = some (v, u) := h
  unfold argsX at ha
  unfold opX at h
  split at ha
  · rename_i c ho
    split at ha
    · rename_i g hc
      obtain ⟨hst, ha⟩ := cond_none' ha
      rw [show arOp E o s.op (lk s.o) = false by simp only [arOp, ho, hc]; exact hst, cond_false] at h
      unfold opX0 at h
      split at ha
      · rename_i f caps hf
        split at ha
        · cases ha
        rename_i hsf
        cases ha
        simp only [ho, hc, hf, hsf] at h
        split at h
        · rename_i d hd; exact ⟨d, h⟩
        · cases h
      · cases ha
    · cases ha
  · cases ha
theorem lkU_cons (p : Nat × Obj U) (u : Eff U) (f : Nat → Option (Obj U)) (n : Nat) : lkU (p :: u) f n = lkU u (fun k => if p.1 = k then some p.2 else f k) n := rfl
theorem lkU_append (u w : Eff U) (f : Nat → Option (Obj U)) (n : Nat) : lkU (u ++ w) f n = lkU w (lkU u f) n := by
  induction u generalizing f with
  | nil => rfl
  | cons p u ih => rw [List.cons_append, lkU_cons, ih]; rfl
theorem lkU_dead : ∀ (q : List (Nat × Nat)) (f : Nat → Option (Obj U)) (n : Nat), (∃ p ∈ q, p.1 = n) → lkU (q.map fun p => (p.1, (.dead : Obj U))) f n = some .dead := by
  intro q
  induction q with
  | nil => intro f n h; obtain ⟨p, hp, _⟩ := h; cases hp
  | cons x q ih =>
    intro f n h
    rw [List.map_cons, lkU_cons]
    by_cases hq : ∃ p ∈ q, p.1 = n
    · exact ih _ n hq
    · rw [lkU_other (by
        intro hm
        rw [List.map_map] at hm
        obtain ⟨p, hp, e⟩ := List.mem_map.1 hm
        exact hq ⟨p, hp, e⟩)]
      obtain ⟨p, hp, e⟩ := h
      rcases List.mem_cons.1 hp with rfl | hp
      · simp [e]
      · exact absurd ⟨p, hp, e⟩ hq
theorem callX_eff {d : FDen U} {ob : Nat → Option (Obj U)} {dst : Option Tmp} {args : List (AV U)} {v : AV U} {u : Eff U} (h : callX d ob dst args pairK = some (v, u)) {id : Nat} (hid : id ∈ u.map (·.1)) (hlt : id < 10000000000000 * (dst.getD 0 + 1)) :
    (∃ p ∈ given ob args 0, p.1 = id) ∧ ((∀ v ∈ args, directId v ≠ some id) → ∀ f, lkU u f id = some .dead) := by
  unfold callX at h
  simp only at h
  obtain ⟨hc, h⟩ := cond_none h
  obtain ⟨x, hx, h⟩ := kont_some h
  obtain ⟨y, hy, h⟩ := Option.bind_eq_some_iff.1 h
  obtain ⟨hex, h⟩ := cond_none h
  simp only [pairK, Option.some.injEq, Prod.mk.injEq] at h
  obtain ⟨_, rfl⟩ := h
  generalize hq : given ob args 0 = q at *
  generalize hm : d.fin y = m at *
  unfold exitOk at hex
  simp only [Bool.and_eq_true] at hex
  obtain ⟨⟨⟨⟨hcv, m1⟩, m2⟩, mO⟩, mB⟩ := hex
  replace m1 := nodupB_spec m1
  have back : ∀ p ∈ m.o, rn (backQ (dst.getD 0) m args d.gh) p.1 < 10000000000000 * (dst.getD 0 + 1) → (∃ z ∈ q, z.1 = rn (backQ (dst.getD 0) m args d.gh) p.1) ∧ ∃ v ∈ args, directId v = some (rn (backQ (dst.getD 0) m args d.gh) p.1) := by
    intro p hp hl
    have hmem : (p.1, match lk (backs m args d.gh) p.1 with | some a => a | none => nid (dst.getD 0) p.1) ∈ backQ (dst.getD 0) m args d.gh := List.mem_map.2 ⟨p, hp, rfl⟩
    have hb := List.all_eq_true.mp mB _ hmem
    have hrn : rn (backQ (dst.getD 0) m args d.gh) p.1 = match lk (backs m args d.gh) p.1 with | some a => a | none => nid (dst.getD 0) p.1 := by
      unfold rn
      rw [lk_of m1 hmem]
      rfl
    rw [hrn] at hl ⊢
    cases hk : lk (backs m args d.gh) p.1 with
    | none =>
      rw [hk] at hl
      simp only [nid] at hl
      omega
    | some a =>
      simp only [hk, Bool.and_eq_true] at hb ⊢
      obtain ⟨y', hy', _⟩ := inQ_spec hb.1.2
      refine ⟨⟨(a, y'), lk_mem hy', rfl⟩, ?_⟩
      obtain ⟨i, ⟨h1, _⟩ | ⟨h1, _⟩⟩ := backs_spec hk
      · exact ⟨_, List.mem_of_getElem? h1, rfl⟩
      · exact ⟨_, List.mem_of_getElem? h1, rfl⟩
  rw [List.map_append, List.mem_append, List.map_map, List.map_map] at hid
  constructor
  · rcases hid with hid | hid
    · obtain ⟨p, hp, e⟩ := List.mem_map.1 hid
      exact ⟨p, hp, e⟩
    · obtain ⟨p, hp, e⟩ := List.mem_map.1 hid
      have e : rn (backQ (dst.getD 0) m args d.gh) p.1 = id := e
      have := (back p hp (by rw [e]; exact hlt)).1
      rw [e] at this
      exact this
  · intro hnd f
    have hnb : id ∉ (m.o.map fun p => (rn (backQ (dst.getD 0) m args d.gh) p.1, renO (backQ (dst.getD 0) m args d.gh) p.2)).map (·.1) := by
      rw [List.map_map]
      intro hh
      obtain ⟨p, hp, e⟩ := List.mem_map.1 hh
      have e : rn (backQ (dst.getD 0) m args d.gh) p.1 = id := e
      obtain ⟨v, hv1, hv2⟩ := (back p hp (by rw [e]; exact hlt)).2
      rw [e] at hv2
      exact hnd v hv1 hv2
    rw [lkU_append, lkU_other hnb]
    rcases hid with hid | hid
    · obtain ⟨p, hp, e⟩ := List.mem_map.1 hid
      exact lkU_dead q f id ⟨p, hp, e⟩
    · rw [List.map_map] at hnb
      exact absurd hid hnb
theorem lookupX_eff {E : Env U} {ob : Nat → Option (Obj U)} {t : TypeId} {x ix : AV U} {ok : Bool} {v : AV U} {u : Eff U} (h : lookupX E ob t x ix ok pairK = some (v, u)) : u = [] := by
  unfold lookupX at h
  split at h
  · split at h
    · split at h
      · split at h
        · obtain ⟨_, h⟩ := cond_none h
          simp [pairK] at h
          exact h.2
        · cases h
      · cases h
    · cases h
  · cases h
theorem callX_gives {d : FDen U} {ob : Nat → Option (Obj U)} {dst : Option Tmp} {args : List (AV U)} {v : AV U} {u : Eff U} (h : callX d ob dst args pairK = some (v, u)) {z : Nat × Nat} (hz : z ∈ given ob args 0) : z.1 ∈ u.map (·.1) := by
  unfold callX at h
  simp only at h
  obtain ⟨hc, h⟩ := cond_none h
  obtain ⟨x, hx, h⟩ := kont_some h
  obtain ⟨y, hy, h⟩ := Option.bind_eq_some_iff.1 h
  obtain ⟨hex, h⟩ := cond_none h
  simp only [pairK, Option.some.injEq, Prod.mk.injEq] at h
  obtain ⟨_, rfl⟩ := h
  rw [List.map_append, List.map_map]
  exact List.mem_append_left _ (List.mem_map.2 ⟨z, hz, rfl⟩)
theorem updateX_eff {E : Env U} {ob : Nat → Option (Obj U)} {t : TypeId} {m k w : AV U} {v : AV U} {u : Eff U} (h : updateX E ob t m k w pairK = some (v, u)) : v = .undef ∧ ∃ id o, m = .mp id ∧ u = [(id, o)] := by
  unfold updateX at h
  repeat' split at h
  all_goals first
    | (cases h; done)
    | (simp only [pairK, Option.some.injEq, Prod.mk.injEq] at h; exact ⟨h.1.symm, _, _, rfl, h.2.symm⟩)
theorem makeMapX_eff {E : Env U} {ob : Nat → Option (Obj U)} {t : TypeId} {d : Option Tmp} {v : AV U} {u : Eff U} (h : makeMapX E ob t d pairK = some (v, u)) : ∃ id o, d = some id ∧ u = [(id, o)] := by
  unfold makeMapX at h
  repeat' split at h
  all_goals first
    | (cases h; done)
    | (simp only [pairK, Option.some.injEq, Prod.mk.injEq] at h; exact ⟨_, _, rfl, h.2.symm⟩)
theorem arLook_eff {E : Env U} {ob : Nat → Option (Obj U)} {t : TypeId} {x ix : AV U} {ok : Bool} {v : AV U} {u : Eff U} (h : arLook E ob t x ix ok pairK = some (v, u)) : u = [] := by
  unfold arLook at h
  split at h
  · split at h
    · split at h
      · obtain ⟨_, h⟩ := cond_none h
        simp [pairK] at h
        exact h.2
      · cases h
    · cases h
  · split at h
    · split at h
      · split at h
        · obtain ⟨_, h⟩ := cond_none h
          simp [pairK] at h
          exact h.2
        · cases h
      · cases h
    · cases h
  · cases h
theorem look_eff {E : Env U} {o : Oper} {ev : Operand → AV U} {ob : Nat → Option (Obj U)} {t : TypeId} {x ix : Operand} {ok : Bool} {v : AV U} {u : Eff U} (ho : o.op = .lookup t x ix ok) (h : opX E o ev ob pairK = some (v, u)) : u = [] := by
  unfold opX at h
  cases hb : arOp E o ev ob with
  | true =>
    rw [hb] at h
    simp only [cond_true, arK, ho] at h
    exact arLook_eff h
  | false =>
    rw [hb] at h
    simp only [cond_false, opX0, ho] at h
    exact lookupX_eff h
theorem mk_eff {E : Env U} {o : Oper} {ev : Operand → AV U} {ob : Nat → Option (Obj U)} {t : TypeId} {v : AV U} {u : Eff U} (ho : o.op = .makeMap t none) (hp : plainMk E t = true) (h : opX E o ev ob pairK = some (v, u)) : ∃ id n, o.dst = some id ∧ u = [(id, n)] := by
  unfold opX at h
  have hb : arOp E o ev ob = false := by
    simp only [arOp, ho]
    unfold plainMk at hp
    simpa using hp
  rw [hb] at h
  simp only [cond_false, opX0, ho] at h
  exact makeMapX_eff h
theorem ins_op {E : Env U} {o : Oper} {ev : Operand → AV U} {ob : Nat → Option (Obj U)} {t : TypeId} {m k v : Operand} {K : AV U → Eff U → Option ρ} (ho : o.op = .insert t m k v) : opX E o ev ob K = opX0 E o ev ob K := by
  unfold opX
  rw [show arOp E o ev ob = false by simp only [arOp, ho]]
  rfl
theorem opA_ids {E : Env U} {o : Oper} {ev : Operand → AV U} {ob : Nat → Option (Obj U)} {v : AV U} {u : Eff U} (h : opA E o ev ob pairK = some (v, u)) :
    ∀ id, id ∈ u.map (·.1) → RelA E o ev ob id := by
  intro id hid
  cases hb : isX E o ev with
  | false => exact .inr ((opA_ids0 h id hid).1.resolve_left (by rw [hb]; simp))
  | true =>
    refine .inl ⟨hb, ?_⟩
    unfold apartX
    cases har : arOp E o ev ob && !(isLook o.op) with
    | true => rfl
    | false =>
    rw [cond_false]
    unfold apart0
    split
    · rename_i c ho
      have har : arOp E o ev ob = false := by simpa [ho, isLook] using har
      split
      · rename_i g hg
        split
        · rename_i f caps hf
          split
          · rfl
          rename_i hsf
          unfold opA at h
          rw [hb] at h
          simp only [cond_true, opX, har, cond_false, opX0, ho, hg, hf, hsf] at h
          cases hd : E.fa f (argsA E c ev ++ caps) with
          | none => simp only [hd] at h; cases h
          | some d =>
            simp only [hd] at h
            cases hz : Nat.blt id (10000000000000 * (o.dst.getD 0 + 1)) with
            | false => rfl
            | true =>
              obtain ⟨⟨p, hp, he⟩, _⟩ := callX_eff h hid (blt_lt hz)
              rw [List.any_eq_true.2 ⟨p, hp, by rw [he]; exact Nat.beq_refl id⟩]
              rfl
        · rfl
      · rfl
    · rename_i t x ix ok ho
      unfold opA at h
      rw [hb] at h
      simp only [cond_true] at h
      rw [look_eff ho h] at hid
      cases hid
    · rename_i t x k w ho
      unfold opA at h
      rw [hb] at h
      simp only [cond_true] at h
      rw [ins_op ho] at h
      simp only [opX0, ho] at h
      cases hz : E.lz with
      | true =>
        rw [hz] at h
        simp only [cond_true, pairK, Option.some.injEq, Prod.mk.injEq] at h
        rw [← h.2] at hid
        cases hid
      | false =>
        rw [hz, cond_false] at h
        obtain ⟨_, id', n, hm, hu⟩ := updateX_eff h
        rw [hm]
        rw [hu] at hid
        simp only [List.map_cons, List.map_nil, List.mem_singleton] at hid
        subst hid
        simp only [Nat.beq_refl, Bool.not_true]
    · rename_i t ho
      unfold opA at h
      rw [hb] at h
      simp only [cond_true] at h
      have har : arOp E o ev ob = false := by simpa [ho, isLook] using har
      obtain ⟨id', n, hm, hu⟩ := mk_eff ho (by unfold plainMk; simpa [arOp, ho] using har) h
      rw [hu] at hid
      simp only [List.map_cons, List.map_nil, List.mem_singleton] at hid
      subst hid
      rw [hm]
      simp only [Nat.beq_refl, Bool.not_true]
    · rfl
theorem indexAddrC_eff {E : Env U} {ob : Nat → Option (Obj U)} {t : TypeId} {x i : AV U} {v : AV U} {u : Eff U} (h : indexAddrC E ob t x i (fun v => pairK v []) = some (v, u)) : u = [] := by
  unfold indexAddrC at h
  repeat' split at h
  all_goals first
    | (cases h; done)
    | (have h1 := (cond_none h).2; have h2 := (cond_none h1).2; simp [pairK] at h2; exact h2.2)
    | (have h1 := (cond_none h).2; simp [pairK] at h1; exact h1.2)
    | (obtain ⟨_, _, _, _, h1⟩ := splitK_some (cond_none h).2; simp [pairK] at h1; exact h1.2)
theorem read_eff {E : Env U} {q : Oper} {s' : St U} {v'' : AV U} {u'' : Eff U} (hq : readB E q = true) (hk : opA E q s'.op (lk s'.o) pairK = some (v'', u'')) : u'' = [] := by
  unfold readB at hq
  split at hq
  · rename_i t x ho
    have hx : isX E q s'.op = false := by simp [isX, ho]
    unfold opA at hk
    rw [hx] at hk
    have hk : opK E q s'.op (lk s'.o) pairK = some (v'', u'') := hk
    simp only [opK, ho] at hk
    obtain ⟨_, hk⟩ := cond_none hk
    obtain ⟨z, _, hk⟩ := kont_some hk
    simp [pairK] at hk
    exact hk.2
  · rename_i t x ix ok ho
    unfold opA at hk
    cases hx : isX E q s'.op with
    | true =>
      rw [hx] at hk
      simp only [cond_true] at hk
      exact look_eff ho hk
    | false =>
      rw [hx] at hk
      have hk : opK E q s'.op (lk s'.o) pairK = some (v'', u'') := hk
      simp only [opK, ho] at hk
      rw [lookK_bind] at hk
      obtain ⟨z, _, hk⟩ := Option.bind_eq_some_iff.1 hk
      simp [pairK] at hk
      exact hk.2
  · rename_i t x i ho
    have hx : isX E q s'.op = false := by simp [isX, ho]
    unfold opA at hk
    rw [hx] at hk
    have hk : opK E q s'.op (lk s'.o) pairK = some (v'', u'') := hk
    simp only [opK, ho] at hk
    exact indexAddrC_eff hk
  · rename_i c ho
    split at hq
    · rename_i g hc
      unfold opA at hk
      cases hx : isX E q s'.op with
      | true =>
        rw [hx] at hk
        simp only [cond_true, opX, show arOp E q s'.op (lk s'.o) = true by simp only [arOp, ho, hc]; exact hq, arK, ho] at hk
        unfold callB at hk
        split at hk
        · split at hk
          · obtain ⟨d, hd, hk⟩ := kont_some hk
            obtain ⟨_, hk⟩ := cond_none hk
            obtain ⟨z, _, hk⟩ := kont_some hk
            obtain ⟨z, _, hk⟩ := Option.bind_eq_some_iff.1 hk
            obtain ⟨_, hk⟩ := cond_none hk
            simp [pairK] at hk
            exact hk.2
          · cases hk
        · cases hk
      | false =>
        rw [hx] at hk
        have hk : opK E q s'.op (lk s'.o) pairK = some (v'', u'') := hk
        simp only [opK, ho, hc] at hk
        split at hk
        · obtain ⟨d, hd, hk⟩ := kont_some hk
          obtain ⟨_, hk⟩ := cond_none hk
          obtain ⟨z, _, hk⟩ := kont_some hk
          obtain ⟨z, _, hk⟩ := Option.bind_eq_some_iff.1 hk
          simp [pairK] at hk
          exact hk.2
        · cases hk
    · rename_i hc
      have hx : isX E q s'.op = false := by simp [isX, ho, hc]
      unfold opA at hk
      rw [hx] at hk
      have hk : opK E q s'.op (lk s'.o) pairK = some (v'', u'') := hk
      simp only [opK, ho, hc] at hk
      unfold lenC at hk
      repeat' split at hk
      all_goals first
        | (cases hk; done)
        | (simp [pairK] at hk; exact hk.2)
    · cases hq
  · cases hq
theorem apart_call {E : Env U} {o : Oper} {ev : Operand → AV U} {ob : Nat → Option (Obj U)} {c : Call} {g : Operand} {f : FuncId} {caps : List (AV U)} {n : Nat} (ho : o.op = .call c) (hg : c.callee = .value g) (hf : ev g = .fn f caps) (hsf : E.sf f = none)
    (hst : (c.argTypes.any fun t => (E.oms t).isSome) = false) : apartX E o ev ob n = (Nat.blt n (10000000000000 * (o.dst.getD 0 + 1)) && !((given ob (argsA E c ev ++ caps) 0).any fun q => Nat.beq q.1 n)) := by
  have h : arOp E o ev ob = false := by
    simp only [arOp, ho, hg]
    exact hst
  unfold apartX
  rw [h, Bool.false_and, cond_false]
  unfold apart0
  simp only [ho, hg, hf, hsf]
theorem given_bare {ob : Nat → Option (Obj U)} : ∀ {args : List (AV U)}, (args.all fun v => match directId v with | some _ => false | none => true) = true → ∀ i, given ob args i = []
  | [], _, _ => rfl
  | v :: r, h, i => by
    simp only [List.all_cons, Bool.and_eq_true] at h
    simp only [given, given_bare h.2 (i + 1), List.append_nil]
    have h1 := h.1
    cases v <;> first | rfl | cases h1
theorem DrawData.objs (d : DrawData E all xs s) {i j id : Nat} {p o : Oper} {x y : Res U} {s1 s2 : St U} (hi : all.toList[i]? = some p) (hj : all.toList[j]? = some o) (hlt : i < j)
    (hf1 : OpFact E (drawCk E all.toList (ahead all.toList)) all i p x s1) (hf2 : OpFact E (drawCk E all.toList (ahead all.toList)) all j o y s2) (hx : x ≠ none) (hy : y ≠ none) (hxi : xs[i]? = some x)
    (hs1 : Same s1 (stD all.toList xs (fun m => decide (m < i)) 0 s)) (hs2 : Same s2 (stD all.toList xs (fun m => decide (m < j)) 0 s))
    (h : (id ∈ idsOf x ∧ RelA E o s2.op (lk s2.o) id) ∨ (id ∈ idsOf y ∧ RelA E p s1.op (lk s1.o) id)) : bit all.toList j i = true := by
  obtain ⟨⟨v, u⟩, rfl⟩ := Option.ne_none_iff_exists'.1 hx
  obtain ⟨⟨v', u'⟩, rfl⟩ := Option.ne_none_iff_exists'.1 hy
  obtain ⟨hg1, hc1, hk1⟩ := hf1
  obtain ⟨hg2, hc2, hk2⟩ := hf2
  have hil : i < all.toList.length := (List.getElem?_eq_some_iff.1 hi).1
  have hno : ∀ q, bit all.toList i j = true → q := fun q hb => absurd (bit_lt d.lt i j hil hb) (by omega)
  have ap : bit all.toList j i = false → apartB all i p o = true → meetB p o = true → touched p s1 = some id → touched o s2 = some id → False := by
    intro hnb hb hm ht1 ht2
    unfold apartB at hb
    simp only [Bool.and_eq_true, Bool.not_eq_true', hm, Bool.not_true, Bool.false_or, Bool.or_eq_true, Bool.false_eq_true, false_or] at hb
    have ht3 := (steady_touched hb.2 hlt hs1 hs2).symm.trans ht1
    unfold drawCk at hc2
    rw [Bool.and_eq_true, Bool.and_eq_true] at hc2
    have h3 := zipIdx_all hc2.1.2 i p hi
    have hbl : Nat.blt i j = true := by simp [Nat.blt]; omega
    unfold bit at hnb
    simp only [hbl, hnb, hm, ht2, ht3, Bool.not_true, Bool.false_or, Bool.not_eq_true'] at h3
    exact absurd (Nat.beq_refl id) (by rw [h3]; simp)
  have plain : isX E p s1.op = false → isX E o s2.op = false → bit all.toList j i = true := by
    intro hxp hxo
    replace h : (id ∈ idsOf (some (v, u)) ∧ id ∈ relO o s2.op) ∨ (id ∈ idsOf (some (v', u')) ∧ id ∈ relO p s1.op) := by
      rcases h with ⟨h1, h2⟩ | ⟨h1, h2⟩
      · exact .inl ⟨h1, h2.resolve_left (fun hh => by rw [hxo] at hh; cases hh.1)⟩
      · exact .inr ⟨h1, h2.resolve_left (fun hh => by rw [hxp] at hh; cases hh.1)⟩
    replace hk1 : opK E p s1.op (lk s1.o) pairK = some (v, u) := by
      unfold opA at hk1
      rw [hxp] at hk1
      exact hk1
    replace hk2 : opK E o s2.op (lk s2.o) pairK = some (v', u') := by
      unfold opA at hk2
      rw [hxo] at hk2
      exact hk2
    rcases h with ⟨h1, h2⟩ | ⟨h1, h2⟩
    · obtain ⟨hr, hs⟩ := opK_ids hk1 id h1
      rcases hs with ⟨hs, ht1⟩ | ⟨hn, hd⟩
      · rcases rel_loads h2 with ⟨hl, ht⟩ | ⟨hn2, hd2⟩
        · rcases d.pair i j p o hi hj hlt with hb | hb
          · exact hb
          · cases hnb : bit all.toList j i with
            | true => rfl
            | false => exact (ap hnb hb (by simp [meetB, hs, hl]) (ht1 s1 rfl) (ht s2 rfl)).elim
        · exact hno _ (owner hc1 (ht1 s1 rfl) hj hd2)
      · rcases rel_loads h2 with ⟨hl, ht⟩ | ⟨hn2, hd2⟩
        · exact owner hc2 (ht s2 rfl) hi hd
        · exact d.tmps hi hj hlt (.inl ⟨hd, .inr hd2⟩)
    · obtain ⟨hr, hs⟩ := opK_ids hk2 id h1
      rcases hs with ⟨hs, ht2⟩ | ⟨hn, hd⟩
      · rcases rel_loads h2 with ⟨hl, ht⟩ | ⟨hn2, hd2⟩
        · rcases d.pair i j p o hi hj hlt with hb | hb
          · exact hb
          · cases hnb : bit all.toList j i with
            | true => rfl
            | false => exact (ap hnb hb (by simp [meetB, hs, hl]) (ht s1 rfl) (ht2 s2 rfl)).elim
        · exact owner hc2 (ht2 s2 rfl) hi hd2
      · rcases rel_loads h2 with ⟨hl, ht⟩ | ⟨hn2, hd2⟩
        · exact hno _ (owner hc1 (ht s1 rfl) hj hd)
        · exact d.tmps hi hj hlt (.inl ⟨hd2, .inr hd⟩)
  refine Classical.byContradiction fun hnb => ?_
  have hnb : bit all.toList j i = false := by simpa using hnb
  have hpk : pairOk E all.toList i j p o s2 = true := by
    unfold drawCk at hc2
    rw [Bool.and_eq_true] at hc2
    have h3 := zipIdx_all hc2.2 i p hi
    have hbl : Nat.blt i j = true := by simp [Nat.blt]; omega
    unfold bit at hnb
    simp only [hbl, hnb, Bool.not_true, Bool.false_or] at h3
    exact h3
  unfold pairOk at hpk
  simp only [Bool.or_eq_true, Bool.and_eq_true, Bool.not_eq_true'] at hpk
  have hln : ∀ {q : Oper} {s' : St U} {v'' : AV U} {u'' : Eff U}, opA E q s'.op (lk s'.o) pairK = some (v'', u'') → (loadId q s').isSome = true → isX E q s'.op = false ∧ u'' = [] := by
    intro q s' v'' u'' hq hl
    unfold loadId at hl
    split at hl
    · rename_i t n ho
      have hx : isX E q s'.op = false := by simp [isX, ho]
      refine ⟨hx, ?_⟩
      unfold opA at hq
      rw [hx] at hq
      have hq : opK E q s'.op (lk s'.o) pairK = some (v'', u'') := hq
      simp only [opK, ho] at hq
      obtain ⟨_, hq⟩ := cond_none hq
      obtain ⟨z, _, hq⟩ := kont_some hq
      simp [pairK] at hq
      exact hq.2
    · cases hl
  have hlr : ∀ {q : Oper} {s' : St U} {k : Nat}, loadId q s' = some k → RelA E q s'.op (lk s'.o) id → id = k := by
    intro q s' k hl hr
    replace hr : isX E q s'.op = true ∨ id ∈ relO q s'.op := hr.imp_left And.left
    unfold loadId at hl
    split at hl
    · rename_i t n ho
      rcases hr with hr | hr
      · simp [isX, ho] at hr
      · simp only [relO, ho, Option.mem_toList] at hr
        rw [hl] at hr
        simpa using hr.symm
    · cases hl
  have deadAt : ∀ {args : List (AV U)}, argsX E p s1 = some args → isX E p s1.op = true → id ∈ u.map (·.1) → id < 10000000000000 * (p.dst.getD 0 + 1) → (args.any fun v => match directId v with | some d => Nat.beq d id | none => false) = false →
      (∀ k (hk : k < all.toList.length), i < k → k < j → stores all.toList[k].op = false ∧ canX all.toList[k].op = false ∧ all.toList[k].dst ≠ some id) → lk s2.o id = some .dead := by
    intro args hax1 hxp h1 q1 q2 hbt
    obtain ⟨d', hcx⟩ := callX_of hax1 hxp hk1
    have hdead := (callX_eff hcx h1 q1).2 (fun v hv hd => by
      have := List.any_eq_false.1 q2 v hv
      rw [hd] at this
      simp at this)
    have hil2 : i < all.size := by simpa using hil
    rw [hs2.2 id]
    have hstep : lk (stD all.toList xs (fun m => decide (m < j)) 0 s).o id = lk (stD all.toList xs (fun m => decide (m < i) || m == i) 0 s).o id := by
      refine stD_lk id all.toList xs _ _ 0 s s rfl (fun k z hz hzi => ?_)
      simp only [Nat.zero_add]
      by_cases hki : k ≤ i
      · have : k < j := by omega
        rcases Nat.lt_or_eq_of_le hki with h5 | h5
        · simp [this, h5]
        · simp [hlt, h5]
      · by_cases hkj : k < j
        · exfalso
          have hkl : k < all.toList.length := by rw [← d.len]; exact (List.getElem?_eq_some_iff.1 hz).1
          have hpk := List.getElem?_eq_getElem hkl
          obtain ⟨z', s3, hz', hs3, hf3⟩ := d.fact k _ hpk
          rw [hz] at hz'
          cases hz'
          have hzn : z ≠ none := by rintro rfl; simp [idsOf] at hzi
          obtain ⟨⟨v3, u3⟩, rfl⟩ := Option.ne_none_iff_exists'.1 hzn
          obtain ⟨b1, b2, b3⟩ := hbt k hkl (by omega) hkj
          obtain ⟨_, hs4⟩ := opA_ids0 hf3.2.2 id hzi
          rcases hs4 with hs4 | ⟨hs4, _⟩ | ⟨_, hs4⟩
          · have := isX_can hs4; rw [b2] at this; cases this
          · rw [b1] at hs4; cases hs4
          · exact b3 hs4
        · have h8 : ¬ k < i := by omega
          have h9 : ¬ k = i := by omega
          simp [hkj, h8, h9]
    rw [hstep]
    have happ := stD_app (l := all.toList) (xs := xs) (s := s) (D := fun m => decide (m < i)) hi hxi (by simp) (fun k p' hk hkj hLk _ => by simpa using hLk) (fun k y' hk hkj hLk _ => by simpa using hLk)
    rw [← happ.2 id, app_lk]
    exact hdead _
  have hnw : ∀ {q : Oper} {k : Nat}, newId q = some k → ∃ t, q.op = .alloc t ∧ q.dst = some k := by
    intro q k hq
    unfold newId at hq
    split at hq
    · rename_i t ho
      exact ⟨t, ho, hq⟩
    · cases hq
  have hne : ∀ {q : Oper} {s' : St U} {v'' : AV U} {u'' : Eff U} {k : Nat}, newId q = some k → opA E q s'.op (lk s'.o) pairK = some (v'', u'') → isX E q s'.op = false ∧ (id ∈ u''.map (·.1) → id = k) ∧ (RelA E q s'.op (lk s'.o) id → id = k) := by
    intro q s' v'' u'' k hq hk
    obtain ⟨t, ho, hd⟩ := hnw hq
    have hx : isX E q s'.op = false := by simp [isX, ho]
    have hr : ∀ n, n ∈ relO q s'.op → n = k := fun n hn => by
      simp only [relO, ho, hd, Option.mem_toList, Option.some.injEq] at hn
      exact hn.symm
    refine ⟨hx, fun hi => hr id ((opA_ids0 hk id hi).1.resolve_left (by rw [hx]; simp)), fun hi => hr id (hi.resolve_left fun hh => by rw [hx] at hh; cases hh.1)⟩
  have hrx : ∀ {q : Oper} {s' : St U} {args : List (AV U)}, argsX E q s' = some args → relO q s'.op = [] ∧ ∀ n, apartX E q s'.op (lk s'.o) n = (Nat.blt n (10000000000000 * (q.dst.getD 0 + 1)) && !((given (lk s'.o) args 0).any fun z => Nat.beq z.1 n)) := by
    intro q s' args ha
    unfold argsX at ha
    split at ha
    · rename_i c ho
      split at ha
      · rename_i g hg
        obtain ⟨hst, ha⟩ := cond_none' ha
        split at ha
        · rename_i f caps hf
          split at ha
          · cases ha
          rename_i hsf
          cases ha
          refine ⟨?_, fun n => apart_call ho hg hf hsf hst⟩
          have : seeArg c = none := by simp [seeArg, appArg, lenArg, hg]
          simp only [relO, ho, this]
        · cases ha
      · cases ha
    · cases ha
  have hrd : ∀ {q : Oper} {s' : St U} {v'' : AV U} {u'' : Eff U}, readB E q = true → opA E q s'.op (lk s'.o) pairK = some (v'', u'') → u'' = [] := fun hq hk => read_eff hq hk
  have hli : ∀ {q : Oper} {s' : St U} {v'' : AV U} {u'' : Eff U}, E.lz = true → isIns q.op = true → opA E q s'.op (lk s'.o) pairK = some (v'', u'') → u'' = [] := by
    intro q s' v'' u'' hz hq hk
    unfold isIns at hq
    split at hq
    · rename_i t m k v ho
      have hx : isX E q s'.op = true := by simp [isX, ho]
      unfold opA at hk
      rw [hx] at hk
      simp only [cond_true] at hk
      rw [ins_op ho] at hk
      simp only [cond_true, opX0, ho, hz, pairK, Option.some.injEq, Prod.mk.injEq] at hk
      exact hk.2.symm
    · cases hq
  rcases hpk with (((((((((((⟨hh, hst⟩ | hh) | ⟨⟨hx1, hst⟩, hx2⟩) | ⟨hlf, hst⟩) | ⟨hll, hst⟩) | hnf) | ⟨hnl, hst⟩) | ⟨hr1, hr2⟩) | ⟨hlk, hst⟩) | hlk) | ⟨hlz, hi1, hi2⟩) | ⟨hnb0, hst⟩) | ⟨ham, hst⟩
  rotate_right
  ·
    have hmk : ∀ {q : Oper} {s' : St U} {v'' : AV U} {u'' : Eff U} {t : TypeId} {d' : Nat}, q.op = .makeMap t none → plainMk E t = true → q.dst = some d' → opA E q s'.op (lk s'.o) pairK = some (v'', u'') → id ∈ u''.map (·.1) → id = d' := fun {q s' v'' u'' t d'} ho hp hd hk hi => by
      unfold opA at hk
      rw [show isX E q s'.op = true by simp [isX, ho]] at hk
      simp only [cond_true] at hk
      obtain ⟨id', n, hm, hu⟩ := mk_eff ho hp hk
      rw [hd] at hm
      cases hm
      rw [hu] at hi
      simpa using hi
    have hrm : ∀ {q : Oper} {s' : St U} {t : TypeId} {d' : Nat}, q.op = .makeMap t none → plainMk E t = true → q.dst = some d' → RelA E q s'.op (lk s'.o) id → id = d' := fun {q s' t d'} ho hp hd hr => by
      have hp : ((E.ars t).isSome || (E.oms t).isSome) = false := by unfold plainMk at hp; simpa using hp
      rcases hr with ⟨_, h2⟩ | h2
      · simp only [apartX, arOp, apart0, hp, Bool.false_and, cond_false, ho, hd, Bool.not_eq_false'] at h2
        exact (Nat.eq_of_beq_eq_true h2).symm
      · simp only [relO, ho] at h2; cases h2
    have hri : ∀ {q : Oper} {s' : St U} {t : TypeId} {x k w : Operand} {m : Nat}, q.op = .insert t x k w → s'.op x = .mp m → RelA E q s'.op (lk s'.o) id → id = m := fun {q s' t x k w m} ho hx hr => by
      rcases hr with ⟨_, h2⟩ | h2
      · simp only [apartX, arOp, apart0, Bool.false_and, cond_false, ho, hx, Bool.not_eq_false'] at h2
        exact (Nat.eq_of_beq_eq_true h2).symm
      · simp only [relO, ho] at h2; cases h2
    unfold apartM at ham
    split at ham
    · rename_i t t' ho ho'
      rw [Bool.and_eq_true, Bool.and_eq_true] at ham
      obtain ⟨⟨hpa, hpb⟩, ham⟩ := ham
      split at ham
      · rename_i d1 d2 hd1 hd2
        rcases h with ⟨h1, h2⟩ | ⟨h1, h2⟩
        · rw [(hmk ho hpa hd1 hk1 h1).symm.trans (hrm ho' hpb hd2 h2), Nat.beq_refl] at ham; cases ham
        · rw [(hrm ho hpa hd1 h2).symm.trans (hmk ho' hpb hd2 hk2 h1), Nat.beq_refl] at ham; cases ham
      · cases ham
    · rename_i t t' x k w ho ho'
      rw [Bool.and_eq_true, Bool.and_eq_true] at ham
      obtain ⟨⟨hz, hp0⟩, ham⟩ := ham
      split at ham
      · rename_i d1 m hd1 hx
        have e2 := hli hz (show isIns o.op = true by rw [ho']; rfl) hk2
        rcases h with ⟨h1, h2⟩ | ⟨h1, h2⟩
        · rw [(hmk ho hp0 hd1 hk1 h1).symm.trans (hri ho' hx h2), Nat.beq_refl] at ham; cases ham
        · rw [e2] at h1; cases h1
      · cases ham
    · rename_i t x k w t' ho ho'
      rw [Bool.and_eq_true, Bool.and_eq_true] at ham
      obtain ⟨⟨hz, hp0⟩, ham⟩ := ham
      split at ham
      · rename_i d1 m hd1 hx
        have e1 := hli hz (show isIns p.op = true by rw [ho]; rfl) hk1
        have hx1 : s1.op x = .mp m := by
          rw [ops_sameT hst hlt hs1 hs2 x (by simp [ho, Op.operands])]
          exact hx
        rcases h with ⟨h1, h2⟩ | ⟨h1, h2⟩
        · rw [e1] at h1; cases h1
        · rw [(hri ho hx1 h2).symm.trans (hmk ho' hp0 hd1 hk2 h1), Nat.beq_refl] at ham; cases ham
      · cases ham
    · cases ham
  rotate_right
  ·
    unfold newBare at hnb0
    split at hnb0
    · rename_i k args hni hax
      simp only [Bool.and_eq_true] at hnb0
      obtain ⟨q1, q2⟩ := hnb0
      have hop := ops_sameT hst hlt hs1 hs2
      have hax1 : argsX E p s1 = some args := by rw [argsX_local hop]; exact hax
      obtain ⟨hxo, hef, hrl⟩ := hne hni hk2
      obtain ⟨hr0, hap⟩ := hrx hax1
      have hgn : given (lk s1.o) args 0 = [] := given_bare q2 0
      by_cases hxp : isX E p s1.op = true
      · rcases h with ⟨h1, h2⟩ | ⟨h1, h2⟩
        · obtain ⟨d', hcx⟩ := callX_of hax1 hxp hk1
          have hik := hrl h2
          subst hik
          obtain ⟨⟨z, hz, _⟩, _⟩ := callX_eff hcx h1 (blt_lt q1)
          rw [hgn] at hz
          cases hz
        · have hik := hef h1
          subst hik
          rcases h2 with ⟨_, h2⟩ | h2
          · rw [hap, q1, hgn] at h2; cases h2
          · rw [hr0] at h2; cases h2
      · exact absurd (plain (by simpa using hxp) hxo) (by rw [hnb]; simp)
    · cases hnb0
  · have hh1 := harmless_local (ops_sameT hst hlt hs1 hs2) hh
    rcases h with ⟨h1, h2⟩ | ⟨h1, h2⟩
    · exact harmless_rel hh1 id (opA_ids0 hk1 id h1).1
    · exact harmless_rel hh1 id (h2.imp_left And.left)
  · rcases h with ⟨h1, h2⟩ | ⟨h1, h2⟩
    · exact harmless_rel hh id (h2.imp_left And.left)
    · exact harmless_rel hh id (opA_ids0 hk2 id h1).1
  · have hx1' : isX E p s1.op = false := by rw [isX_local (ops_sameT hst hlt hs1 hs2)]; exact hx1
    exact absurd (plain hx1' hx2) (by rw [hnb]; simp)
  ·
    unfold loadFirst at hlf
    split at hlf
    · rename_i k args hli hax
      simp only [Bool.and_eq_true, Bool.not_eq_true'] at hlf
      have hop := ops_sameT hst hlt hs1 hs2
      have hli1 : loadId p s1 = some k := by
        unfold loadId at hli ⊢
        split at hli
        · rename_i t n ho
          simp only [ho, Op.operands] at hop ⊢
          rw [hop (.tmp n) (by simp)]
          exact hli
        · cases hli
      obtain ⟨_, hu0⟩ := hln hk1 (by rw [hli1]; rfl)
      rcases h with ⟨h1, h2⟩ | ⟨h1, h2⟩
      · rw [hu0] at h1; cases h1
      · have hik := hlr hli1 h2
        subst hik
        by_cases hxo : isX E o s2.op = true
        · obtain ⟨d', hcx⟩ := callX_of hax hxo hk2
          obtain ⟨⟨z, hz, hze⟩, _⟩ := callX_eff hcx h1 (blt_lt hlf.1)
          have := List.any_eq_false.1 hlf.2 z hz
          rw [hze, Nat.beq_refl] at this
          exact this rfl
        · have hxp : isX E p s1.op = false := (hln hk1 (by rw [hli1]; rfl)).1
          exact absurd (plain hxp (by simpa using hxo)) (by rw [hnb]; simp)
    · cases hlf
  ·
    unfold loadLast at hll
    split at hll
    · rename_i k args hli hax
      simp only [Bool.and_eq_true, Bool.not_eq_true'] at hll
      obtain ⟨⟨⟨q1, q2⟩, q3⟩, q4⟩ := hll
      have hop := ops_sameT hst hlt hs1 hs2
      obtain ⟨hxo, hu0⟩ := hln hk2 (by rw [hli]; rfl)
      rcases h with ⟨h1, h2⟩ | ⟨h1, h2⟩
      · have hik := hlr hli h2
        subst hik
        by_cases hxp : isX E p s1.op = true
        · have hax1 : argsX E p s1 = some args := by rw [argsX_local hop]; exact hax
          have e1 : lk s2.o id = some .dead := deadAt hax1 hxp h1 (blt_lt q1) q2 (fun k hk b1 b2 => by
            have h6 := zipIdx_all q4 k _ (List.getElem?_eq_getElem hk)
            have c1 : Nat.blt i k = true := by simp [Nat.blt]; omega
            have c2 : Nat.blt k j = true := by simp [Nat.blt]; omega
            simp only [c1, c2, Bool.and_self, Bool.not_true, Bool.false_or, Bool.and_eq_true, Bool.not_eq_true'] at h6
            have h7 : (!(all.toList[k].dst == some id)) = true := List.all_eq_true.mp q3 _ (List.getElem_mem hk)
            exact ⟨h6.1, h6.2, fun hd => by rw [hd] at h7; simp at h7⟩)
          unfold loadId at hli
          split at hli
          · rename_i t n ho
            unfold opA at hk2
            rw [hxo] at hk2
            have hk2 : opK E o s2.op (lk s2.o) pairK = some (v', u') := hk2
            simp only [opK, ho] at hk2
            obtain ⟨_, hk2⟩ := cond_none hk2
            obtain ⟨z, hz, _⟩ := kont_some hk2
            revert hz hli
            cases s2.op (.tmp n) with
            | ptr id' off => intro hli hz; cases hli; simp only [loadAt0, e1] at hz; cases hz
            | el id' i' off => intro hli hz; cases hli; simp only [loadAt0, e1] at hz; cases hz
            | pe id' b' sz n' i' off => intro hli hz; cases hli; simp only [loadAt0, e1] at hz; cases hz
            | _ => intro hli; cases hli
          · cases hli
        · exact absurd (plain (by simpa using hxp) hxo) (by rw [hnb]; simp)
      · rw [hu0] at h1; cases h1
    · cases hll
  ·
    unfold newFirst at hnf
    split at hnf
    · rename_i k args hni hax
      simp only [Bool.and_eq_true, Bool.not_eq_true'] at hnf
      obtain ⟨hxp, hef, hrl⟩ := hne hni hk1
      obtain ⟨hr0, hap⟩ := hrx hax
      by_cases hxo : isX E o s2.op = true
      · rcases h with ⟨h1, h2⟩ | ⟨h1, h2⟩
        · have hik := hef h1
          subst hik
          rcases h2 with ⟨_, h2⟩ | h2
          · rw [hap, hnf.1, hnf.2] at h2; cases h2
          · rw [hr0] at h2; cases h2
        · have hik := hrl h2
          subst hik
          obtain ⟨d', hcx⟩ := callX_of hax hxo hk2
          obtain ⟨⟨z, hz, hze⟩, _⟩ := callX_eff hcx h1 (blt_lt hnf.1)
          have := List.any_eq_false.1 hnf.2 z hz
          rw [hze, Nat.beq_refl] at this
          exact this rfl
      · exact absurd (plain hxp (by simpa using hxo)) (by rw [hnb]; simp)
    · cases hnf
  ·
    unfold newLast at hnl
    split at hnl
    · rename_i k args hni hax
      simp only [Bool.and_eq_true, Bool.not_eq_true'] at hnl
      obtain ⟨⟨⟨q1, q2⟩, q3⟩, q4⟩ := hnl
      have hop := ops_sameT hst hlt hs1 hs2
      have hax1 : argsX E p s1 = some args := by rw [argsX_local hop]; exact hax
      obtain ⟨hxo, hef, hrl⟩ := hne hni hk2
      obtain ⟨hr0, hap⟩ := hrx hax1
      by_cases hxp : isX E p s1.op = true
      · have hboth : id = k ∧ id ∈ u.map (·.1) := by
          rcases h with ⟨h1, h2⟩ | ⟨h1, h2⟩
          · exact ⟨hrl h2, h1⟩
          · have hik := hef h1
            refine ⟨hik, ?_⟩
            subst hik
            rcases h2 with ⟨_, h2⟩ | h2
            · rw [hap, q1, Bool.true_and, Bool.not_eq_false'] at h2
              obtain ⟨z, hz, hze⟩ := List.any_eq_true.1 h2
              obtain ⟨d', hcx⟩ := callX_of hax1 hxp hk1
              have := callX_gives hcx hz
              rw [Nat.eq_of_beq_eq_true hze] at this
              exact this
            · rw [hr0] at h2; cases h2
        obtain ⟨hik, h1⟩ := hboth
        subst hik
        have e1 : lk s2.o id = some .dead := deadAt hax1 hxp h1 (blt_lt q1) q2 (fun k hk b1 b2 => by
          have h6 := zipIdx_all q4 k _ (List.getElem?_eq_getElem hk)
          have c1 : Nat.blt i k = true := by simp [Nat.blt]; omega
          have c2 : Nat.blt k j = true := by simp [Nat.blt]; omega
          simp only [c1, c2, Bool.and_self, Bool.not_true, Bool.false_or, Bool.and_eq_true, Bool.not_eq_true'] at h6
          exact ⟨h6.1.2, h6.2, fun hd => by have := h6.1.1; rw [hd] at this; simp at this⟩)
        rw [e1] at q3
        cases q3
      · exact absurd (plain (by simpa using hxp) hxo) (by rw [hnb]; simp)
    · cases hnl
  · have e1 := hrd hr1 hk1
    have e2 := hrd hr2 hk2
    rcases h with ⟨h1, _⟩ | ⟨h1, _⟩
    · rw [e1] at h1; cases h1
    · rw [e2] at h1; cases h1
  ·
    unfold lookNew at hlk
    split at hlk
    · rename_i t x ix ok k ho hni
      split at hlk
      · rename_i m hx
        have e1 := hrd (by unfold readB; rw [ho]) hk1
        obtain ⟨_, hef, _⟩ := hne hni hk2
        rcases h with ⟨h1, _⟩ | ⟨h1, h2⟩
        · rw [e1] at h1; cases h1
        · have hik := hef h1
          subst hik
          have hx1 : s1.op x = .mp m := by
            have := ops_sameT hst hlt hs1 hs2 x (by simp [ho, Op.operands])
            rw [this]; exact hx
          rcases h2 with ⟨_, h2⟩ | h2
          · simp only [apartX, isLook, Bool.not_true, Bool.and_false, cond_false, apart0, ho, hx1] at h2
            rw [h2] at hlk; cases hlk
          · simp only [relO, ho] at h2; cases h2
      · rename_i m j' hx
        have e1 := hrd (by unfold readB; rw [ho]) hk1
        obtain ⟨_, hef, _⟩ := hne hni hk2
        rcases h with ⟨h1, _⟩ | ⟨h1, h2⟩
        · rw [e1] at h1; cases h1
        · have hik := hef h1
          subst hik
          have hx1 : s1.op x = .sm m j' := by
            have := ops_sameT hst hlt hs1 hs2 x (by simp [ho, Op.operands])
            rw [this]; exact hx
          rcases h2 with ⟨_, h2⟩ | h2
          · simp only [apartX, isLook, Bool.not_true, Bool.and_false, cond_false, apart0, ho, hx1] at h2
            rw [h2] at hlk; cases hlk
          · simp only [relO, ho] at h2; cases h2
      · cases hlk
    · cases hlk
  ·
    unfold lookNew at hlk
    split at hlk
    · rename_i t x ix ok k ho hni
      split at hlk
      · rename_i m hx
        have e2 := hrd (by unfold readB; rw [ho]) hk2
        obtain ⟨_, hef, _⟩ := hne hni hk1
        rcases h with ⟨h1, h2⟩ | ⟨h1, _⟩
        · have hik := hef h1
          subst hik
          rcases h2 with ⟨_, h2⟩ | h2
          · simp only [apartX, isLook, Bool.not_true, Bool.and_false, cond_false, apart0, ho, hx] at h2
            rw [h2] at hlk; cases hlk
          · simp only [relO, ho] at h2; cases h2
        · rw [e2] at h1; cases h1
      · rename_i m j' hx
        have e2 := hrd (by unfold readB; rw [ho]) hk2
        obtain ⟨_, hef, _⟩ := hne hni hk1
        rcases h with ⟨h1, h2⟩ | ⟨h1, _⟩
        · have hik := hef h1
          subst hik
          rcases h2 with ⟨_, h2⟩ | h2
          · simp only [apartX, isLook, Bool.not_true, Bool.and_false, cond_false, apart0, ho, hx] at h2
            rw [h2] at hlk; cases hlk
          · simp only [relO, ho] at h2; cases h2
        · rw [e2] at h1; cases h1
      · cases hlk
    · cases hlk
  · have e1 := hli hlz hi1 hk1
    have e2 := hli hlz hi2 hk2
    rcases h with ⟨h1, _⟩ | ⟨h1, _⟩
    · rw [e1] at h1; cases h1
    · rw [e2] at h1; cases h1
theorem ready_mem {all : Array Oper} {L : Array Bool} {i : Nat} : i ∈ Region.ready .any all L ↔ ∃ o, all.toList[i]? = some o ∧ L.getD i true = false ∧ ∀ e ∈ o.after.toList, Region.binds .any e = true → L.getD e.on false = true := by
  unfold Region.ready
  simp only [List.mem_filter, List.mem_range, Bool.and_eq_true, Bool.not_eq_true']
  constructor
  · rintro ⟨hlt, h1, h2⟩
    refine ⟨all[i], by simp [hlt], h1, fun e he hb => ?_⟩
    simp only [Array.getElem?_eq_getElem hlt, Option.map_some, Option.getD_some] at h2
    have := Array.all_eq_true_iff_forall_mem.1 h2 e (by simpa using he)
    simpa [hb] using this
  · rintro ⟨o, ho, h1, h2⟩
    have hlt : i < all.size := by have := (List.getElem?_eq_some_iff.1 ho).1; simpa using this
    have ho' : all[i]? = some o := by simpa using ho
    refine ⟨hlt, h1, ?_⟩
    simp only [ho', Option.map_some, Option.getD_some]
    rw [Array.all_eq_true_iff_forall_mem]
    intro e he
    cases hb : Region.binds .any e with
    | false => simp
    | true => simpa using h2 e (by simpa using he) hb
structure Inv (E : Env U) (nt : Nat) (w0 : Cx) (N0 : Nat → Nat → Prop) (R : Rl) (all : Array Oper) (xs : List (Res U)) (s : St U) (L : Array Bool) (a : Act) (R' : Rl) : Prop where
  size : L.size = all.size
  closed : ∀ (j : Nat) (o : Oper), all.toList[j]? = some o → L.getD j false = true → ∀ e ∈ o.after.toList, Region.binds .any e = true → L.getD e.on false = true
  le : R.le R'
  sr : SR E.D nt w0 N0 R' (stD all.toList xs (fun k => L.getD k false) 0 s) a
theorem draw_any (he : EnvOk E) (hd : DstOk nt all) (d : DrawData E all xs s) {R : Rl} {Q : Exit → Act → World → Prop}
    (hq : ∀ a R', R.le R' → SR E.D nt w0 N0 R' (stD all.toList xs (fun _ => true) 0 s) a → Q .normal a R'.w) :
    ∀ (fuel : Nat) (L : Array Bool) (a : Act) (R' : Rl), ((List.range all.size).filter fun i => !L.getD i true).length ≤ fuel → Inv E nt w0 N0 R all xs s L a R' →
      wpAny E.P .any all Q fuel L a R'.w := by
  have last : ∀ (L : Array Bool) (a : Act) (R' : Rl), Inv E nt w0 N0 R all xs s L a R' → Region.ready .any all L = [] → Q .normal a R'.w := by
    intro L a R' hI hr
    have hall : ∀ k, k < all.size → L.getD k false = true := by
      intro k
      induction k using Nat.strongRecOn with
      | _ k ih =>
        intro hk
        have hk' : all.toList[k]? = some all[k] := by simp [hk]
        have hL : k < L.size := by rw [hI.size]; exact hk
        cases hb : L.getD k false with
        | true => rfl
        | false =>
          have hb' : L.getD k true = false := by
            rw [Array.getD_eq_getD_getElem?, Array.getElem?_eq_getElem hL] at hb ⊢; exact hb
          have : k ∈ Region.ready .any all L := ready_mem.2 ⟨_, hk', hb', fun e he hbd => ih e.on (d.lt k _ hk' e he hbd) (by have := d.lt k _ hk' e he hbd; omega)⟩
          rw [hr] at this
          cases this
    refine hq a R' hI.le (hI.sr.congr (fun n => ?_) (fun n => ?_))
    · exact (stD_same (Same.refl s) (fun k _ hk => by simp at hk; rw [hall k hk])).1 n |>.symm
    · exact (stD_same (Same.refl s) (fun k _ hk => by simp at hk; rw [hall k hk])).2 n |>.symm
  intro fuel
  induction fuel with
  | zero =>
    intro L a R' hc hI
    have hr : Region.ready .any all L = [] := by
      cases hr : Region.ready .any all L with
      | nil => rfl
      | cons i l =>
        obtain ⟨o, ho, h1, _⟩ := ready_mem.1 (show i ∈ Region.ready .any all L by rw [hr]; simp)
        have hlt : i < all.size := by have := (List.getElem?_eq_some_iff.1 ho).1; simpa using this
        have : i ∈ (List.range all.size).filter fun i => !L.getD i true := List.mem_filter.2 ⟨List.mem_range.2 hlt, by rw [h1]; rfl⟩
        have := List.length_pos_of_mem this
        omega
    exact ⟨hr, last L a R' hI hr⟩
  | succ fuel ih =>
    intro L a R' hc hI
    refine ⟨last L a R' hI, fun j hj => ?_⟩
    obtain ⟨o, ho, hL, hedges⟩ := ready_mem.1 hj
    have hjl : j < all.toList.length := (List.getElem?_eq_some_iff.1 ho).1
    have hjs : j < all.size := by simpa using hjl
    have ho' : all[j]? = some o := by simpa using ho
    have hLj : L.getD j false = false := by
      have : j < L.size := by rw [hI.size]; exact hjs
      rw [Array.getD_eq_getD_getElem?, Array.getElem?_eq_getElem this] at hL ⊢; exact hL
    obtain ⟨x, s1, hx, hs1, hf⟩ := d.fact j o ho
    have hDb := bit_closed d.lt (D := fun k => L.getD k false) hI.closed
    have hjb : ∀ k, bit all.toList j k = true → L.getD k false = true := by
      intro k hb
      obtain ⟨e, he', hbd, h⟩ := (bit_spec d.lt ho k).1 hb
      have hl := d.lt j o ho e he' hbd
      rcases h with h | h
      · rw [← h]; exact hedges e he' hbd
      · exact hDb e.on k (by omega) (hedges e he' hbd) h
    have agree : ∀ i, i < all.toList.length → (i < j → bit all.toList j i = true) → (j < i → bit all.toList i j = true) → L.getD i false = decide (i < j) := by
      intro i hil h1 h2
      by_cases hlt : i < j
      · simp only [hlt, decide_true]; exact hjb i (h1 hlt)
      · by_cases heq : i = j
        · subst heq; simp [hLj]
        · have hgt : j < i := by omega
          simp only [hlt, decide_false]
          cases hb : L.getD i false with
          | false => rfl
          | true =>
            have := hDb i j hil hb (h2 hgt)
            simp only [hLj] at this
            cases this
    let sD := stD all.toList xs (fun k => L.getD k false) 0 s
    have hget : ∀ t, t ∈ names all o → sD.get t = s1.get t := by
      intro t ht
      rw [hs1.1 t]
      refine stD_get t all.toList xs _ _ 0 s s rfl (fun i p hi hp => ?_)
      simp only [Nat.zero_add]
      exact agree i (List.getElem?_eq_some_iff.1 hi).1 (fun hlt => d.tmps hi ho hlt (.inl ⟨hp, .inl ht⟩)) (fun hgt => d.tmps ho hi hgt (.inr ⟨hp, ht⟩))
    have hget2 : ∀ t, t ∈ names all o → s1.op (.tmp t) = sD.op (.tmp t) := fun t ht => by
      show (bif Nat.blt t gb then s1.get t else .undef) = (bif Nat.blt t gb then sD.get t else .undef)
      rw [hget t ht]
    have hop : ∀ z, z ∈ o.op.operands.toList → s1.op z = sD.op z := by
      intro z hz
      cases z with
      | tmp t => exact hget2 t (by simp only [names, List.mem_append, List.mem_filterMap]; exact .inl ⟨_, hz, rfl⟩)
      | _ => rfl
    have hguard : ∀ yes, GuardIs all o s1 yes → Region.wanted o (yielded all a.tmps) = yes := by
      intro yes hg
      rcases hg with ⟨hg, rfl⟩ | ⟨jj, g, b, hg, hjj, hb⟩ | ⟨rfl, jj, g, b, ys, hg, hjj, hb⟩
      · simp [Region.wanted, hg]
      · have hmem : g ∈ names all o := by simp [names, hg, hjj]
        rw [hget2 g hmem] at hb
        have := yielded_of hI.sr hjj hb
        simp only [Region.wanted, hg, this]
        cases b <;> cases yes <;> rfl
      · have hmem : g ∈ names all o := by simp [names, hg, hjj]
        rw [hget2 g hmem] at hb
        have := yielded_no hI.sr hjj hb
        simp [Region.wanted, hg, this]
    have hset : ∀ (k : Nat), (L.setIfInBounds j true).getD k false = (L.getD k false || k == j) := by
      intro k
      have hjL : j < L.size := by rw [hI.size]; exact hjs
      rw [Array.getD_eq_getD_getElem?, Array.getElem?_setIfInBounds]
      by_cases hk : j = k
      · subst hk; simp [hjL]
      · have : (k == j) = false := by simp; omega
        rw [if_neg hk, this, Bool.or_false, Array.getD_eq_getD_getElem?]
    have hclosed : ∀ (i : Nat) (p : Oper), all.toList[i]? = some p → (L.setIfInBounds j true).getD i false = true → ∀ e ∈ p.after.toList, Region.binds .any e = true → (L.setIfInBounds j true).getD e.on false = true := by
      intro i p hi hLi e he' hbd
      rw [hset] at hLi ⊢
      rw [Bool.or_eq_true] at hLi ⊢
      rcases hLi with h | h
      · exact .inl (hI.closed i p hi h e he' hbd)
      · have : i = j := by simpa using h
        subst this
        rw [ho] at hi
        cases hi
        exact .inl (hedges e he' hbd)
    have hcount : ((List.range all.size).filter fun i => !(L.setIfInBounds j true).getD i true).length ≤ fuel := by
      have hjL : j < L.size := by rw [hI.size]; exact hjs
      have : ((List.range all.size).filter fun i => !(L.setIfInBounds j true).getD i true).length < ((List.range all.size).filter fun i => !L.getD i true).length := by
        refine filter_lt _ (fun i _ h => ?_) ⟨j, by simp [hjs], by rw [hL]; rfl, ?_⟩
        · rw [Array.getD_eq_getD_getElem?, Array.getElem?_setIfInBounds] at h
          by_cases hk : j = i
          · subst hk; simp [hjL] at h
          · rw [if_neg hk, ← Array.getD_eq_getD_getElem?] at h; exact h
        · rw [Array.getD_eq_getD_getElem?, Array.getElem?_setIfInBounds]; simp [hjL]
      omega
    have hsame : Same (app o x sD) (stD all.toList xs (fun k => (L.setIfInBounds j true).getD k false) 0 s) := by
      have h1 : Same (app o x sD) (stD all.toList xs (fun k => L.getD k false || k == j) 0 s) := by
        refine stD_app ho hx hLj (fun k p hk hkj hLk ⟨t, ht1, ht2⟩ => ?_) (fun k y hk hkj hLk ⟨n, hn1, hn2⟩ => ?_)
        · rcases Nat.lt_or_gt_of_ne hkj with h | h
          · exact h
          · have hb := d.tmps ho hk h (.inl ⟨ht1, .inr ht2⟩)
            have := hDb k j (List.getElem?_eq_some_iff.1 hk).1 hLk hb
            simp only [hLj] at this
            cases this
        · rcases Nat.lt_or_gt_of_ne hkj with h | h
          · exact h
          · have hkl : k < all.toList.length := by rw [← d.len]; exact (List.getElem?_eq_some_iff.1 hk).1
            have hp := List.getElem?_eq_getElem hkl
            obtain ⟨y', s2, hy', hs2, hf'⟩ := d.fact k _ hp
            rw [hk] at hy'
            cases hy'
            have hxn : x ≠ none := by rintro rfl; simp [idsOf] at hn1
            have hyn : y ≠ none := by rintro rfl; simp [idsOf] at hn2
            have hrel : RelA E all.toList[k] s2.op (lk s2.o) n := by
              obtain ⟨⟨v, u⟩, rfl⟩ := Option.ne_none_iff_exists'.1 hyn
              exact opA_ids hf'.2.2 n hn2
            have hb := d.objs ho hp h hf hf' hxn hyn hx hs1 hs2 (.inl ⟨hn1, hrel⟩)
            have := hDb k j hkl hLk hb
            simp only [hLj] at this
            cases this
      exact h1.trans (stD_same (Same.refl s) (fun k _ _ => (hset k).symm))
    have next : ∀ (y : Value) (R'' : Rl), R'.le R'' → SR E.D nt w0 N0 R'' (app o x sD) (a.put o.dst y) → wpAny E.P .any all Q fuel (L.setIfInBounds j true) (a.put o.dst y) R''.w := by
      intro y R'' hle hsr
      exact ih _ _ R'' hcount ⟨by simp [hI.size], hclosed, hI.le.trans hle, hsr.congr (fun n => (hsame.1 n).symm) (fun n => (hsame.2 n).symm)⟩
    unfold wpOp
    simp only [ho']
    cases x with
    | none =>
      have hw := hguard false hf
      rw [if_neg (by simp [hw])]
      exact next undef R' (.refl R') (hI.sr.put (fun d' hd' => hd j o d' ho' hd') (.flat _))
    | some p =>
      obtain ⟨v, u⟩ := p
      have hf0 : OpFact E (drawCk E all.toList (ahead all.toList)) all j o (some (v, u)) s1 := hf
      obtain ⟨hg, hck, hk⟩ := hf
      rw [if_pos (hguard true hg)]
      refine .inl ?_
      have hobj : ∀ id, RelA E o s1.op (lk s1.o) id → lk s1.o id = lk sD.o id := by
        intro id hid
        rw [hs1.2 id]
        refine (stD_lk id all.toList xs _ _ 0 s s rfl (fun i z hi hz => ?_)).symm
        simp only [Nat.zero_add]
        have hil : i < all.toList.length := by rw [← d.len]; exact (List.getElem?_eq_some_iff.1 hi).1
        have hp := List.getElem?_eq_getElem hil
        obtain ⟨z', s2, hz', hs2, hf'⟩ := d.fact i _ hp
        rw [hi] at hz'
        cases hz'
        have hzn : z ≠ none := by rintro rfl; simp [idsOf] at hz
        exact agree i hil (fun hlt => d.objs hp ho hlt hf' hf0 hzn (by simp) hi hs2 hs1 (.inl ⟨hz, hid⟩)) (fun hgt => d.objs ho hp hgt hf0 hf' (by simp) hzn hx hs1 hs2 (.inr ⟨hz, hid⟩))
      have hk' : opA E o sD.op (lk sD.o) pairK = some (v, u) := by
        rw [← opA_local hop hobj]; exact hk
      obtain ⟨v', u', h1, hgood⟩ := opA_told he hI.sr hk'
      simp only [pairK, Option.some.injEq, Prod.mk.injEq] at h1
      obtain ⟨rfl, rfl⟩ := h1
      exact hgood _ Q (fun y R'' hle hv hsr => next y R'' hle (hsr.put (fun d' hd' => hd j o d' ho' hd') hv))
theorem draw_sound (he : EnvOk E) (hmix : E.P.follows .mixedOrders = true) {id : Nat} (hd : DstOk nt all) {K : St U → Option ρ} {r : ρ} {a : Act} {R : Rl} {Q : Exit → Act → World → Prop}
    (h : SR E.D nt w0 N0 R s a) (hok : drawOkB all (ahead all.toList) = true) (hk : regC E (drawCk E all.toList (ahead all.toList)) all 0 all.toList s K = some r)
    (hq : ∀ s' a' R', R.le R' → SR E.D nt w0 N0 R' s' a' → K s' = some r → Q .normal a' R'.w) : (Code.region id all true).wp E.P Q a R.w := by
  obtain ⟨xs, sf, d, hkf, hsf⟩ := drawData hok hk
  refine wp_region_any hmix ?_
  obtain ⟨hle, hsr⟩ := h.drew
  refine draw_any (w0 := w0) (N0 := N0) (R := R) he hd d (fun a' R' hle' hsr' => ?_) all.size _ a { R with w := { R.w with drawn := R.w.drawn + 1 } } ?_ ?_
  · exact hq sf a' R' hle' (hsr'.congr (fun n => hsf.1 n) (fun n => hsf.2 n)) hkf
  · refine Nat.le_trans (List.length_filter_le _ _) (by simp)
  · refine ⟨by simp, fun j o hj hL => ?_, hle, ?_⟩
    · have hlt : j < all.size := by have := (List.getElem?_eq_some_iff.1 hj).1; simpa using this
      simp [Array.getD_eq_getD_getElem?, Array.getElem?_replicate, hlt] at hL
    · rw [stD_none _ _ _ _ _ (fun k _ => by
        simp [Array.getD_eq_getD_getElem?, Array.getElem?_replicate]
        split <;> simp)]
      exact hsr
theorem argsFrom_lazy {E : Env U} {ev : Operand → AV U} {ts : Array TypeId} : ∀ (l : List Operand) (i : Nat), argsFrom E.lazy ev ts l i = argsFrom E ev ts l i
  | [], _ => rfl
  | x :: r, i => by
    simp only [argsFrom]
    rw [argsFrom_lazy r (i + 1)]
    rfl
theorem argsA_lazy {E : Env U} {c : Call} {ev : Operand → AV U} : argsA E.lazy c ev = argsA E c ev := argsFrom_lazy _ _
theorem isX_lazy {E : Env U} {o : Oper} {ev : Operand → AV U} : isX E.lazy o ev = isX E o ev := by
  unfold isX
  simp only [argsA_lazy]
  rfl
theorem apartX_lazy {E : Env U} {o : Oper} {ev : Operand → AV U} {ob : Nat → Option (Obj U)} {id : Nat} : apartX E.lazy o ev ob id = apartX E o ev ob id := by
  unfold apartX apart0
  simp only [argsA_lazy]
  rfl
theorem sfX_lazy {E : Env U} {d : SDen U} {ob : Nat → Option (Obj U)} {args : List (AV U)} {K : AV U → Eff U → Option ρ} : sfX d E.lazy ob args K = sfX d E ob args K := by
  cases d <;> rfl
theorem arK_lazy {E : Env U} {o : Oper} {ev : Operand → AV U} {ob : Nat → Option (Obj U)} {K : AV U → Eff U → Option ρ} : arK E.lazy o ev ob K = arK E o ev ob K := by
  unfold arK
  split
  · rfl
  · rfl
  · rfl
  · unfold callB
    simp only [argsA_lazy]
    have hv : ∀ (ts : Array TypeId) (l : List (AV U)) (i : Nat), viewL E.lazy ob ts l i = viewL E ob ts l i := fun ts l => by
      induction l with
      | nil => intro i; rfl
      | cons v r ih => intro i; simp only [viewL, ih]; rfl
    simp only [hv]
    rfl
  · rfl
theorem opX_lazy {E : Env U} {o : Oper} {ev : Operand → AV U} {ob : Nat → Option (Obj U)} {K : AV U → Eff U → Option ρ} (h : isIns o.op = false) : opX E.lazy o ev ob K = opX E o ev ob K := by
  unfold opX
  rw [show arOp E.lazy o ev ob = arOp E o ev ob from rfl, arK_lazy]
  congr 1
  unfold opX0
  split
  · simp only [argsA_lazy, sfX_lazy]
    rfl
  · rfl
  · rfl
  · rfl
  · rfl
  · rename_i ho
    rw [ho] at h
    cases h
  · rfl
  · rfl
theorem opK_lazy {E : Env U} {o : Oper} {ev : Operand → AV U} {ob : Nat → Option (Obj U)} {K : AV U → Eff U → Option ρ} : opK E.lazy o ev ob K = opK E o ev ob K := by
  unfold opK
  simp only [argsA_lazy]
  rfl
theorem opA_lazy {E : Env U} {o : Oper} {ev : Operand → AV U} {ob : Nat → Option (Obj U)} {K : AV U → Eff U → Option ρ} (h : isIns o.op = false) : opA E.lazy o ev ob K = opA E o ev ob K := by
  unfold opA
  rw [isX_lazy, opX_lazy h, opK_lazy]
end
end Go.Ev
