import Derived.Test.YtbchcjlllddlpaaEvW
universe u
namespace Go.Ev
set_option linter.unusedVariables false
set_option linter.unusedSimpArgs false
open Go.RowKit (Below)
variable {U : Wdr} {ρ : Type}
theorem Qcd {E : Env U} {ops : List Oper} {bits : List Nat} (j : Nat) (o : Oper) (s s' : St U) (h : Same s s') : Wek E ops bits j o s = Wek E ops bits j o s' := by
 have ho : ∀ x, s.op x = s'.op x := fun x => Qfj (fun n => h.1 n) x
 have ht : ∀ p : Oper, touched p s = touched p s' := fun p => by
  unfold touched
  cases p.op <;> simp [ho]
 have hop : s.op = s'.op := funext ho
 have hlk : lk s.o = lk s'.o := funext h.2
 have hp : ∀ (i : Nat) (a : Oper), Wzj E ops i j a o s = Wzj E ops i j a o s' := fun i a => by
  unfold Wzj harmless Wzu Qfs Qfn newLast Wwz newBare Wlv Wie
  simp only [hop, hlk]
 unfold Wek ownCk twoCk xCk
 simp only [ht, hp]
section
variable {E : Env U} {nt : Nat} {w0 : Cx} {N0 : Nat → Nat → Prop}
structure Wjk (E : Env U) (all : Array Oper) (xs : List (Res U)) (s : St U) : Prop where
 len : xs.length = all.toList.length
 fact : ∀ (k : Nat) (o : Oper), all.toList[k]? = some o → ∃ x s1, xs[k]? = some x ∧ Same s1 (stD all.toList xs (fun m => decide (m < k)) 0 s) ∧ Wjq E (Wek E all.toList (ahead all.toList)) all k o x s1
 lt : ∀ (j : Nat) (o : Oper), all.toList[j]? = some o → ∀ e ∈ o.after.toList, Region.binds .any e = true → e.on < j
 pair : ∀ (i j : Nat) (p o : Oper), all.toList[i]? = some p → all.toList[j]? = some o → i < j → bit all.toList j i = true ∨ Qhs all i p o = true
theorem Zdx {α : Type} {l : List α} {f : α × Nat → Bool} (h : l.zipIdx.all f = true) (i : Nat) (x : α) (hx : l[i]? = some x) : f (x, i) = true := by
 have : (l.zipIdx)[i]? = some (x, i) := by simp [List.getElem?_zipIdx, hx]
 exact List.all_eq_true.mp h _ (List.mem_of_getElem? this)
theorem drawData {all : Array Oper} {s : St U} {K : St U → Option ρ} {r : ρ} (hok : Qdl all (ahead all.toList) = true)
  (hk : Wko E (Wek E all.toList (ahead all.toList)) all 0 all.toList s K = some r) :
  ∃ xs sf, Wjk E all xs s ∧ K sf = some r ∧ Same sf (stD all.toList xs (fun _ => true) 0 s) := by
 obtain ⟨xs, sf, h1, h2, h3, h4⟩ := Wzi (fun j o s s' h => Qcd j o s s' h) all.toList 0 s hk
 refine ⟨xs, sf, ⟨h1, fun k o hk => by simpa using h4 k o hk, fun j o hj e he hb => ?_, fun i j p o hi hj hlt => ?_⟩, h2, h3⟩
 ·have := Zdx hok j o hj
  simp only [Bool.and_eq_true] at this
  have := Array.all_eq_true_iff_forall_mem.1 this.1.2 e (by simpa using he)
  simp only [hb, Bool.not_true, Bool.false_or] at this
  exact Nat.le_of_ble_eq_true this
 ·have := Zdx hok j o hj
  simp only [Bool.and_eq_true] at this
  have := Zdx this.1.1 i p hi
  have hb : Nat.blt i j = true := by simp [Nat.blt]; omega
  simp only [hb, Bool.not_true, Bool.false_or, Bool.or_eq_true] at this
  exact this
variable {all : Array Oper} {xs : List (Res U)} {s : St U}
theorem Wjk.tmps (d : Wjk E all xs s) {i j t : Nat} {p o : Oper} (hi : all.toList[i]? = some p) (hj : all.toList[j]? = some o) (hlt : i < j)
  (h : (p.dst = some t ∧ (t ∈ names all o ∨ o.dst = some t)) ∨ (o.dst = some t ∧ t ∈ names all p)) : bit all.toList j i = true := by
 rcases d.pair i j p o hi hj hlt with hb | hb
 ·exact hb
 ·exfalso
  unfold Qhs at hb
  simp only [Bool.and_eq_true] at hb
  rcases h with ⟨h1, h2⟩ | ⟨h1, h2⟩
  ·have := hb.1.1
   simp only [h1, Bool.and_eq_true, Bool.not_eq_true', List.contains_eq_mem, decide_eq_false_iff_not, beq_eq_false_iff_ne, ne_eq] at this
   rcases h2 with h2 | h2
   ·exact this.1 h2
   ·exact this.2 h2
  ·have := hb.1.2
   simp only [h1, Bool.not_eq_true', List.contains_eq_mem, decide_eq_false_iff_not] at this
   exact this h2
theorem Wms {o : Oper} {ev : Operand → AV U} {id : Nat} (h : id ∈ Wdx o ev) : (loads o.op = true ∧ ∀ s : St U, s.op = ev → touched o s = some id) ∨ (Wfl o.op = true ∧ o.dst = some id) := by
 unfold Wdx at h
 split at h
 ·rename_i t x ho
  simp at h
  exact .inl ⟨by simp [ho, loads], fun s hs => by simp [touched, ho, hs, h]⟩
 ·rename_i t x y ho
  simp at h
  exact .inl ⟨by simp [ho, loads], fun s hs => by simp [touched, ho, hs, h]⟩
 ·rename_i t x y ho
  simp at h
  exact .inl ⟨by simp [ho, loads], fun s hs => by simp [touched, ho, hs, h]⟩
 ·rename_i t ho
  simp at h
  exact .inr ⟨by simp [ho, Wfl], h⟩
 ·rename_i t x ho
  simp at h
  exact .inr ⟨by simp [ho, Wfl], h⟩
 ·rename_i t n ps ho
  simp at h
  exact .inr ⟨by simp [ho, Wfl], h⟩
 ·rename_i t x y ho
  simp at h
  exact .inr ⟨by simp [ho, Wfl], h⟩
 ·rename_i x ho
  cases hn : isNil (ev x) with
  | false => simp [hn] at h
  | true => simp [hn] at h; exact .inr ⟨by simp [ho, Wfl], h⟩
 ·rename_i x ho
  cases hn : isNil (ev x) with
  | false => simp [hn] at h
  | true => simp [hn] at h; exact .inr ⟨by simp [ho, Wfl], h⟩
 ·rename_i c ho
  split at h
  ·rename_i z hz
   simp only [List.mem_append, Option.mem_toList] at h
   rcases h with h | h
   ·exact .inl ⟨by simp [ho, loads, hz], fun s hs => by simp [touched, ho, hz, hs, h]⟩
   ·exact .inr ⟨by simp [ho, Wfl, hz], h⟩
  ·simp at h
 ·simp at h
theorem owner {E : Env U} {ops : List Oper} {bits : List Nat} {j id i : Nat} {o p : Oper} {s : St U} (hck : Wek E ops bits j o s = true) (ht : touched o s = some id) (hi : ops[i]? = some p) (hp : p.dst = some id) :
  (bits.getD j 0).testBit i = true := by
 unfold Wek at hck
 rw [Bool.and_eq_true, Bool.and_eq_true] at hck
 replace hck := hck.1.1
 unfold ownCk at hck
 simp only [ht, ownerOk] at hck
 have := Zdx hck i p hi
 simpa [hp] using this
theorem Qeh {all : Array Oper} {xs : List (Res U)} {s s1 s2 : St U} {i j : Nat} {p : Oper} (hp : steady all.toList i p = true) (hij : i < j)
  (h1 : Same s1 (stD all.toList xs (fun m => decide (m < i)) 0 s)) (h2 : Same s2 (stD all.toList xs (fun m => decide (m < j)) 0 s)) : touched p s1 = touched p s2 := by
 have key : ∀ n, ((all.toList.drop i).all fun q => !(q.dst == some n)) = true → s1.get n = s2.get n := fun n hn => by
  rw [h1.1 n, h2.1 n]
  refine Wjy n all.toList xs _ _ 0 s s rfl (fun k q hq hd => ?_)
  by_cases hk : k < i
  ·simp only [Nat.zero_add, hk, decide_true, show k < j by omega]
  ·have hm : q ∈ all.toList.drop i := List.mem_of_getElem? (i := k - i) (by rw [List.getElem?_drop, show i + (k - i) = k by omega]; exact hq)
   have := List.all_eq_true.mp hn q hm
   simp [hd] at this
 unfold steady addrOf at hp
 unfold touched
 cases ho : p.op with
 | load t a => cases a with
  | tmp n => simp only [ho] at hp ⊢; simp only [St.op, key n hp]
  | _ => simp only [ho] at hp; cases hp
 | store t a b => cases a with
  | tmp n => simp only [ho] at hp ⊢; simp only [St.op, key n hp]
  | _ => simp only [ho] at hp; cases hp
 | indexAddr t a b => cases a with
  | tmp n => simp only [ho] at hp ⊢; simp only [St.op, key n hp]
  | _ => simp only [ho] at hp; cases hp
 | call c =>
  simp only [ho] at hp ⊢
  cases hz : Wfn c with
  | none => rfl
  | some z => cases z with
   | tmp n => simp only [hz] at hp ⊢; simp only [St.op, key n hp]
   | _ => simp only [hz] at hp; cases hp
 | _ => rfl
theorem Wkd {E : Env U} {o : Oper} {s : St U} (h : harmless E o s = true) (id : Nat) : ¬ (isX E o s.op = true ∨ id ∈ Wdx o s.op) := by
 unfold harmless at h
 intro hr
 split at h
 ·rename_i x ho
  rcases hr with hr | hr
  ·simp [isX, ho] at hr
  ·unfold Wdx at hr
   simp only [ho] at hr
   rw [show isNil (s.op x) = false by simpa using h] at hr
   cases hr
 ·rename_i x ho
  rcases hr with hr | hr
  ·simp [isX, ho] at hr
  ·unfold Wdx at hr
   simp only [ho] at hr
   rw [show isNil (s.op x) = false by simpa using h] at hr
   cases hr
 ·simp only [Bool.and_eq_true, Bool.not_eq_true', Bool.or_eq_false_iff] at h
  rcases hr with hr | hr
  ·rw [h.2] at hr; cases hr
  ·rcases Wms hr with ⟨h1, _⟩ | ⟨h1, _⟩
   ·rw [h.1.1] at h1; cases h1
   ·rw [h.1.2] at h1; cases h1
theorem ops_same {all : Array Oper} {xs : List (Res U)} {s s1 s2 : St U} {i j : Nat} {p : Oper} (hp : Wij all.toList i p = true) (hij : i < j)
  (h1 : Same s1 (stD all.toList xs (fun m => decide (m < i)) 0 s)) (h2 : Same s2 (stD all.toList xs (fun m => decide (m < j)) 0 s)) : ∀ x, x ∈ p.op.operands.toList → s1.op x = s2.op x := by
 have key : ∀ n, ((all.toList.drop i).all fun q => !(q.dst == some n)) = true → s1.get n = s2.get n := fun n hn => by
  rw [h1.1 n, h2.1 n]
  refine Wjy n all.toList xs _ _ 0 s s rfl (fun k q hq hd => ?_)
  by_cases hk : k < i
  ·simp only [Nat.zero_add, hk, decide_true, show k < j by omega]
  ·have hm : q ∈ all.toList.drop i := List.mem_of_getElem? (i := k - i) (by rw [List.getElem?_drop, show i + (k - i) = k by omega]; exact hq)
   have := List.all_eq_true.mp hn q hm
   simp [hd] at this
 intro x hx
 have := List.all_eq_true.mp hp x hx
 cases x with
 | tmp n =>
  show (bif Nat.blt n gb then s1.get n else .undef) = (bif Nat.blt n gb then s2.get n else .undef)
  rw [key n this]
 | _ => rfl
theorem Win {all : Array Oper} {xs : List (Res U)} {s s1 s2 : St U} {i j : Nat} {p : Oper} (hp : Wji all.toList i j p = true) (hij : i < j)
  (h1 : Same s1 (stD all.toList xs (fun m => decide (m < i)) 0 s)) (h2 : Same s2 (stD all.toList xs (fun m => decide (m < j)) 0 s)) : ∀ x, x ∈ p.op.operands.toList → s1.op x = s2.op x := by
 have key : ∀ n, (((all.toList.drop i).take (j - i)).all fun q => !(q.dst == some n)) = true → s1.get n = s2.get n := fun n hn => by
  rw [h1.1 n, h2.1 n]
  refine Wjy n all.toList xs _ _ 0 s s rfl (fun k q hq hd => ?_)
  by_cases hk : k < i
  ·simp only [Nat.zero_add, hk, decide_true, show k < j by omega]
  ·by_cases hkj : k < j
   ·have hm : q ∈ (all.toList.drop i).take (j - i) := List.mem_of_getElem? (i := k - i) (by rw [List.getElem?_take_of_lt (by omega), List.getElem?_drop, show i + (k - i) = k by omega]; exact hq)
    have := List.all_eq_true.mp hn q hm
    simp [hd] at this
   ·simp only [Nat.zero_add, hk, decide_false, hkj]
 intro x hx
 have := List.all_eq_true.mp hp x hx
 cases x with
 | tmp n =>
  show (bif Nat.blt n gb then s1.get n else .undef) = (bif Nat.blt n gb then s2.get n else .undef)
  rw [key n this]
 | _ => rfl
theorem Qgu {E : Env U} {o : Oper} {s s' : St U} (hev : ∀ x, x ∈ o.op.operands.toList → s.op x = s'.op x) (h : harmless E o s' = true) : harmless E o s = true := by
 unfold harmless at h ⊢
 split at h
 ·rename_i x ho
  simp only [ho, Op.operands] at hev ⊢
  rw [hev x (by simp)]
  exact h
 ·rename_i x ho
  simp only [ho, Op.operands] at hev ⊢
  rw [hev x (by simp)]
  exact h
 ·rename_i op h1 h2
  rw [Qah hev]; exact h
theorem Wqz {E : Env U} {o : Oper} {s s' : St U} (hev : ∀ x, x ∈ o.op.operands.toList → s.op x = s'.op x) : Wie E o s = Wie E o s' := by
 cases ho : o.op with
 | call c =>
  simp only [ho, Op.operands, Call.operands] at hev
  have hargs : ∀ x, x ∈ c.args.toList → s.op x = s'.op x := fun x hx => hev x (by simp; exact .inr (by simpa using hx))
  have Qed : Wdg E c s.op = Wdg E c s'.op := Zfd E c.argTypes c.args.toList 0 hargs
  simp only [Wie, ho, Qed]
  cases hc : c.callee with
  | value g => simp only [hev g (by simp [hc])]
  | _ => rfl
 | _ => simp only [Wie, ho]
theorem Wqs {E : Env U} {o : Oper} {s : St U} {args : List (AV U)} {v : AV U} {u : Eff U} (ha : Wie E o s = some args) (hx : isX E o s.op = true) (h : opA E o s.op (lk s.o) Wca = some (v, u)) :
  ∃ d, Wlr d (lk s.o) o.dst args Wca = some (v, u) := by
 unfold opA at h
 rw [hx] at h
 have h : opX E o s.op (lk s.o) Wca = some (v, u) := h
 unfold Wie at ha
 unfold opX at h
 split at ha
 ·rename_i c ho
  split at ha
  ·rename_i g hc
   split at ha
   ·rename_i f caps hf
    split at ha
    ·cases ha
    rename_i hsf
    cases ha
    simp only [ho, hc, hf, hsf] at h
    split at h
    ·rename_i d hd; exact ⟨d, h⟩
    ·cases h
   ·cases ha
  ·cases ha
 ·cases ha
theorem Wqh (p : Nat × Obj U) (u : Eff U) (f : Nat → Option (Obj U)) (n : Nat) : lkU (p :: u) f n = lkU u (fun k => if p.1 = k then some p.2 else f k) n := rfl
theorem Qtc (u w : Eff U) (f : Nat → Option (Obj U)) (n : Nat) : lkU (u ++ w) f n = lkU w (lkU u f) n := by
 induction u generalizing f with
 | nil => rfl
 | cons p u ih => rw [List.cons_append, Wqh, ih]; rfl
theorem lkU_dead : ∀ (q : List (Nat × Nat)) (f : Nat → Option (Obj U)) (n : Nat), (∃ p ∈ q, p.1 = n) → lkU (q.map fun p => (p.1, (.dead : Obj U))) f n = some .dead := by
 intro q
 induction q with
 | nil => intro f n h; obtain ⟨p, hp, _⟩ := h; cases hp
 | cons x q ih =>
  intro f n h
  rw [List.map_cons, Wqh]
  by_cases hq : ∃ p ∈ q, p.1 = n
  ·exact ih _ n hq
  ·rw [Wmz (by
    intro hm
    rw [List.map_map] at hm
    obtain ⟨p, hp, e⟩ := List.mem_map.1 hm
    exact hq ⟨p, hp, e⟩)]
   obtain ⟨p, hp, e⟩ := h
   rcases List.mem_cons.1 hp with rfl | hp
   ·simp [e]
   ·exact absurd ⟨p, hp, e⟩ hq
theorem Wnu {d : Wfe U} {ob : Nat → Option (Obj U)} {dst : Option Tmp} {args : List (AV U)} {v : AV U} {u : Eff U} (h : Wlr d ob dst args Wca = some (v, u)) {id : Nat} (hid : id ∈ u.map (·.1)) (hlt : id < 10000000000000 * (dst.getD 0 + 1)) :
  (∃ p ∈ given ob args 0, p.1 = id) ∧ ((∀ v ∈ args, Wkw v ≠ some id) → ∀ f, lkU u f id = some .dead) := by
 unfold Wlr at h
 simp only at h
 obtain ⟨hc, h⟩ := Zr h
 obtain ⟨x, hx, h⟩ := Zba h
 obtain ⟨y, hy, h⟩ := Option.bind_eq_some_iff.1 h
 obtain ⟨hex, h⟩ := Zr h
 simp only [Wca, Option.some.injEq, Prod.mk.injEq] at h
 obtain ⟨_, rfl⟩ := h
 generalize hq : given ob args 0 = q at *
 generalize hm : d.fin y = m at *
 unfold Wuz at hex
 simp only [Bool.and_eq_true] at hex
 obtain ⟨⟨⟨⟨hcv, m1⟩, m2⟩, mO⟩, mB⟩ := hex
 replace m1 := Wgv m1
 have back : ∀ p ∈ m.o, rn (Wfs (dst.getD 0) m args d.gh) p.1 < 10000000000000 * (dst.getD 0 + 1) → (∃ z ∈ q, z.1 = rn (Wfs (dst.getD 0) m args d.gh) p.1) ∧ ∃ v ∈ args, Wkw v = some (rn (Wfs (dst.getD 0) m args d.gh) p.1) := by
  intro p hp hl
  have hmem : (p.1, match lk (backs m args d.gh) p.1 with | some a => a | none => nid (dst.getD 0) p.1) ∈ Wfs (dst.getD 0) m args d.gh := List.mem_map.2 ⟨p, hp, rfl⟩
  have hb := List.all_eq_true.mp mB _ hmem
  have hrn : rn (Wfs (dst.getD 0) m args d.gh) p.1 = match lk (backs m args d.gh) p.1 with | some a => a | none => nid (dst.getD 0) p.1 := by
   unfold rn
   rw [Wxb m1 hmem]
   rfl
  rw [hrn] at hl ⊢
  cases hk : lk (backs m args d.gh) p.1 with
  | none =>
   rw [hk] at hl
   simp only [nid] at hl
   omega
  | some a =>
   simp only [hk, Bool.and_eq_true] at hb ⊢
   obtain ⟨y', hy', _⟩ := Wni hb.1.2
   refine ⟨⟨(a, y'), Zfa hy', rfl⟩, ?_⟩
   obtain ⟨i, ⟨h1, _⟩ | ⟨h1, _⟩⟩ := Wgp hk
   ·exact ⟨_, List.mem_of_getElem? h1, rfl⟩
   ·exact ⟨_, List.mem_of_getElem? h1, rfl⟩
 rw [List.map_append, List.mem_append, List.map_map, List.map_map] at hid
 constructor
 ·rcases hid with hid | hid
  ·obtain ⟨p, hp, e⟩ := List.mem_map.1 hid
   exact ⟨p, hp, e⟩
  ·obtain ⟨p, hp, e⟩ := List.mem_map.1 hid
   have e : rn (Wfs (dst.getD 0) m args d.gh) p.1 = id := e
   have := (back p hp (by rw [e]; exact hlt)).1
   rw [e] at this
   exact this
 ·intro hnd f
  have hnb : id ∉ (m.o.map fun p => (rn (Wfs (dst.getD 0) m args d.gh) p.1, Wsn (Wfs (dst.getD 0) m args d.gh) p.2)).map (·.1) := by
   rw [List.map_map]
   intro hh
   obtain ⟨p, hp, e⟩ := List.mem_map.1 hh
   have e : rn (Wfs (dst.getD 0) m args d.gh) p.1 = id := e
   obtain ⟨v, hv1, hv2⟩ := (back p hp (by rw [e]; exact hlt)).2
   rw [e] at hv2
   exact hnd v hv1 hv2
  rw [Qtc, Wmz hnb]
  rcases hid with hid | hid
  ·obtain ⟨p, hp, e⟩ := List.mem_map.1 hid
   exact lkU_dead q f id ⟨p, hp, e⟩
  ·rw [List.map_map] at hnb
   exact absurd hid hnb
theorem Qbx {E : Env U} {ob : Nat → Option (Obj U)} {t : TypeId} {x ix : AV U} {ok : Bool} {v : AV U} {u : Eff U} (h : Whg E ob t x ix ok Wca = some (v, u)) : u = [] := by
 unfold Whg at h
 split at h
 ·split at h
  ·split at h
   ·split at h
    ·obtain ⟨_, h⟩ := Zr h
     simp [Wca] at h
     exact h.2
    ·cases h
   ·cases h
  ·cases h
 ·cases h
theorem Qre {d : Wfe U} {ob : Nat → Option (Obj U)} {dst : Option Tmp} {args : List (AV U)} {v : AV U} {u : Eff U} (h : Wlr d ob dst args Wca = some (v, u)) {z : Nat × Nat} (hz : z ∈ given ob args 0) : z.1 ∈ u.map (·.1) := by
 unfold Wlr at h
 simp only at h
 obtain ⟨hc, h⟩ := Zr h
 obtain ⟨x, hx, h⟩ := Zba h
 obtain ⟨y, hy, h⟩ := Option.bind_eq_some_iff.1 h
 obtain ⟨hex, h⟩ := Zr h
 simp only [Wca, Option.some.injEq, Prod.mk.injEq] at h
 obtain ⟨_, rfl⟩ := h
 rw [List.map_append, List.map_map]
 exact List.mem_append_left _ (List.mem_map.2 ⟨z, hz, rfl⟩)
theorem Qde {E : Env U} {o : Oper} {ev : Operand → AV U} {ob : Nat → Option (Obj U)} {v : AV U} {u : Eff U} (h : opA E o ev ob Wca = some (v, u)) :
  ∀ id, id ∈ u.map (·.1) → RelA E o ev ob id := by
 intro id hid
 cases hb : isX E o ev with
 | false => exact .inr ((Wqe h id hid).1.resolve_left (by rw [hb]; simp))
 | true =>
  refine .inl ⟨hb, ?_⟩
  unfold Whw
  split
  ·rename_i c ho
   split
   ·rename_i g hg
    split
    ·rename_i f caps hf
     split
     ·rfl
     rename_i hsf
     unfold opA at h
     rw [hb] at h
     simp only [cond_true, opX, ho, hg, hf, hsf] at h
     cases hd : E.fa f (Wdg E c ev ++ caps) with
     | none => simp only [hd] at h; cases h
     | some d =>
      simp only [hd] at h
      cases hz : Nat.blt id (10000000000000 * (o.dst.getD 0 + 1)) with
      | false => rfl
      | true =>
       obtain ⟨⟨p, hp, he⟩, _⟩ := Wnu h hid (Wjo hz)
       rw [List.any_eq_true.2 ⟨p, hp, by rw [he]; exact Nat.beq_refl id⟩]
       rfl
    ·rfl
   ·rfl
  ·rename_i t x ix ok ho
   unfold opA at h
   rw [hb] at h
   simp only [cond_true, opX, ho] at h
   rw [Qbx h] at hid
   cases hid
  ·rfl
theorem Qgk {E : Env U} {ob : Nat → Option (Obj U)} {t : TypeId} {x i : AV U} {v : AV U} {u : Eff U} (h : Wgn E ob t x i (fun v => Wca v []) = some (v, u)) : u = [] := by
 unfold Wgn at h
 repeat' split at h
 all_goals first
  | (cases h; done)
  | (have h1 := (Zr h).2; have h2 := (Zr h1).2; simp [Wca] at h2; exact h2.2)
  | (have h1 := (Zr h).2; simp [Wca] at h1; exact h1.2)
theorem Qgv {ob : Nat → Option (Obj U)} : ∀ {args : List (AV U)}, (args.all fun v => match Wkw v with | some _ => false | none => true) = true → ∀ i, given ob args i = []
 | [], _, _ => rfl
 | v :: r, h, i => by
  simp only [List.all_cons, Bool.and_eq_true] at h
  simp only [given, Qgv h.2 (i + 1), List.append_nil]
  have h1 := h.1
  cases v <;> first | rfl | cases h1
theorem Wjk.objs (d : Wjk E all xs s) {i j id : Nat} {p o : Oper} {x y : Res U} {s1 s2 : St U} (hi : all.toList[i]? = some p) (hj : all.toList[j]? = some o) (hlt : i < j)
  (hf1 : Wjq E (Wek E all.toList (ahead all.toList)) all i p x s1) (hf2 : Wjq E (Wek E all.toList (ahead all.toList)) all j o y s2) (hx : x ≠ none) (hy : y ≠ none) (hxi : xs[i]? = some x)
  (hs1 : Same s1 (stD all.toList xs (fun m => decide (m < i)) 0 s)) (hs2 : Same s2 (stD all.toList xs (fun m => decide (m < j)) 0 s))
  (h : (id ∈ Wei x ∧ RelA E o s2.op (lk s2.o) id) ∨ (id ∈ Wei y ∧ RelA E p s1.op (lk s1.o) id)) : bit all.toList j i = true := by
 obtain ⟨⟨v, u⟩, rfl⟩ := Option.ne_none_iff_exists'.1 hx
 obtain ⟨⟨v', u'⟩, rfl⟩ := Option.ne_none_iff_exists'.1 hy
 obtain ⟨hg1, hc1, hk1⟩ := hf1
 obtain ⟨hg2, hc2, hk2⟩ := hf2
 have hil : i < all.toList.length := (List.getElem?_eq_some_iff.1 hi).1
 have hno : ∀ q, bit all.toList i j = true → q := fun q hb => absurd (bit_lt d.lt i j hil hb) (by omega)
 have ap : bit all.toList j i = false → Qhs all i p o = true → meetB p o = true → touched p s1 = some id → touched o s2 = some id → False := by
  intro hnb hb hm ht1 ht2
  unfold Qhs at hb
  simp only [Bool.and_eq_true, Bool.not_eq_true', hm, Bool.not_true, Bool.false_or, Bool.or_eq_true, Bool.false_eq_true, false_or] at hb
  have ht3 := (Qeh hb.2 hlt hs1 hs2).symm.trans ht1
  unfold Wek at hc2
  rw [Bool.and_eq_true, Bool.and_eq_true] at hc2
  have h3 := Zdx hc2.1.2 i p hi
  have hbl : Nat.blt i j = true := by simp [Nat.blt]; omega
  unfold bit at hnb
  simp only [hbl, hnb, hm, ht2, ht3, Bool.not_true, Bool.false_or, Bool.not_eq_true'] at h3
  exact absurd (Nat.beq_refl id) (by rw [h3]; simp)
 have plain : isX E p s1.op = false → isX E o s2.op = false → bit all.toList j i = true := by
  intro hxp hxo
  replace h : (id ∈ Wei (some (v, u)) ∧ id ∈ Wdx o s2.op) ∨ (id ∈ Wei (some (v', u')) ∧ id ∈ Wdx p s1.op) := by
   rcases h with ⟨h1, h2⟩ | ⟨h1, h2⟩
   ·exact .inl ⟨h1, h2.resolve_left (fun hh => by rw [hxo] at hh; cases hh.1)⟩
   ·exact .inr ⟨h1, h2.resolve_left (fun hh => by rw [hxp] at hh; cases hh.1)⟩
  replace hk1 : opK E p s1.op (lk s1.o) Wca = some (v, u) := by
   unfold opA at hk1
   rw [hxp] at hk1
   exact hk1
  replace hk2 : opK E o s2.op (lk s2.o) Wca = some (v', u') := by
   unfold opA at hk2
   rw [hxo] at hk2
   exact hk2
  rcases h with ⟨h1, h2⟩ | ⟨h1, h2⟩
  ·obtain ⟨hr, hs⟩ := Qlw hk1 id h1
   rcases hs with ⟨hs, ht1⟩ | ⟨hn, hd⟩
   ·rcases Wms h2 with ⟨hl, ht⟩ | ⟨hn2, hd2⟩
    ·rcases d.pair i j p o hi hj hlt with hb | hb
     ·exact hb
     ·cases hnb : bit all.toList j i with
      | true => rfl
      | false => exact (ap hnb hb (by simp [meetB, hs, hl]) (ht1 s1 rfl) (ht s2 rfl)).elim
    ·exact hno _ (owner hc1 (ht1 s1 rfl) hj hd2)
   ·rcases Wms h2 with ⟨hl, ht⟩ | ⟨hn2, hd2⟩
    ·exact owner hc2 (ht s2 rfl) hi hd
    ·exact d.tmps hi hj hlt (.inl ⟨hd, .inr hd2⟩)
  ·obtain ⟨hr, hs⟩ := Qlw hk2 id h1
   rcases hs with ⟨hs, ht2⟩ | ⟨hn, hd⟩
   ·rcases Wms h2 with ⟨hl, ht⟩ | ⟨hn2, hd2⟩
    ·rcases d.pair i j p o hi hj hlt with hb | hb
     ·exact hb
     ·cases hnb : bit all.toList j i with
      | true => rfl
      | false => exact (ap hnb hb (by simp [meetB, hs, hl]) (ht s1 rfl) (ht2 s2 rfl)).elim
    ·exact owner hc2 (ht2 s2 rfl) hi hd2
   ·rcases Wms h2 with ⟨hl, ht⟩ | ⟨hn2, hd2⟩
    ·exact hno _ (owner hc1 (ht s1 rfl) hj hd)
    ·exact d.tmps hi hj hlt (.inl ⟨hd2, .inr hd⟩)
 refine Classical.byContradiction fun hnb => ?_
 have hnb : bit all.toList j i = false := by simpa using hnb
 have hpk : Wzj E all.toList i j p o s2 = true := by
  unfold Wek at hc2
  rw [Bool.and_eq_true] at hc2
  have h3 := Zdx hc2.2 i p hi
  have hbl : Nat.blt i j = true := by simp [Nat.blt]; omega
  unfold bit at hnb
  simp only [hbl, hnb, Bool.not_true, Bool.false_or] at h3
  exact h3
 unfold Wzj at hpk
 simp only [Bool.or_eq_true, Bool.and_eq_true, Bool.not_eq_true'] at hpk
 have hln : ∀ {q : Oper} {s' : St U} {v'' : AV U} {u'' : Eff U}, opA E q s'.op (lk s'.o) Wca = some (v'', u'') → (Wlv q s').isSome = true → isX E q s'.op = false ∧ u'' = [] := by
  intro q s' v'' u'' hq hl
  unfold Wlv at hl
  split at hl
  ·rename_i t n ho
   have hx : isX E q s'.op = false := by simp [isX, ho]
   refine ⟨hx, ?_⟩
   unfold opA at hq
   rw [hx] at hq
   have hq : opK E q s'.op (lk s'.o) Wca = some (v'', u'') := hq
   simp only [opK, ho] at hq
   obtain ⟨_, hq⟩ := Zr hq
   obtain ⟨z, _, hq⟩ := Zba hq
   simp [Wca] at hq
   exact hq.2
  ·cases hl
 have hlr : ∀ {q : Oper} {s' : St U} {k : Nat}, Wlv q s' = some k → RelA E q s'.op (lk s'.o) id → id = k := by
  intro q s' k hl hr
  replace hr : isX E q s'.op = true ∨ id ∈ Wdx q s'.op := hr.imp_left And.left
  unfold Wlv at hl
  split at hl
  ·rename_i t n ho
   rcases hr with hr | hr
   ·simp [isX, ho] at hr
   ·simp only [Wdx, ho, Option.mem_toList] at hr
    rw [hl] at hr
    simpa using hr.symm
  ·cases hl
 have deadAt : ∀ {args : List (AV U)}, Wie E p s1 = some args → isX E p s1.op = true → id ∈ u.map (·.1) → id < 10000000000000 * (p.dst.getD 0 + 1) → (args.any fun v => match Wkw v with | some d => Nat.beq d id | none => false) = false →
   (∀ k (hk : k < all.toList.length), i < k → k < j → stores all.toList[k].op = false ∧ canX all.toList[k].op = false ∧ all.toList[k].dst ≠ some id) → lk s2.o id = some .dead := by
  intro args hax1 hxp h1 q1 q2 hbt
  obtain ⟨d', hcx⟩ := Wqs hax1 hxp hk1
  have hdead := (Wnu hcx h1 q1).2 (fun v hv hd => by
   have := List.any_eq_false.1 q2 v hv
   rw [hd] at this
   simp at this)
  have hil2 : i < all.size := by simpa using hil
  rw [hs2.2 id]
  have hstep : lk (stD all.toList xs (fun m => decide (m < j)) 0 s).o id = lk (stD all.toList xs (fun m => decide (m < i) || m == i) 0 s).o id := by
   refine Wua id all.toList xs _ _ 0 s s rfl (fun k z hz hzi => ?_)
   simp only [Nat.zero_add]
   by_cases hki : k ≤ i
   ·have : k < j := by omega
    rcases Nat.lt_or_eq_of_le hki with h5 | h5
    ·simp [this, h5]
    ·simp [hlt, h5]
   ·by_cases hkj : k < j
    ·exfalso
     have hkl : k < all.toList.length := by rw [← d.len]; exact (List.getElem?_eq_some_iff.1 hz).1
     have hpk := Z3 hkl
     obtain ⟨z', s3, hz', hs3, hf3⟩ := d.fact k _ hpk
     rw [hz] at hz'
     cases hz'
     have hzn : z ≠ none := by rintro rfl; simp [Wei] at hzi
     obtain ⟨⟨v3, u3⟩, rfl⟩ := Option.ne_none_iff_exists'.1 hzn
     obtain ⟨b1, b2, b3⟩ := hbt k hkl (by omega) hkj
     obtain ⟨_, hs4⟩ := Wqe hf3.2.2 id hzi
     rcases hs4 with hs4 | ⟨hs4, _⟩ | ⟨_, hs4⟩
     ·have := isX_can hs4; rw [b2] at this; cases this
     ·rw [b1] at hs4; cases hs4
     ·exact b3 hs4
    ·have h8 : ¬ k < i := by omega
     have h9 : ¬ k = i := by omega
     simp [hkj, h8, h9]
  rw [hstep]
  have happ := Qli (l := all.toList) (xs := xs) (s := s) (D := fun m => decide (m < i)) hi hxi (by simp) (fun k p' hk hkj hLk _ => by simpa using hLk) (fun k y' hk hkj hLk _ => by simpa using hLk)
  rw [← happ.2 id, Whv]
  exact hdead _
 have hnw : ∀ {q : Oper} {k : Nat}, newId q = some k → ∃ t, q.op = .alloc t ∧ q.dst = some k := by
  intro q k hq
  unfold newId at hq
  split at hq
  ·rename_i t ho
   exact ⟨t, ho, hq⟩
  ·cases hq
 have hne : ∀ {q : Oper} {s' : St U} {v'' : AV U} {u'' : Eff U} {k : Nat}, newId q = some k → opA E q s'.op (lk s'.o) Wca = some (v'', u'') → isX E q s'.op = false ∧ (id ∈ u''.map (·.1) → id = k) ∧ (RelA E q s'.op (lk s'.o) id → id = k) := by
  intro q s' v'' u'' k hq hk
  obtain ⟨t, ho, hd⟩ := hnw hq
  have hx : isX E q s'.op = false := by simp [isX, ho]
  have hr : ∀ n, n ∈ Wdx q s'.op → n = k := fun n hn => by
   simp only [Wdx, ho, hd, Option.mem_toList, Option.some.injEq] at hn
   exact hn.symm
  refine ⟨hx, fun hi => hr id ((Wqe hk id hi).1.resolve_left (by rw [hx]; simp)), fun hi => hr id (hi.resolve_left fun hh => by rw [hx] at hh; cases hh.1)⟩
 have hrx : ∀ {q : Oper} {s' : St U} {args : List (AV U)}, Wie E q s' = some args → Wdx q s'.op = [] ∧ ∀ n, Whw E q s'.op (lk s'.o) n = (Nat.blt n (10000000000000 * (q.dst.getD 0 + 1)) && !((given (lk s'.o) args 0).any fun z => Nat.beq z.1 n)) := by
  intro q s' args ha
  unfold Wie at ha
  split at ha
  ·rename_i c ho
   split at ha
   ·rename_i g hg
    split at ha
    ·rename_i f caps hf
     split at ha
     ·cases ha
     rename_i hsf
     cases ha
     refine ⟨?_, fun n => by simp only [Whw, ho, hg, hf, hsf]⟩
     have : Wfn c = none := by simp [Wfn, appArg, lenArg, hg]
     simp only [Wdx, ho, this]
    ·cases ha
   ·cases ha
  ·cases ha
 have hrd : ∀ {q : Oper} {s' : St U} {v'' : AV U} {u'' : Eff U}, Qiy q = true → opA E q s'.op (lk s'.o) Wca = some (v'', u'') → u'' = [] := by
  intro q s' v'' u'' hq hk
  unfold Qiy at hq
  split at hq
  ·rename_i t x ho
   have hx : isX E q s'.op = false := by simp [isX, ho]
   unfold opA at hk
   rw [hx] at hk
   have hk : opK E q s'.op (lk s'.o) Wca = some (v'', u'') := hk
   simp only [opK, ho] at hk
   obtain ⟨_, hk⟩ := Zr hk
   obtain ⟨z, _, hk⟩ := Zba hk
   simp [Wca] at hk
   exact hk.2
  ·rename_i t x ix ok ho
   have hx : isX E q s'.op = true := by simp [isX, ho]
   unfold opA at hk
   rw [hx] at hk
   simp only [cond_true, opX, ho] at hk
   exact Qbx hk
  ·rename_i t x i ho
   have hx : isX E q s'.op = false := by simp [isX, ho]
   unfold opA at hk
   rw [hx] at hk
   have hk : opK E q s'.op (lk s'.o) Wca = some (v'', u'') := hk
   simp only [opK, ho] at hk
   exact Qgk hk
  ·cases hq
 have hli : ∀ {q : Oper} {s' : St U} {v'' : AV U} {u'' : Eff U}, E.lz = true → Wgw q.op = true → opA E q s'.op (lk s'.o) Wca = some (v'', u'') → u'' = [] := by
  intro q s' v'' u'' hz hq hk
  unfold Wgw at hq
  split at hq
  ·rename_i t m k v ho
   have hx : isX E q s'.op = true := by simp [isX, ho]
   unfold opA at hk
   rw [hx] at hk
   simp only [cond_true, opX, ho, hz] at hk
   rw [Whb] at hk
   obtain ⟨⟨a, b⟩, _, hk⟩ := Option.bind_eq_some_iff.1 hk
   simp only [Wca, Option.some.injEq, Prod.mk.injEq] at hk
   exact hk.2.symm
  ·cases hq
 rcases hpk with ((((((((((⟨hh, hst⟩ | hh) | ⟨⟨hx1, hst⟩, hx2⟩) | ⟨hlf, hst⟩) | ⟨hll, hst⟩) | hnf) | ⟨hnl, hst⟩) | ⟨hr1, hr2⟩) | ⟨hlk, hst⟩) | hlk) | ⟨hlz, hi1, hi2⟩) | ⟨hnb0, hst⟩
 rotate_right
 ·
  unfold newBare at hnb0
  split at hnb0
  ·rename_i k args hni hax
   simp only [Bool.and_eq_true] at hnb0
   obtain ⟨q1, q2⟩ := hnb0
   have hop := Win hst hlt hs1 hs2
   have hax1 : Wie E p s1 = some args := by rw [Wqz hop]; exact hax
   obtain ⟨hxo, hef, hrl⟩ := hne hni hk2
   obtain ⟨hr0, hap⟩ := hrx hax1
   have hgn : given (lk s1.o) args 0 = [] := Qgv q2 0
   by_cases hxp : isX E p s1.op = true
   ·rcases h with ⟨h1, h2⟩ | ⟨h1, h2⟩
    ·obtain ⟨d', hcx⟩ := Wqs hax1 hxp hk1
     have hik := hrl h2
     subst hik
     obtain ⟨⟨z, hz, _⟩, _⟩ := Wnu hcx h1 (Wjo q1)
     rw [hgn] at hz
     cases hz
    ·have hik := hef h1
     subst hik
     rcases h2 with ⟨_, h2⟩ | h2
     ·rw [hap, q1, hgn] at h2; cases h2
     ·rw [hr0] at h2; cases h2
   ·exact absurd (plain (by simpa using hxp) hxo) (by rw [hnb]; simp)
  ·cases hnb0
 ·have hh1 := Qgu (Win hst hlt hs1 hs2) hh
  rcases h with ⟨h1, h2⟩ | ⟨h1, h2⟩
  ·exact Wkd hh1 id (Wqe hk1 id h1).1
  ·exact Wkd hh1 id (h2.imp_left And.left)
 ·rcases h with ⟨h1, h2⟩ | ⟨h1, h2⟩
  ·exact Wkd hh id (h2.imp_left And.left)
  ·exact Wkd hh id (Wqe hk2 id h1).1
 ·have hx1' : isX E p s1.op = false := by rw [Qah (Win hst hlt hs1 hs2)]; exact hx1
  exact absurd (plain hx1' hx2) (by rw [hnb]; simp)
 ·
  unfold Wzu at hlf
  split at hlf
  ·rename_i k args hli hax
   simp only [Bool.and_eq_true, Bool.not_eq_true'] at hlf
   have hop := Win hst hlt hs1 hs2
   have hli1 : Wlv p s1 = some k := by
    unfold Wlv at hli ⊢
    split at hli
    ·rename_i t n ho
     simp only [ho, Op.operands] at hop ⊢
     rw [hop (.tmp n) (by simp)]
     exact hli
    ·cases hli
   obtain ⟨_, hu0⟩ := hln hk1 (by rw [hli1]; rfl)
   rcases h with ⟨h1, h2⟩ | ⟨h1, h2⟩
   ·rw [hu0] at h1; cases h1
   ·have hik := hlr hli1 h2
    subst hik
    by_cases hxo : isX E o s2.op = true
    ·obtain ⟨d', hcx⟩ := Wqs hax hxo hk2
     obtain ⟨⟨z, hz, hze⟩, _⟩ := Wnu hcx h1 (Wjo hlf.1)
     have := List.any_eq_false.1 hlf.2 z hz
     rw [hze, Nat.beq_refl] at this
     exact this rfl
    ·have hxp : isX E p s1.op = false := (hln hk1 (by rw [hli1]; rfl)).1
     exact absurd (plain hxp (by simpa using hxo)) (by rw [hnb]; simp)
  ·cases hlf
 ·
  unfold Qfs at hll
  split at hll
  ·rename_i k args hli hax
   simp only [Bool.and_eq_true, Bool.not_eq_true'] at hll
   obtain ⟨⟨⟨q1, q2⟩, q3⟩, q4⟩ := hll
   have hop := Win hst hlt hs1 hs2
   obtain ⟨hxo, hu0⟩ := hln hk2 (by rw [hli]; rfl)
   rcases h with ⟨h1, h2⟩ | ⟨h1, h2⟩
   ·have hik := hlr hli h2
    subst hik
    by_cases hxp : isX E p s1.op = true
    ·have hax1 : Wie E p s1 = some args := by rw [Wqz hop]; exact hax
     have e1 : lk s2.o id = some .dead := deadAt hax1 hxp h1 (Wjo q1) q2 (fun k hk b1 b2 => by
      have h6 := Zdx q4 k _ (Z3 hk)
      have c1 : Nat.blt i k = true := by simp [Nat.blt]; omega
      have c2 : Nat.blt k j = true := by simp [Nat.blt]; omega
      simp only [c1, c2, Bool.and_self, Bool.not_true, Bool.false_or, Bool.and_eq_true, Bool.not_eq_true'] at h6
      have h7 : (!(all.toList[k].dst == some id)) = true := List.all_eq_true.mp q3 _ (List.getElem_mem hk)
      exact ⟨h6.1, h6.2, fun hd => by rw [hd] at h7; simp at h7⟩)
     unfold Wlv at hli
     split at hli
     ·rename_i t n ho
      unfold opA at hk2
      rw [hxo] at hk2
      have hk2 : opK E o s2.op (lk s2.o) Wca = some (v', u') := hk2
      simp only [opK, ho] at hk2
      obtain ⟨_, hk2⟩ := Zr hk2
      obtain ⟨z, hz, _⟩ := Zba hk2
      revert hz hli
      cases s2.op (.tmp n) with
      | ptr id' off => intro hli hz; cases hli; simp only [Wiz, e1] at hz; cases hz
      | el id' i' off => intro hli hz; cases hli; simp only [Wiz, e1] at hz; cases hz
      | pe id' b' sz n' i' off => intro hli hz; cases hli; simp only [Wiz, e1] at hz; cases hz
      | _ => intro hli; cases hli
     ·cases hli
    ·exact absurd (plain (by simpa using hxp) hxo) (by rw [hnb]; simp)
   ·rw [hu0] at h1; cases h1
  ·cases hll
 ·
  unfold Qfn at hnf
  split at hnf
  ·rename_i k args hni hax
   simp only [Bool.and_eq_true, Bool.not_eq_true'] at hnf
   obtain ⟨hxp, hef, hrl⟩ := hne hni hk1
   obtain ⟨hr0, hap⟩ := hrx hax
   by_cases hxo : isX E o s2.op = true
   ·rcases h with ⟨h1, h2⟩ | ⟨h1, h2⟩
    ·have hik := hef h1
     subst hik
     rcases h2 with ⟨_, h2⟩ | h2
     ·rw [hap, hnf.1, hnf.2] at h2; cases h2
     ·rw [hr0] at h2; cases h2
    ·have hik := hrl h2
     subst hik
     obtain ⟨d', hcx⟩ := Wqs hax hxo hk2
     obtain ⟨⟨z, hz, hze⟩, _⟩ := Wnu hcx h1 (Wjo hnf.1)
     have := List.any_eq_false.1 hnf.2 z hz
     rw [hze, Nat.beq_refl] at this
     exact this rfl
   ·exact absurd (plain hxp (by simpa using hxo)) (by rw [hnb]; simp)
  ·cases hnf
 ·
  unfold newLast at hnl
  split at hnl
  ·rename_i k args hni hax
   simp only [Bool.and_eq_true, Bool.not_eq_true'] at hnl
   obtain ⟨⟨⟨q1, q2⟩, q3⟩, q4⟩ := hnl
   have hop := Win hst hlt hs1 hs2
   have hax1 : Wie E p s1 = some args := by rw [Wqz hop]; exact hax
   obtain ⟨hxo, hef, hrl⟩ := hne hni hk2
   obtain ⟨hr0, hap⟩ := hrx hax1
   by_cases hxp : isX E p s1.op = true
   ·have hboth : id = k ∧ id ∈ u.map (·.1) := by
     rcases h with ⟨h1, h2⟩ | ⟨h1, h2⟩
     ·exact ⟨hrl h2, h1⟩
     ·have hik := hef h1
      refine ⟨hik, ?_⟩
      subst hik
      rcases h2 with ⟨_, h2⟩ | h2
      ·rw [hap, q1, Bool.true_and, Bool.not_eq_false'] at h2
       obtain ⟨z, hz, hze⟩ := List.any_eq_true.1 h2
       obtain ⟨d', hcx⟩ := Wqs hax1 hxp hk1
       have := Qre hcx hz
       rw [Z2 hze] at this
       exact this
      ·rw [hr0] at h2; cases h2
    obtain ⟨hik, h1⟩ := hboth
    subst hik
    have e1 : lk s2.o id = some .dead := deadAt hax1 hxp h1 (Wjo q1) q2 (fun k hk b1 b2 => by
     have h6 := Zdx q4 k _ (Z3 hk)
     have c1 : Nat.blt i k = true := by simp [Nat.blt]; omega
     have c2 : Nat.blt k j = true := by simp [Nat.blt]; omega
     simp only [c1, c2, Bool.and_self, Bool.not_true, Bool.false_or, Bool.and_eq_true, Bool.not_eq_true'] at h6
     exact ⟨h6.1.2, h6.2, fun hd => by have := h6.1.1; rw [hd] at this; simp at this⟩)
    rw [e1] at q3
    cases q3
   ·exact absurd (plain (by simpa using hxp) hxo) (by rw [hnb]; simp)
  ·cases hnl
 ·have e1 := hrd hr1 hk1
  have e2 := hrd hr2 hk2
  rcases h with ⟨h1, _⟩ | ⟨h1, _⟩
  ·rw [e1] at h1; cases h1
  ·rw [e2] at h1; cases h1
 ·
  unfold Wwz at hlk
  split at hlk
  ·rename_i t x ix ok k ho hni
   split at hlk
   ·rename_i m hx
    have e1 := hrd (by unfold Qiy; rw [ho]) hk1
    obtain ⟨_, hef, _⟩ := hne hni hk2
    rcases h with ⟨h1, _⟩ | ⟨h1, h2⟩
    ·rw [e1] at h1; cases h1
    ·have hik := hef h1
     subst hik
     have hx1 : s1.op x = .mp m := by
      have := Win hst hlt hs1 hs2 x (by simp [ho, Op.operands])
      rw [this]; exact hx
     rcases h2 with ⟨_, h2⟩ | h2
     ·simp only [Whw, ho, hx1] at h2
      rw [h2] at hlk; cases hlk
     ·simp only [Wdx, ho] at h2; cases h2
   ·cases hlk
  ·cases hlk
 ·
  unfold Wwz at hlk
  split at hlk
  ·rename_i t x ix ok k ho hni
   split at hlk
   ·rename_i m hx
    have e2 := hrd (by unfold Qiy; rw [ho]) hk2
    obtain ⟨_, hef, _⟩ := hne hni hk1
    rcases h with ⟨h1, h2⟩ | ⟨h1, _⟩
    ·have hik := hef h1
     subst hik
     rcases h2 with ⟨_, h2⟩ | h2
     ·simp only [Whw, ho, hx] at h2
      rw [h2] at hlk; cases hlk
     ·simp only [Wdx, ho] at h2; cases h2
    ·rw [e2] at h1; cases h1
   ·cases hlk
  ·cases hlk
 ·have e1 := hli hlz hi1 hk1
  have e2 := hli hlz hi2 hk2
  rcases h with ⟨h1, _⟩ | ⟨h1, _⟩
  ·rw [e1] at h1; cases h1
  ·rw [e2] at h1; cases h1
theorem Wki {all : Array Oper} {L : Array Bool} {i : Nat} : i ∈ Region.ready .any all L ↔ ∃ o, all.toList[i]? = some o ∧ L.getD i true = false ∧ ∀ e ∈ o.after.toList, Region.binds .any e = true → L.getD e.on false = true := by
 unfold Region.ready
 simp only [List.mem_filter, List.mem_range, Bool.and_eq_true, Bool.not_eq_true']
 constructor
 ·rintro ⟨hlt, h1, h2⟩
  refine ⟨all[i], by simp [hlt], h1, fun e he hb => ?_⟩
  simp only [Array.getElem?_eq_getElem hlt, Option.map_some, Option.getD_some] at h2
  have := Array.all_eq_true_iff_forall_mem.1 h2 e (by simpa using he)
  simpa [hb] using this
 ·rintro ⟨o, ho, h1, h2⟩
  have hlt : i < all.size := by have := (List.getElem?_eq_some_iff.1 ho).1; simpa using this
  have ho' : all[i]? = some o := by simpa using ho
  refine ⟨hlt, h1, ?_⟩
  simp only [ho', Option.map_some, Option.getD_some]
  rw [Array.all_eq_true_iff_forall_mem]
  intro e he
  cases hb : Region.binds .any e with
  | false => simp
  | true => simpa using h2 e (by simpa using he) hb
structure Inv (E : Env U) (nt : Nat) (w0 : Cx) (N0 : Nat → Nat → Prop) (R : Rl) (all : Array Oper) (xs : List (Res U)) (s : St U) (L : Array Bool) (a : Act) (R' : Rl) : Prop where
 size : L.size = all.size
 closed : ∀ (j : Nat) (o : Oper), all.toList[j]? = some o → L.getD j false = true → ∀ e ∈ o.after.toList, Region.binds .any e = true → L.getD e.on false = true
 le : R.le R'
 sr : SR E.D nt w0 N0 R' (stD all.toList xs (fun k => L.getD k false) 0 s) a
theorem draw_any (he : Wbx E) (hd : Qhz nt all) (d : Wjk E all xs s) {R : Rl} {Q : Exit → Act → World → Prop}
  (hq : ∀ a R', R.le R' → SR E.D nt w0 N0 R' (stD all.toList xs (fun _ => true) 0 s) a → Q .normal a R'.w) :
  ∀ (fuel : Nat) (L : Array Bool) (a : Act) (R' : Rl), ((List.range all.size).filter fun i => !L.getD i true).length ≤ fuel → Inv E nt w0 N0 R all xs s L a R' →
   wpAny E.P .any all Q fuel L a R'.w := by
 have last : ∀ (L : Array Bool) (a : Act) (R' : Rl), Inv E nt w0 N0 R all xs s L a R' → Region.ready .any all L = [] → Q .normal a R'.w := by
  intro L a R' hI hr
  have hall : ∀ k, k < all.size → L.getD k false = true := by
   intro k
   induction k using Nat.strongRecOn with
   | _ k ih =>
    intro hk
    have hk' : all.toList[k]? = some all[k] := by simp [hk]
    have hL : k < L.size := by rw [hI.size]; exact hk
    cases hb : L.getD k false with
    | true => rfl
    | false =>
     have hb' : L.getD k true = false := by
      rw [Array.getD_eq_getD_getElem?, Array.getElem?_eq_getElem hL] at hb ⊢; exact hb
     have : k ∈ Region.ready .any all L := Wki.2 ⟨_, hk', hb', fun e he hbd => ih e.on (d.lt k _ hk' e he hbd) (by have := d.lt k _ hk' e he hbd; omega)⟩
     rw [hr] at this
     cases this
  refine hq a R' hI.le (hI.sr.congr (fun n => ?_) (fun n => ?_))
  ·exact (Wjj (Same.refl s) (fun k _ hk => by simp at hk; rw [hall k hk])).1 n |>.symm
  ·exact (Wjj (Same.refl s) (fun k _ hk => by simp at hk; rw [hall k hk])).2 n |>.symm
 intro fuel
 induction fuel with
 | zero =>
  intro L a R' hc hI
  have hr : Region.ready .any all L = [] := by
   cases hr : Region.ready .any all L with
   | nil => rfl
   | cons i l =>
    obtain ⟨o, ho, h1, _⟩ := Wki.1 (show i ∈ Region.ready .any all L by rw [hr]; simp)
    have hlt : i < all.size := by have := (List.getElem?_eq_some_iff.1 ho).1; simpa using this
    have : i ∈ (List.range all.size).filter fun i => !L.getD i true := List.mem_filter.2 ⟨List.mem_range.2 hlt, by rw [h1]; rfl⟩
    have := List.length_pos_of_mem this
    omega
  exact ⟨hr, last L a R' hI hr⟩
 | succ fuel ih =>
  intro L a R' hc hI
  refine ⟨last L a R' hI, fun j hj => ?_⟩
  obtain ⟨o, ho, hL, Wuo⟩ := Wki.1 hj
  have hjl : j < all.toList.length := (List.getElem?_eq_some_iff.1 ho).1
  have hjs : j < all.size := by simpa using hjl
  have ho' : all[j]? = some o := by simpa using ho
  have hLj : L.getD j false = false := by
   have : j < L.size := by rw [hI.size]; exact hjs
   rw [Array.getD_eq_getD_getElem?, Array.getElem?_eq_getElem this] at hL ⊢; exact hL
  obtain ⟨x, s1, hx, hs1, hf⟩ := d.fact j o ho
  have hDb := Qhr d.lt (D := fun k => L.getD k false) hI.closed
  have hjb : ∀ k, bit all.toList j k = true → L.getD k false = true := by
   intro k hb
   obtain ⟨e, he', hbd, h⟩ := (Wyc d.lt ho k).1 hb
   have hl := d.lt j o ho e he' hbd
   rcases h with h | h
   ·rw [← h]; exact Wuo e he' hbd
   ·exact hDb e.on k (by omega) (Wuo e he' hbd) h
  have agree : ∀ i, i < all.toList.length → (i < j → bit all.toList j i = true) → (j < i → bit all.toList i j = true) → L.getD i false = decide (i < j) := by
   intro i hil h1 h2
   by_cases hlt : i < j
   ·simp only [hlt, decide_true]; exact hjb i (h1 hlt)
   ·by_cases heq : i = j
    ·subst heq; simp [hLj]
    ·have hgt : j < i := by omega
     simp only [hlt, decide_false]
     cases hb : L.getD i false with
     | false => rfl
     | true =>
      have := hDb i j hil hb (h2 hgt)
      simp only [hLj] at this
      cases this
  let sD := stD all.toList xs (fun k => L.getD k false) 0 s
  have hget : ∀ t, t ∈ names all o → sD.get t = s1.get t := by
   intro t ht
   rw [hs1.1 t]
   refine Wjy t all.toList xs _ _ 0 s s rfl (fun i p hi hp => ?_)
   simp only [Nat.zero_add]
   exact agree i (List.getElem?_eq_some_iff.1 hi).1 (fun hlt => d.tmps hi ho hlt (.inl ⟨hp, .inl ht⟩)) (fun hgt => d.tmps ho hi hgt (.inr ⟨hp, ht⟩))
  have Qgs : ∀ t, t ∈ names all o → s1.op (.tmp t) = sD.op (.tmp t) := fun t ht => by
   show (bif Nat.blt t gb then s1.get t else .undef) = (bif Nat.blt t gb then sD.get t else .undef)
   rw [hget t ht]
  have hop : ∀ z, z ∈ o.op.operands.toList → s1.op z = sD.op z := by
   intro z hz
   cases z with
   | tmp t => exact Qgs t (by simp only [names, List.mem_append, List.mem_filterMap]; exact .inl ⟨_, hz, rfl⟩)
   | _ => rfl
  have hguard : ∀ yes, Wyk all o s1 yes → Region.wanted o (yielded all a.tmps) = yes := by
   intro yes hg
   rcases hg with ⟨hg, rfl⟩ | ⟨jj, g, b, hg, hjj, hb⟩ | ⟨rfl, jj, g, b, ys, hg, hjj, hb⟩
   ·simp [Region.wanted, hg]
   ·have hmem : g ∈ names all o := by simp [names, hg, hjj]
    rw [Qgs g hmem] at hb
    have := Wti hI.sr hjj hb
    simp only [Region.wanted, hg, this]
    cases b <;> cases yes <;> rfl
   ·have hmem : g ∈ names all o := by simp [names, hg, hjj]
    rw [Qgs g hmem] at hb
    have := Wtl hI.sr hjj hb
    simp [Region.wanted, hg, this]
  have hset : ∀ (k : Nat), (L.setIfInBounds j true).getD k false = (L.getD k false || k == j) := by
   intro k
   have hjL : j < L.size := by rw [hI.size]; exact hjs
   rw [Array.getD_eq_getD_getElem?, Array.getElem?_setIfInBounds]
   by_cases hk : j = k
   ·subst hk; simp [hjL]
   ·have : (k == j) = false := by simp; omega
    rw [if_neg hk, this, Bool.or_false, Array.getD_eq_getD_getElem?]
  have hclosed : ∀ (i : Nat) (p : Oper), all.toList[i]? = some p → (L.setIfInBounds j true).getD i false = true → ∀ e ∈ p.after.toList, Region.binds .any e = true → (L.setIfInBounds j true).getD e.on false = true := by
   intro i p hi hLi e he' hbd
   rw [hset] at hLi ⊢
   rw [Bool.or_eq_true] at hLi ⊢
   rcases hLi with h | h
   ·exact .inl (hI.closed i p hi h e he' hbd)
   ·have : i = j := by simpa using h
    subst this
    rw [ho] at hi
    cases hi
    exact .inl (Wuo e he' hbd)
  have hcount : ((List.range all.size).filter fun i => !(L.setIfInBounds j true).getD i true).length ≤ fuel := by
   have hjL : j < L.size := by rw [hI.size]; exact hjs
   have : ((List.range all.size).filter fun i => !(L.setIfInBounds j true).getD i true).length < ((List.range all.size).filter fun i => !L.getD i true).length := by
    refine filter_lt _ (fun i _ h => ?_) ⟨j, by simp [hjs], by rw [hL]; rfl, ?_⟩
    ·rw [Array.getD_eq_getD_getElem?, Array.getElem?_setIfInBounds] at h
     by_cases hk : j = i
     ·subst hk; simp [hjL] at h
     ·rw [if_neg hk, ← Array.getD_eq_getD_getElem?] at h; exact h
    ·rw [Array.getD_eq_getD_getElem?, Array.getElem?_setIfInBounds]; simp [hjL]
   omega
  have hsame : Same (app o x sD) (stD all.toList xs (fun k => (L.setIfInBounds j true).getD k false) 0 s) := by
   have h1 : Same (app o x sD) (stD all.toList xs (fun k => L.getD k false || k == j) 0 s) := by
    refine Qli ho hx hLj (fun k p hk hkj hLk ⟨t, ht1, ht2⟩ => ?_) (fun k y hk hkj hLk ⟨n, hn1, hn2⟩ => ?_)
    ·rcases Nat.lt_or_gt_of_ne hkj with h | h
     ·exact h
     ·have hb := d.tmps ho hk h (.inl ⟨ht1, .inr ht2⟩)
      have := hDb k j (List.getElem?_eq_some_iff.1 hk).1 hLk hb
      simp only [hLj] at this
      cases this
    ·rcases Nat.lt_or_gt_of_ne hkj with h | h
     ·exact h
     ·have hkl : k < all.toList.length := by rw [← d.len]; exact (List.getElem?_eq_some_iff.1 hk).1
      have hp := Z3 hkl
      obtain ⟨y', s2, hy', hs2, hf'⟩ := d.fact k _ hp
      rw [hk] at hy'
      cases hy'
      have hxn : x ≠ none := by rintro rfl; simp [Wei] at hn1
      have hyn : y ≠ none := by rintro rfl; simp [Wei] at hn2
      have hrel : RelA E all.toList[k] s2.op (lk s2.o) n := by
       obtain ⟨⟨v, u⟩, rfl⟩ := Option.ne_none_iff_exists'.1 hyn
       exact Qde hf'.2.2 n hn2
      have hb := d.objs ho hp h hf hf' hxn hyn hx hs1 hs2 (.inl ⟨hn1, hrel⟩)
      have := hDb k j hkl hLk hb
      simp only [hLj] at this
      cases this
   exact h1.trans (Wjj (Same.refl s) (fun k _ _ => (hset k).symm))
  have next : ∀ (y : Value) (R'' : Rl), R'.le R'' → SR E.D nt w0 N0 R'' (app o x sD) (a.put o.dst y) → wpAny E.P .any all Q fuel (L.setIfInBounds j true) (a.put o.dst y) R''.w := by
   intro y R'' hle hsr
   exact ih _ _ R'' hcount ⟨by simp [hI.size], hclosed, hI.le.trans hle, hsr.congr (fun n => (hsame.1 n).symm) (fun n => (hsame.2 n).symm)⟩
  unfold wpOp
  simp only [ho']
  cases x with
  | none =>
   have hw := hguard false hf
   rw [if_neg (by simp [hw])]
   exact next undef R' (.refl R') (hI.sr.put (fun d' hd' => hd j o d' ho' hd') (.flat _))
  | some p =>
   obtain ⟨v, u⟩ := p
   have hf0 : Wjq E (Wek E all.toList (ahead all.toList)) all j o (some (v, u)) s1 := hf
   obtain ⟨hg, hck, hk⟩ := hf
   rw [if_pos (hguard true hg)]
   refine .inl ?_
   have hobj : ∀ id, RelA E o s1.op (lk s1.o) id → lk s1.o id = lk sD.o id := by
    intro id hid
    rw [hs1.2 id]
    refine (Wua id all.toList xs _ _ 0 s s rfl (fun i z hi hz => ?_)).symm
    simp only [Nat.zero_add]
    have hil : i < all.toList.length := by rw [← d.len]; exact (List.getElem?_eq_some_iff.1 hi).1
    have hp := Z3 hil
    obtain ⟨z', s2, hz', hs2, hf'⟩ := d.fact i _ hp
    rw [hi] at hz'
    cases hz'
    have hzn : z ≠ none := by rintro rfl; simp [Wei] at hz
    exact agree i hil (fun hlt => d.objs hp ho hlt hf' hf0 hzn (by simp) hi hs2 hs1 (.inl ⟨hz, hid⟩)) (fun hgt => d.objs ho hp hgt hf0 hf' (by simp) hzn hx hs1 hs2 (.inr ⟨hz, hid⟩))
   have hk' : opA E o sD.op (lk sD.o) Wca = some (v, u) := by
    rw [← Wzm hop hobj]; exact hk
   obtain ⟨v', u', h1, hgood⟩ := Wwt he hI.sr hk'
   simp only [Wca, Option.some.injEq, Prod.mk.injEq] at h1
   obtain ⟨rfl, rfl⟩ := h1
   exact hgood _ Q (fun y R'' hle hv hsr => next y R'' hle (hsr.put (fun d' hd' => hd j o d' ho' hd') hv))
theorem Qtt (he : Wbx E) (Wlg : E.P.follows .mixedOrders = true) {id : Nat} (hd : Qhz nt all) {K : St U → Option ρ} {r : ρ} {a : Act} {R : Rl} {Q : Exit → Act → World → Prop}
  (h : SR E.D nt w0 N0 R s a) (hok : Qdl all (ahead all.toList) = true) (hk : Wko E (Wek E all.toList (ahead all.toList)) all 0 all.toList s K = some r)
  (hq : ∀ s' a' R', R.le R' → SR E.D nt w0 N0 R' s' a' → K s' = some r → Q .normal a' R'.w) : (Code.region id all true).wp E.P Q a R.w := by
 obtain ⟨xs, sf, d, hkf, hsf⟩ := drawData hok hk
 refine wp_region_any Wlg ?_
 obtain ⟨hle, hsr⟩ := h.drew
 refine draw_any (w0 := w0) (N0 := N0) (R := R) he hd d (fun a' R' hle' hsr' => ?_) all.size _ a { R with w := { R.w with drawn := R.w.drawn + 1 } } ?_ ?_
 ·exact hq sf a' R' hle' (hsr'.congr (fun n => hsf.1 n) (fun n => hsf.2 n)) hkf
 ·refine Nat.le_trans (List.length_filter_le _ _) (by simp)
 ·refine ⟨by simp, fun j o hj hL => ?_, hle, ?_⟩
  ·have hlt : j < all.size := by have := (List.getElem?_eq_some_iff.1 hj).1; simpa using this
   simp [Array.getD_eq_getD_getElem?, Array.getElem?_replicate, hlt] at hL
  ·rw [Wmo _ _ _ _ _ (fun k _ => by
    simp [Array.getD_eq_getD_getElem?, Array.getElem?_replicate]
    split <;> simp)]
   exact hsr
theorem Qkq {α : Type} {ρ : Type} {es : List α} {f : List α → Option ρ} {r : ρ} (h : anyP es f = some r) : ∀ σ : List α, σ.Perm es → f σ = some r := by
 unfold anyP at h
 split at h
 ·rename_i hx
  have := hx.choose_spec
  cases h
  exact this
 ·cases h
theorem anyP_of {α : Type} {ρ : Type} {es : List α} {f : List α → Option ρ} {r : ρ} (h : ∀ σ : List α, σ.Perm es → f σ = some r) : anyP es f = some r := by
 have hx : ∃ r, ∀ σ : List α, σ.Perm es → f σ = some r := ⟨r, h⟩
 unfold anyP
 rw [dif_pos hx]
 have h1 := hx.choose_spec es (.refl _)
 rw [h es (.refl _)] at h1
 exact h1.symm
theorem Wsy {E : Env U} {ev : Operand → AV U} {ts : Array TypeId} : ∀ (l : List Operand) (i : Nat), Wdz E.lazy ev ts l i = Wdz E ev ts l i
 | [], _ => rfl
 | x :: r, i => by
  simp only [Wdz]
  rw [Wsy r (i + 1)]
  rfl
theorem Wpe {E : Env U} {c : Call} {ev : Operand → AV U} : Wdg E.lazy c ev = Wdg E c ev := Wsy _ _
theorem Qqc {E : Env U} {o : Oper} {ev : Operand → AV U} : isX E.lazy o ev = isX E o ev := by
 unfold isX
 simp only [Wpe]
 rfl
theorem Qro {E : Env U} {o : Oper} {ev : Operand → AV U} {ob : Nat → Option (Obj U)} {id : Nat} : Whw E.lazy o ev ob id = Whw E o ev ob id := by
 unfold Whw
 simp only [Wpe]
 rfl
theorem sfX_lazy {E : Env U} {d : SDen U} {ob : Nat → Option (Obj U)} {args : List (AV U)} {K : AV U → Eff U → Option ρ} : sfX d E.lazy ob args K = sfX d E ob args K := by
 cases d <;> rfl
theorem opX_lazy {E : Env U} {o : Oper} {ev : Operand → AV U} {ob : Nat → Option (Obj U)} {K : AV U → Eff U → Option ρ} (h : Wgw o.op = false) : opX E.lazy o ev ob K = opX E o ev ob K := by
 unfold opX
 split
 ·simp only [Wpe, sfX_lazy]
  rfl
 ·rfl
 ·rfl
 ·rfl
 ·rfl
 ·rename_i ho
  rw [ho] at h
  cases h
 ·rfl
 ·rfl
theorem opK_lazy {E : Env U} {o : Oper} {ev : Operand → AV U} {ob : Nat → Option (Obj U)} {K : AV U → Eff U → Option ρ} : opK E.lazy o ev ob K = opK E o ev ob K := by
 unfold opK
 simp only [Wpe]
 rfl
theorem opA_lazy {E : Env U} {o : Oper} {ev : Operand → AV U} {ob : Nat → Option (Obj U)} {K : AV U → Eff U → Option ρ} (h : Wgw o.op = false) : opA E.lazy o ev ob K = opA E o ev ob K := by
 unfold opA
 rw [Qqc, opX_lazy h, opK_lazy]
def wm (E : Env U) (m : Nat) (ka va : Bool) (ck cv : U.C) (τ : List (U.El ck × U.El cv)) (st : St U) : St U := match τ with
 | [] => st
 | τ => st.Wdq m (.map true ka va ck cv (puts (E.D.keq ck) τ []))
theorem Wqb {m : Nat} {ka va : Bool} {ck cv : U.C} {τ : List (U.El ck × U.El cv)} {st : St U} (n : Nat) : (wm E m ka va ck cv τ st).get n = st.get n := by
 unfold wm
 split <;> rfl
theorem Wqa {m : Nat} {ka va : Bool} {ck cv : U.C} {τ : List (U.El ck × U.El cv)} {st : St U} (n : Nat) : lk (wm E m ka va ck cv τ st).o n = if τ ≠ [] ∧ m = n then some (.map true ka va ck cv (puts (E.D.keq ck) τ [])) else lk st.o n := by
 unfold wm
 split
 ·rw [if_neg (fun h => h.1 rfl)]
 ·rename_i hne
  rw [Zbm]
  by_cases h : m = n
  ·rw [if_pos h, if_pos ⟨hne, h⟩]
  ·rw [if_neg h, if_neg (fun h' => h h'.2)]
theorem wm_same {m : Nat} {ka va : Bool} {ck cv : U.C} {τ : List (U.El ck × U.El cv)} {st st' : St U} (h : Same st st') : Same (wm E m ka va ck cv τ st) (wm E m ka va ck cv τ st') :=
 ⟨fun n => by rw [Wqb, Wqb]; exact h.1 n, fun n => by rw [Wqa, Wqa, h.2 n]⟩
theorem litEs_get {s : St U} {ck cv : U.C} {ka va : Bool} : ∀ {ins : List Nat} {es : List (U.El ck × U.El cv)}, litEs E s ck cv ka va all ins = some es → ∃ ent : Nat → Option (U.El ck × U.El cv), (∀ i ∈ ins, ∃ o e, all[i]? = some o ∧ litE E s ck cv ka va o = some e ∧ ent i = some e) ∧ es.map some = ins.map ent := by
 intro ins es h
 refine ⟨fun i => (all[i]?).bind (litE E s ck cv ka va), ?_⟩
 induction ins generalizing es with
 | nil => cases h; exact ⟨fun i hi => (by cases hi), rfl⟩
 | cons i r ih =>
  unfold litEs at h
  split at h
  ·rename_i o ho
   split at h
   ·rename_i e l he hl
    cases h
    obtain ⟨h1, h2⟩ := ih hl
    refine ⟨fun k hk => ?_, ?_⟩
    ·rcases List.mem_cons.1 hk with rfl | hk
     ·exact ⟨o, e, ho, he, by show (all[k]?).bind _ = _; rw [ho]; exact he⟩
     ·exact h1 k hk
    ·rw [List.map_cons, List.map_cons, h2, ho]
     show some e :: _ = litE E s ck cv ka va o :: _
     rw [he]
   ·cases h
  ·cases h
theorem relL_eq {o : Oper} {ev : Operand → AV U} : Wrt.relL o ev = Wdx o ev := rfl
theorem Qth {m : Nat} (j : Nat) (o : Oper) (s s' : St U) (h : Same s s') : Qfw E all m j o s = Qfw E all m j o s' := by
 have hop : s.op = s'.op := funext fun x => Qfj (fun n => h.1 n) x
 unfold Qfw Wrt
 rw [Qcd j o s s' h, hop]
theorem Qpz {m : Nat} {o : Oper} {s : St U} (h : Wrt E m o s = true) (h1 : Wgw o.op = false) (h2 : ∀ t, o.op ≠ .makeMap t none) (h3 : ∀ t n, o.op ≠ .makeMap t (some n)) : ¬ RelA E o s.op (lk s.o) m := by
 unfold Wrt at h
 split at h
 ·rename_i ho; rw [ho] at h1; cases h1
 ·rename_i t n ho
  cases n with
  | none => exact absurd ho (h2 t)
  | some n => exact absurd ho (h3 t n)
 ·rw [Bool.and_eq_true, Bool.not_eq_true', Bool.not_eq_true'] at h
  rintro (⟨hx, _⟩ | hr)
  ·rw [h.1] at hx; cases hx
  ·rw [relL_eq] at h
   have := List.any_eq_false.1 h.2 m hr
   rw [Nat.beq_refl] at this
   exact this rfl
structure InvL (E : Env U) (nt : Nat) (w0 : Cx) (N0 : Nat → Nat → Prop) (R : Rl) (all : Array Oper) (xs : List (Res U)) (s : St U) (m : Nat) (ka va : Bool) (ck cv : U.C) (ent : Nat → Option (U.El ck × U.El cv)) (ins : List Nat) (L : Array Bool) (a : Act) (R' : Rl) (τ : List Nat) : Prop where
 size : L.size = all.size
 closed : ∀ (j : Nat) (o : Oper), all.toList[j]? = some o → L.getD j false = true → ∀ e ∈ o.after.toList, Region.binds .any e = true → L.getD e.on false = true
 le : R.le R'
 nd : τ.Nodup
 mem : ∀ i ∈ τ, i ∈ ins ∧ L.getD i false = true
 alls : ∀ i ∈ ins, L.getD i false = true → i ∈ τ
 sr : SR E.D nt w0 N0 R' (wm E m ka va ck cv (τ.filterMap ent) (stD all.toList xs (fun k => L.getD k false) 0 s)) a
structure LitData (E : Env U) (all : Array Oper) (xs : List (Res U)) (s : St U) (m : Nat) (ka va : Bool) (ck cv : U.C) (ent : Nat → Option (U.El ck × U.El cv)) (ins : List Nat) : Prop where
 nd : ins.Nodup
 put : ∀ (j : Nat) (o : Oper) (x : Res U) (s1 : St U), all.toList[j]? = some o → Wgw o.op = true → xs[j]? = some x → Same s1 (stD all.toList xs (fun k => decide (k < j)) 0 s) → Wjq E.lazy (Wek E.lazy all.toList (ahead all.toList)) all j o x s1 →
  j ∈ ins ∧ o.guard = none ∧ o.dst = none ∧ x = some (.undef, []) ∧ lk s1.o m = some (.map true ka va ck cv []) ∧ ∃ e, ent j = some e ∧
   ∀ (l : List (U.El ck × U.El cv)) (ob : Nat → Option (Obj U)), ob m = some (.map true ka va ck cv l) → opA E o s1.op ob Wca = some (.undef, [(m, .map true ka va ck cv (Woy (E.D.keq ck e.1) e.1 e.2 l))])
 other : ∀ (j : Nat) (o : Oper), all.toList[j]? = some o → Wgw o.op = false → j ∉ ins ∧ ((∀ i ∈ ins, j < i ∧ bit all.toList i j = true) ∨ ∀ (x : Res U) (s1 : St U), xs[j]? = some x → x ≠ none → Same s1 (stD all.toList xs (fun k => decide (k < j)) 0 s) → Wjq E.lazy (Wek E.lazy all.toList (ahead all.toList)) all j o x s1 → ¬ RelA E.lazy o s1.op (lk s1.o) m)
 ins : ∀ i ∈ ins, ∃ o, all.toList[i]? = some o ∧ Wgw o.op = true ∧ ∃ e, ent i = some e
theorem app_wm {o : Oper} {x : Res U} {m : Nat} {ka va : Bool} {ck cv : U.C} {τ : List (U.El ck × U.El cv)} {st : St U} (h : τ = [] ∨ m ∉ Wei x) : Same (app o x (wm E m ka va ck cv τ st)) (wm E m ka va ck cv τ (app o x st)) := by
 rcases h with rfl | h
 ·exact Same.refl _
 refine ⟨fun n => ?_, fun n => ?_⟩
 ·rw [Wqb, Wjh, Wjh]
  split
  ·rfl
  ·exact Wqb n
 ·rw [Wqa, Whv, Whv]
  cases x with
  | none => exact Wqa n
  | some p =>
   obtain ⟨v, u⟩ := p
   show lkU u (lk (wm E m ka va ck cv τ st).o) n = if τ ≠ [] ∧ m = n then _ else lkU u (lk st.o) n
   by_cases hm : τ ≠ [] ∧ m = n
   ·rw [if_pos hm]
    obtain ⟨h1, rfl⟩ := hm
    have key : ∀ (u : Eff U) (f : Nat → Option (Obj U)), m ∉ u.map (·.1) → lkU u f m = f m := by
     intro u
     induction u with
     | nil => intro f _; rfl
     | cons p u ih =>
      intro f hu
      rw [List.map_cons, List.mem_cons, not_or] at hu
      rw [Wqh, ih _ hu.2, if_neg (fun e => hu.1 e.symm)]
    rw [key u _ h, Wqa, if_pos ⟨h1, rfl⟩]
   ·rw [if_neg hm]
    have key : ∀ (u : Eff U) (f g : Nat → Option (Obj U)), f n = g n → lkU u f n = lkU u g n := by
     intro u
     induction u with
     | nil => intro f g h; exact h
     | cons p u ih =>
      intro f g h
      rw [Wqh, Wqh]
      refine ih _ _ ?_
      split
      ·rfl
      ·exact h
    exact key u _ _ (by rw [Wqa, if_neg hm])
theorem draw_ins (he : Wbx E) (hd : Qhz nt all) (d : Wjk E.lazy all xs s) {m : Nat} {ka va : Bool} {ck cv : U.C} {ent : Nat → Option (U.El ck × U.El cv)} {ins : List Nat} (ld : LitData E all xs s m ka va ck cv ent ins) {R : Rl} {Q : Exit → Act → World → Prop}
  (hq : ∀ (τ : List Nat) a R', R.le R' → τ.Perm ins → SR E.D nt w0 N0 R' (wm E m ka va ck cv (τ.filterMap ent) (stD all.toList xs (fun _ => true) 0 s)) a → Q .normal a R'.w) :
  ∀ (fuel : Nat) (L : Array Bool) (a : Act) (R' : Rl) (τ : List Nat), ((List.range all.size).filter fun i => !L.getD i true).length ≤ fuel → InvL E nt w0 N0 R all xs s m ka va ck cv ent ins L a R' τ →
   wpAny E.P .any all Q fuel L a R'.w := by
 have last : ∀ (L : Array Bool) (a : Act) (R' : Rl) (τ : List Nat), InvL E nt w0 N0 R all xs s m ka va ck cv ent ins L a R' τ → Region.ready .any all L = [] → Q .normal a R'.w := by
  intro L a R' τ hI hr
  have hall : ∀ k, k < all.size → L.getD k false = true := by
   intro k
   induction k using Nat.strongRecOn with
   | _ k ih =>
    intro hk
    have hk' : all.toList[k]? = some all[k] := by simp [hk]
    have hL : k < L.size := by rw [hI.size]; exact hk
    cases hb : L.getD k false with
    | true => rfl
    | false =>
     have hb' : L.getD k true = false := by
      rw [Array.getD_eq_getD_getElem?, Array.getElem?_eq_getElem hL] at hb ⊢; exact hb
     have : k ∈ Region.ready .any all L := Wki.2 ⟨_, hk', hb', fun e he hbd => ih e.on (d.lt k _ hk' e he hbd) (by have := d.lt k _ hk' e he hbd; omega)⟩
     rw [hr] at this
     cases this
  have hp : τ.Perm ins := (List.perm_ext_iff_of_nodup hI.nd ld.nd).2 fun i => ⟨fun h => (hI.mem i h).1, fun h => hI.alls i h (by
   obtain ⟨o, ho, _⟩ := ld.ins i h
   exact hall i (by have := (List.getElem?_eq_some_iff.1 ho).1; simpa using this))⟩
  have hsm : Same (wm E m ka va ck cv (τ.filterMap ent) (stD all.toList xs (fun _ => true) 0 s)) (wm E m ka va ck cv (τ.filterMap ent) (stD all.toList xs (fun k => L.getD k false) 0 s)) := wm_same (Wjj (Same.refl s) (fun k _ hk => by simp at hk; rw [hall k hk]))
  exact hq τ a R' hI.le hp (hI.sr.congr (fun n => hsm.1 n) (fun n => hsm.2 n))
 intro fuel
 induction fuel with
 | zero =>
  intro L a R' τ hc hI
  have hr : Region.ready .any all L = [] := by
   cases hr : Region.ready .any all L with
   | nil => rfl
   | cons i l =>
    obtain ⟨o, ho, h1, _⟩ := Wki.1 (show i ∈ Region.ready .any all L by rw [hr]; simp)
    have hlt : i < all.size := by have := (List.getElem?_eq_some_iff.1 ho).1; simpa using this
    have : i ∈ (List.range all.size).filter fun i => !L.getD i true := List.mem_filter.2 ⟨List.mem_range.2 hlt, by rw [h1]; rfl⟩
    have := List.length_pos_of_mem this
    omega
  exact ⟨hr, last L a R' τ hI hr⟩
 | succ fuel ih =>
  intro L a R' τ hc hI
  refine ⟨last L a R' τ hI, fun j hj => ?_⟩
  obtain ⟨o, ho, hL, Wuo⟩ := Wki.1 hj
  have hjl : j < all.toList.length := (List.getElem?_eq_some_iff.1 ho).1
  have hjs : j < all.size := by simpa using hjl
  have ho' : all[j]? = some o := by simpa using ho
  have hLj : L.getD j false = false := by
   have : j < L.size := by rw [hI.size]; exact hjs
   rw [Array.getD_eq_getD_getElem?, Array.getElem?_eq_getElem this] at hL ⊢; exact hL
  obtain ⟨x, s1, hx, hs1, hf⟩ := d.fact j o ho
  have hDb := Qhr d.lt (D := fun k => L.getD k false) hI.closed
  have hjb : ∀ k, bit all.toList j k = true → L.getD k false = true := by
   intro k hb
   obtain ⟨e, he', hbd, h⟩ := (Wyc d.lt ho k).1 hb
   have hl := d.lt j o ho e he' hbd
   rcases h with h | h
   ·rw [← h]; exact Wuo e he' hbd
   ·exact hDb e.on k (by omega) (Wuo e he' hbd) h
  have agree : ∀ i, i < all.toList.length → (i < j → bit all.toList j i = true) → (j < i → bit all.toList i j = true) → L.getD i false = decide (i < j) := by
   intro i hil h1 h2
   by_cases hlt : i < j
   ·simp only [hlt, decide_true]; exact hjb i (h1 hlt)
   ·by_cases heq : i = j
    ·subst heq; simp [hLj]
    ·have hgt : j < i := by omega
     simp only [hlt, decide_false]
     cases hb : L.getD i false with
     | false => rfl
     | true =>
      have := hDb i j hil hb (h2 hgt)
      simp only [hLj] at this
      cases this
  let sD := stD all.toList xs (fun k => L.getD k false) 0 s
  let sT := wm E m ka va ck cv (τ.filterMap ent) sD
  have hget : ∀ t, t ∈ names all o → sD.get t = s1.get t := by
   intro t ht
   rw [hs1.1 t]
   refine Wjy t all.toList xs _ _ 0 s s rfl (fun i p hi hp => ?_)
   simp only [Nat.zero_add]
   exact agree i (List.getElem?_eq_some_iff.1 hi).1 (fun hlt => d.tmps hi ho hlt (.inl ⟨hp, .inl ht⟩)) (fun hgt => d.tmps ho hi hgt (.inr ⟨hp, ht⟩))
  have Qgs : ∀ t, t ∈ names all o → s1.op (.tmp t) = sT.op (.tmp t) := fun t ht => by
   show (bif Nat.blt t gb then s1.get t else .undef) = (bif Nat.blt t gb then sT.get t else .undef)
   rw [show sT.get t = sD.get t from Wqb t, hget t ht]
  have hop : ∀ z, z ∈ o.op.operands.toList → s1.op z = sT.op z := by
   intro z hz
   cases z with
   | tmp t => exact Qgs t (by simp only [names, List.mem_append, List.mem_filterMap]; exact .inl ⟨_, hz, rfl⟩)
   | _ => rfl
  have hguard : ∀ yes, Wyk all o s1 yes → Region.wanted o (yielded all a.tmps) = yes := by
   intro yes hg
   rcases hg with ⟨hg, rfl⟩ | ⟨jj, g, b, hg, hjj, hb⟩ | ⟨rfl, jj, g, b, ys, hg, hjj, hb⟩
   ·simp [Region.wanted, hg]
   ·have hmem : g ∈ names all o := by simp [names, hg, hjj]
    rw [Qgs g hmem] at hb
    have := Wti hI.sr hjj hb
    simp only [Region.wanted, hg, this]
    cases b <;> cases yes <;> rfl
   ·have hmem : g ∈ names all o := by simp [names, hg, hjj]
    rw [Qgs g hmem] at hb
    have := Wtl hI.sr hjj hb
    simp [Region.wanted, hg, this]
  have hset : ∀ (k : Nat), (L.setIfInBounds j true).getD k false = (L.getD k false || k == j) := by
   intro k
   have hjL : j < L.size := by rw [hI.size]; exact hjs
   rw [Array.getD_eq_getD_getElem?, Array.getElem?_setIfInBounds]
   by_cases hk : j = k
   ·subst hk; simp [hjL]
   ·have : (k == j) = false := by simp; omega
    rw [if_neg hk, this, Bool.or_false, Array.getD_eq_getD_getElem?]
  have hclosed : ∀ (i : Nat) (p : Oper), all.toList[i]? = some p → (L.setIfInBounds j true).getD i false = true → ∀ e ∈ p.after.toList, Region.binds .any e = true → (L.setIfInBounds j true).getD e.on false = true := by
   intro i p hi hLi e he' hbd
   rw [hset] at hLi ⊢
   rw [Bool.or_eq_true] at hLi ⊢
   rcases hLi with h | h
   ·exact .inl (hI.closed i p hi h e he' hbd)
   ·have : i = j := by simpa using h
    subst this
    rw [ho] at hi
    cases hi
    exact .inl (Wuo e he' hbd)
  have hcount : ((List.range all.size).filter fun i => !(L.setIfInBounds j true).getD i true).length ≤ fuel := by
   have hjL : j < L.size := by rw [hI.size]; exact hjs
   have : ((List.range all.size).filter fun i => !(L.setIfInBounds j true).getD i true).length < ((List.range all.size).filter fun i => !L.getD i true).length := by
    refine filter_lt _ (fun i _ h => ?_) ⟨j, by simp [hjs], by rw [hL]; rfl, ?_⟩
    ·rw [Array.getD_eq_getD_getElem?, Array.getElem?_setIfInBounds] at h
     by_cases hk : j = i
     ·subst hk; simp [hjL] at h
     ·rw [if_neg hk, ← Array.getD_eq_getD_getElem?] at h; exact h
    ·rw [Array.getD_eq_getD_getElem?, Array.getElem?_setIfInBounds]; simp [hjL]
   omega
  have hsame : Same (app o x sD) (stD all.toList xs (fun k => (L.setIfInBounds j true).getD k false) 0 s) := by
   have h1 : Same (app o x sD) (stD all.toList xs (fun k => L.getD k false || k == j) 0 s) := by
    refine Qli ho hx hLj (fun k p hk hkj hLk ⟨t, ht1, ht2⟩ => ?_) (fun k y hk hkj hLk ⟨n, hn1, hn2⟩ => ?_)
    ·rcases Nat.lt_or_gt_of_ne hkj with h | h
     ·exact h
     ·have hb := d.tmps ho hk h (.inl ⟨ht1, .inr ht2⟩)
      have := hDb k j (List.getElem?_eq_some_iff.1 hk).1 hLk hb
      simp only [hLj] at this
      cases this
    ·rcases Nat.lt_or_gt_of_ne hkj with h | h
     ·exact h
     ·have hkl : k < all.toList.length := by rw [← d.len]; exact (List.getElem?_eq_some_iff.1 hk).1
      have hp := Z3 hkl
      obtain ⟨y', s2, hy', hs2, hf'⟩ := d.fact k _ hp
      rw [hk] at hy'
      cases hy'
      have hxn : x ≠ none := by rintro rfl; simp [Wei] at hn1
      have hyn : y ≠ none := by rintro rfl; simp [Wei] at hn2
      have hrel : RelA E.lazy all.toList[k] s2.op (lk s2.o) n := by
       obtain ⟨⟨v, u⟩, rfl⟩ := Option.ne_none_iff_exists'.1 hyn
       exact Qde hf'.2.2 n hn2
      have hb := d.objs ho hp h hf hf' hxn hyn hx hs1 hs2 (.inl ⟨hn1, hrel⟩)
      have := hDb k j hkl hLk hb
      simp only [hLj] at this
      cases this
   exact h1.trans (Wjj (Same.refl s) (fun k _ _ => (hset k).symm))
  have hobj : ∀ id, x ≠ none → RelA E.lazy o s1.op (lk s1.o) id → lk s1.o id = lk sD.o id := by
   intro id hxn hid
   rw [hs1.2 id]
   refine (Wua id all.toList xs _ _ 0 s s rfl (fun i z hi hz => ?_)).symm
   simp only [Nat.zero_add]
   have hil : i < all.toList.length := by rw [← d.len]; exact (List.getElem?_eq_some_iff.1 hi).1
   have hp := Z3 hil
   obtain ⟨z', s2, hz', hs2, hf'⟩ := d.fact i _ hp
   rw [hi] at hz'
   cases hz'
   have hzn : z ≠ none := by rintro rfl; simp [Wei] at hz
   exact agree i hil (fun hlt => d.objs hp ho hlt hf' hf hzn hxn hi hs2 hs1 (.inl ⟨hz, hid⟩)) (fun hgt => d.objs ho hp hgt hf hf' hxn hzn hx hs1 hs2 (.inr ⟨hz, hid⟩))
  cases hins : Wgw o.op with
  | true =>
   obtain ⟨p1, p2, p3, rfl, p5, e, p6, p7⟩ := ld.put j o x s1 ho hins hx hs1 hf
   have hlm : lk sD.o m = some (.map true ka va ck cv []) := by
    have hr : RelA E.lazy o s1.op (lk s1.o) m := by
     unfold Wgw at hins
     split at hins
     ·rename_i ho2
      exact .inl ⟨by simp [isX, ho2], by simp [Whw, ho2]⟩
     ·cases hins
    rw [← hobj m (by simp) hr]
    exact p5
   have hlT : lk sT.o m = some (.map true ka va ck cv (puts (E.D.keq ck) (τ.filterMap ent) [])) := by
    rw [show lk sT.o m = _ from Wqa m]
    split
    ·rfl
    ·rename_i hne
     have : τ.filterMap ent = [] := Classical.byContradiction fun h => hne ⟨h, rfl⟩
     rw [this]
     exact hlm
   have hk' := p7 _ (lk sT.o) hlT
   have hk'' : opA E o sT.op (lk sT.o) Wca = some (.undef, [(m, .map true ka va ck cv (Woy (E.D.keq ck e.1) e.1 e.2 (puts (E.D.keq ck) (τ.filterMap ent) [])))]) := by
    rw [← Wzm (ob := lk sT.o) hop (fun _ _ => rfl)]
    exact hk'
   unfold wpOp
   simp only [ho']
   rw [if_pos (hguard true hf.1)]
   refine .inl ?_
   obtain ⟨v', u', h1, hgood⟩ := Wwt he hI.sr hk''
   simp only [Wca, Option.some.injEq, Prod.mk.injEq] at h1
   obtain ⟨rfl, rfl⟩ := h1
   refine hgood _ Q (fun y R'' hle hv hsr => ?_)
   have hjt : j ∉ τ := fun h => by
    have := (hI.mem j h).2
    rw [hLj] at this
    cases this
   have hfm : (τ ++ [j]).filterMap ent = τ.filterMap ent ++ [e] := by
    rw [List.filterMap_append]
    simp [p6]
   have hst : Same (wm E m ka va ck cv ((τ ++ [j]).filterMap ent) (stD all.toList xs (fun k => (L.setIfInBounds j true).getD k false) 0 s)) (sT.upd [(m, .map true ka va ck cv (Woy (E.D.keq ck e.1) e.1 e.2 (puts (E.D.keq ck) (τ.filterMap ent) [])))]) := by
    have hsd : Same sD (stD all.toList xs (fun k => (L.setIfInBounds j true).getD k false) 0 s) := by
     have := hsame
     unfold app at this
     rw [p3] at this
     exact this
    refine ⟨fun n => ?_, fun n => ?_⟩
    ·rw [Wqb, ← hsd.1 n]
     show sD.get n = sT.get n
     exact (Wqb n).symm
    ·rw [Wqa, ← hsd.2 n, hfm]
     show _ = lk (sT.Wdq m _).o n
     rw [Zbm]
     by_cases hmn : m = n
     ·rw [if_pos ⟨by simp, hmn⟩, if_pos hmn]
      unfold puts
      rw [List.foldl_append]
      rfl
     ·rw [if_neg (fun h => hmn h.2), if_neg hmn, show lk sT.o n = _ from Wqa n, if_neg (fun h => hmn h.2)]
   have hsr2 : SR E.D nt w0 N0 R'' (wm E m ka va ck cv ((τ ++ [j]).filterMap ent) (stD all.toList xs (fun k => (L.setIfInBounds j true).getD k false) 0 s)) (a.put o.dst y) := by
    rw [p3]
    exact hsr.congr (fun n => hst.1 n) (fun n => hst.2 n)
   refine ih _ _ R'' (τ ++ [j]) hcount ⟨by simp [hI.size], hclosed, hI.le.trans hle, ?_, fun i hi => ?_, fun i hi hLi => ?_, hsr2⟩
   ·rw [List.nodup_append]
    refine ⟨hI.nd, by simp, fun b hb c hc' e1 => ?_⟩
    rw [List.mem_singleton.1 hc'] at e1
    exact hjt (e1 ▸ hb)
   ·rw [hset]
    rcases List.mem_append.1 hi with hi | hi
    ·exact ⟨(hI.mem i hi).1, by rw [(hI.mem i hi).2]; rfl⟩
    ·rw [List.mem_singleton.1 hi]
     exact ⟨p1, by simp⟩
   ·rw [hset, Bool.or_eq_true] at hLi
    rcases hLi with h | h
    ·exact List.mem_append_left _ (hI.alls i hi h)
    ·have : i = j := by simpa using h
     rw [this]
     simp
  | false =>
   obtain ⟨hjn, hoth⟩ := ld.other j o ho hins
   have hfree : τ.filterMap ent = [] ∨ (x ≠ none → ¬ RelA E.lazy o s1.op (lk s1.o) m) := by
    rcases hoth with h | h
    ·left
     cases hτ : τ with
     | nil => rfl
     | cons i r =>
      exfalso
      obtain ⟨h1, h2⟩ := hI.mem i (by rw [hτ]; simp)
      obtain ⟨h3, h4⟩ := h i h1
      obtain ⟨oi, hoi, _⟩ := ld.ins i h1
      have := hDb i j (List.getElem?_eq_some_iff.1 hoi).1 h2 h4
      simp only [hLj] at this
      cases this
    ·exact .inr fun hxn => h x s1 hx hxn hs1 hf
   have hfree2 : τ.filterMap ent = [] ∨ m ∉ Wei x := by
    rcases hfree with h | h
    ·exact .inl h
    ·right
     cases x with
     | none => simp [Wei]
     | some p =>
      obtain ⟨v, u⟩ := p
      exact fun hm => h (by simp) (Qde hf.2.2 m hm)
   have next : ∀ (y : Value) (R'' : Rl), R'.le R'' → SR E.D nt w0 N0 R'' (app o x sT) (a.put o.dst y) → wpAny E.P .any all Q fuel (L.setIfInBounds j true) (a.put o.dst y) R''.w := by
    intro y R'' hle hsr
    have hst : Same (wm E m ka va ck cv (τ.filterMap ent) (stD all.toList xs (fun k => (L.setIfInBounds j true).getD k false) 0 s)) (app o x sT) := (wm_same hsame.symm).trans (app_wm hfree2).symm
    refine ih _ _ R'' τ hcount ⟨by simp [hI.size], hclosed, hI.le.trans hle, hI.nd, fun i hi => ⟨(hI.mem i hi).1, by rw [hset, (hI.mem i hi).2]; rfl⟩, fun i hi hLi => ?_, hsr.congr (fun n => hst.1 n) (fun n => hst.2 n)⟩
    rw [hset, Bool.or_eq_true] at hLi
    rcases hLi with h | h
    ·exact hI.alls i hi h
    ·have : i = j := by simpa using h
     rw [this] at hi
     exact absurd hi hjn
   unfold wpOp
   simp only [ho']
   cases x with
   | none =>
    have hw := hguard false hf
    rw [if_neg (by simp [hw])]
    exact next undef R' (.refl R') (hI.sr.put (fun d' hd' => hd j o d' ho' hd') (.flat _))
   | some p =>
    obtain ⟨v, u⟩ := p
    obtain ⟨hg, hck, hk⟩ := hf
    rw [if_pos (hguard true hg)]
    refine .inl ?_
    have hk' : opA E o sT.op (lk sT.o) Wca = some (v, u) := by
     rw [← Wzm hop (ob := lk s1.o) (fun id hid => ?_)]
     ·rw [← opA_lazy hins]
      exact hk
     ·have hid' : RelA E.lazy o s1.op (lk s1.o) id := by
       rcases hid with ⟨h1, h2⟩ | h
       ·exact .inl ⟨by rw [Qqc]; exact h1, by rw [Qro]; exact h2⟩
       ·exact .inr h
      rw [show lk sT.o id = _ from Wqa id, hobj id (by simp) hid']
      rw [if_neg]
      rintro ⟨h1, rfl⟩
      rcases hfree with h | h
      ·exact h1 h
      ·exact h (by simp) hid'
    obtain ⟨v', u', h1, hgood⟩ := Wwt he hI.sr hk'
    simp only [Wca, Option.some.injEq, Prod.mk.injEq] at h1
    obtain ⟨rfl, rfl⟩ := h1
    exact hgood _ Q (fun y R'' hle hv hsr => next y R'' hle (hsr.put (fun d' hd' => hd j o d' ho' hd') hv))
theorem Wwu : ∀ {l : List Nat}, nodupB l = true → l.Nodup
 | [], _ => List.nodup_nil
 | n :: r, h => by
  simp only [nodupB, Bool.and_eq_true, Bool.not_eq_true'] at h
  refine List.nodup_cons.2 ⟨fun hm => ?_, Wwu h.2⟩
  have := List.any_eq_false.1 h.1 n hm
  rw [Nat.beq_refl] at this
  exact this rfl
theorem draw_lit (he : Wbx E) (Wlg : E.P.follows .mixedOrders = true) {id : Nat} (hd : Qhz nt all) {m : Nat} {ins : List Nat} {K : St U → Option ρ} {r : ρ} {a : Act} {R : Rl} {Q : Exit → Act → World → Prop}
  (h : SR E.D nt w0 N0 R s a) (hok : Qdl all (ahead all.toList) = true) (hlit : litOkB all m ins = true) (hk : Wko E.lazy (Qfw E.lazy all m) all 0 all.toList s (fun s' => litK E all m ins s' K) = some r)
  (hq : ∀ s' a' R', R.le R' → SR E.D nt w0 N0 R' s' a' → K s' = some r → Q .normal a' R'.w) : (Code.region id all true).wp E.P Q a R.w := by
 obtain ⟨xs, sf, hlen, hkf, hsf, Qgt⟩ := Wzi (fun j o s s' h => Qth j o s s' h) all.toList 0 s hk
 have Qgt : ∀ (k : Nat) (o : Oper), all.toList[k]? = some o → ∃ x s1, xs[k]? = some x ∧ Same s1 (stD all.toList xs (fun m => decide (m < k)) 0 s) ∧ Wjq E.lazy (Wek E.lazy all.toList (ahead all.toList)) all k o x s1 ∧ (x ≠ none → Wrt E.lazy m o s1 = true) := by
  intro k o hk
  obtain ⟨x, s1, h1, h2, h3⟩ := Qgt k o hk
  rw [Nat.zero_add] at h2 h3
  refine ⟨x, s1, h1, h2, ?_, fun hx => ?_⟩
  ·cases x with
   | none => exact h3
   | some p =>
    obtain ⟨h4, h5, h6⟩ := h3
    unfold Qfw at h5
    rw [Bool.and_eq_true] at h5
    exact ⟨h4, h5.1, h6⟩
  ·obtain ⟨p, rfl⟩ := Option.ne_none_iff_exists'.1 hx
   obtain ⟨h4, h5, h6⟩ := h3
   unfold Qfw at h5
   rw [Bool.and_eq_true] at h5
   exact h5.2
 have d : Wjk E.lazy all xs s := by
  refine ⟨hlen, fun k o hk => ?_, fun j o hj e he hb => ?_, fun i j p o hi hj hlt => ?_⟩
  ·obtain ⟨x, s1, h1, h2, h3, _⟩ := Qgt k o hk
   exact ⟨x, s1, h1, h2, h3⟩
  ·have := Zdx hok j o hj
   simp only [Bool.and_eq_true] at this
   have := Array.all_eq_true_iff_forall_mem.1 this.1.2 e (by simpa using he)
   simp only [hb, Bool.not_true, Bool.false_or] at this
   exact Nat.le_of_ble_eq_true this
  ·have := Zdx hok j o hj
   simp only [Bool.and_eq_true] at this
   have := Zdx this.1.1 i p hi
   have hb : Nat.blt i j = true := by simp [Nat.blt]; omega
   simp only [hb, Bool.not_true, Bool.false_or, Bool.or_eq_true] at this
   exact this
 unfold litK at hkf
 split at hkf
 case h_2 => cases hkf
 rename_i m' hsm
 split at hkf
 case h_2 => cases hkf
 rename_i ka va ck cv hlo
 cases hmm : Nat.beq m' m with
 | false => rw [hmm] at hkf; cases hkf
 | true =>
 rw [hmm, cond_true] at hkf
 have := Z2 hmm
 subst this
 obtain ⟨es, hes, hP⟩ := Option.bind_eq_some_iff.1 hkf
 obtain ⟨ent, hent, hmap⟩ := litEs_get hes
 unfold litOkB at hlit
 simp only [Bool.and_eq_true] at hlit
 obtain ⟨⟨⟨hB, hnd⟩, hall⟩, hne⟩ := hlit
 have Qgr : ∀ i ∈ ins, ∃ o, all.toList[i]? = some o ∧ Wgw o.op = true ∧ Wij all.toList i o = true := fun i hi => by
  have := List.all_eq_true.1 hall i hi
  split at this
  ·rename_i o ho
   rw [Bool.and_eq_true] at this
   exact ⟨o, by simpa using ho, this.1, this.2⟩
  ·cases this
 have hins : ∀ (j : Nat) (o : Oper), all.toList[j]? = some o → Wgw o.op = true → ∃ t k v, o.op = .insert t (.tmp m') k v ∧ j ∈ ins ∧ o.guard = none ∧ o.dst = none ∧ Wij all.toList j o = true := by
  intro j o ho hi
  have hb := Zdx hB j o ho
  unfold Wgw at hi
  split at hi
  ·rename_i t x k v hop
   unfold litB at hb
   simp only [hop, Bool.and_eq_true] at hb
   obtain ⟨⟨⟨b1, b2⟩, b3⟩, b4⟩ := hb
   have hj : j ∈ ins := by simpa using b1
   split at b2
   ·rename_i n
    have := Z2 b2
    subst this
    obtain ⟨o', ho', _, hst⟩ := Qgr j hj
    rw [ho] at ho'
    cases ho'
    exact ⟨t, k, v, hop, hj, by simpa using b3, by simpa using b4, hst⟩
   ·cases b2
  ·cases hi
 have hsfl : Same sf (stD all.toList xs (fun k => decide (k < all.toList.length)) 0 s) := hsf.trans (Wjj (Same.refl s) (fun k _ hk => by simp at hk; simp [hk]))
 have hopsf : ∀ (j : Nat) (o : Oper) (s1 : St U), all.toList[j]? = some o → Wij all.toList j o = true → Same s1 (stD all.toList xs (fun k => decide (k < j)) 0 s) → ∀ x, x ∈ o.op.operands.toList → s1.op x = sf.op x := fun j o s1 hj hst hs1 x hx =>
  ops_same hst (List.getElem?_eq_some_iff.1 hj).1 hs1 hsfl x hx
 have hm0 : sf.op (.tmp m') = .mp m' ∨ sf.op (.tmp m') = .undef := by
  show (bif Nat.blt m' gb then sf.get m' else .undef) = _ ∨ (bif Nat.blt m' gb then sf.get m' else .undef) = _
  cases Nat.blt m' gb with
  | true => exact .inl hsm
  | false => exact .inr rfl
 have hinsx : ∀ (j : Nat) (o : Oper) (x : Res U) (s1 : St U), all.toList[j]? = some o → Wgw o.op = true → Same s1 (stD all.toList xs (fun k => decide (k < j)) 0 s) → Wjq E.lazy (Wek E.lazy all.toList (ahead all.toList)) all j o x s1 → x = some (.undef, []) ∧ s1.op (.tmp m') = .mp m' := by
  intro j o x s1 ho hi hs1 hf
  obtain ⟨t, k, v, hop, hj, hg, hdst, hst⟩ := hins j o ho hi
  have hm1 : s1.op (.tmp m') = sf.op (.tmp m') := hopsf j o s1 ho hst hs1 _ (by simp [hop, Op.operands])
  cases x with
  | none =>
   rcases hf with ⟨_, hf⟩ | ⟨jj, g, b, hg', _⟩ | ⟨_, jj, g, b, ys, hg', _⟩
   ·cases hf
   ·rw [hg] at hg'; cases hg'
   ·rw [hg] at hg'; cases hg'
  | some p =>
   obtain ⟨v', u'⟩ := p
   have hf := hf.2.2
   unfold opA at hf
   have hx : isX E.lazy o s1.op = true := by simp [isX, hop]
   rw [hx] at hf
   simp only [cond_true, opX, hop] at hf
   rw [Whb] at hf
   obtain ⟨⟨b1, b2⟩, hb, hf⟩ := Option.bind_eq_some_iff.1 hf
   have hz : E.lazy.lz = true := rfl
   simp only [hz, cond_true, Wca, Option.some.injEq, Prod.mk.injEq] at hf
   obtain ⟨rfl, rfl⟩ := hf
   have hmm : s1.op (.tmp m') = .mp m' := by
    rw [hm1]
    rcases hm0 with h | h
    ·exact h
    ·rw [hm1, h] at hb
     unfold Wiy at hb
     split at hb
     ·rename_i e; cases e
     ·cases hb
   refine ⟨?_, hmm⟩
   have : b1 = .undef := by
    unfold Wiy at hb
    repeat' split at hb
    all_goals first
     | (cases hb; done)
     | (simp only [Option.some.injEq, Prod.mk.injEq] at hb; exact hb.1.symm)
   rw [this]
 have hothx : ∀ (j : Nat) (o : Oper), all.toList[j]? = some o → Wgw o.op = false → j ∉ ins ∧ ((∃ t, o.op = .makeMap t none ∧ o.dst = some m') ∨ ∀ (x : Res U) (s1 : St U), xs[j]? = some x → x ≠ none → Same s1 (stD all.toList xs (fun k => decide (k < j)) 0 s) → Wjq E.lazy (Wek E.lazy all.toList (ahead all.toList)) all j o x s1 → ¬ RelA E.lazy o s1.op (lk s1.o) m') := by
  intro j o ho hi
  have hb := Zdx hB j o ho
  refine ⟨fun hj => ?_, ?_⟩
  ·obtain ⟨o', ho', h1, _⟩ := Qgr j hj
   rw [ho] at ho'
   cases ho'
   rw [hi] at h1
   cases h1
  ·by_cases hmk : ∃ t, o.op = .makeMap t none
   ·obtain ⟨t, hmk⟩ := hmk
    unfold litB at hb
    simp only [hmk, Bool.and_eq_true] at hb
    exact .inl ⟨t, hmk, by simpa using hb.1⟩
   ·refine .inr fun x s1 hx hxn hs1 hf => ?_
    by_cases hmk2 : ∃ t n, o.op = .makeMap t (some n)
    ·obtain ⟨t, n, hmk2⟩ := hmk2
     obtain ⟨⟨v, u⟩, rfl⟩ := Option.ne_none_iff_exists'.1 hxn
     have hf := hf.2.2
     unfold opA at hf
     rw [show isX E.lazy o s1.op = true by simp [isX, hmk2]] at hf
     simp only [cond_true, opX, hmk2] at hf
     cases hf
    ·obtain ⟨x', s1', hx', hs1', hf', hfr⟩ := Qgt j o ho
     rw [hx] at hx'
     cases hx'
     have hss : Same s1 s1' := hs1.trans hs1'.symm
     have hop : s1.op = s1'.op := funext fun z => Qfj (fun n => hss.1 n) z
     have hlk : lk s1.o = lk s1'.o := funext hss.2
     rw [hop, hlk]
     exact Qpz (hfr hxn) hi (fun t e => hmk ⟨t, e⟩) (fun t n e => hmk2 ⟨t, n, e⟩)
 have hlk1 : ∀ (j : Nat) (o : Oper) (s1 : St U), all.toList[j]? = some o → Wgw o.op = true → Same s1 (stD all.toList xs (fun k => decide (k < j)) 0 s) → lk s1.o m' = some (.map true ka va ck cv []) := by
  intro j o s1 ho hi hs1
  obtain ⟨t, k, v, hop, hj, hg, hdst, hst⟩ := hins j o ho hi
  rw [hs1.2 m', ← hlo, hsf.2 m']
  refine Wua m' all.toList xs _ _ 0 s s rfl (fun i z hz hzi => ?_)
  simp only [Nat.zero_add]
  by_cases hlt : i < j
  ·simp [hlt]
  ·exfalso
   have hil : i < all.toList.length := by rw [← hlen]; exact (List.getElem?_eq_some_iff.1 hz).1
   have hp := Z3 hil
   obtain ⟨z', s2, hz', hs2, hf', hfr⟩ := Qgt i _ hp
   rw [hz] at hz'
   cases hz'
   cases hii : Wgw all.toList[i].op with
   | true =>
    obtain ⟨e, _⟩ := hinsx i _ z s2 hp hii hs2 hf'
    rw [e] at hzi
    simp [Wei] at hzi
   | false =>
    rcases (hothx i _ hp hii).2 with ⟨t', hmk, hdm⟩ | hno
    ·unfold Wij at hst
     have h1 := List.all_eq_true.1 hst (.tmp m') (by simp [hop, Op.operands])
     have h2 := List.all_eq_true.1 h1 all.toList[i] (by
      rw [List.mem_iff_getElem?]
      exact ⟨i - j, by rw [List.getElem?_drop, show j + (i - j) = i by omega]; exact hp⟩)
     rw [hdm] at h2
     simp at h2
    ·have hzn : z ≠ none := by rintro rfl; simp [Wei] at hzi
     obtain ⟨⟨v3, u3⟩, rfl⟩ := Option.ne_none_iff_exists'.1 hzn
     exact hno _ s2 hz hzn hs2 hf' (Qde hf'.2.2 m' hzi)
 have ld : LitData E all xs s m' ka va ck cv ent ins := by
  refine ⟨Wwu hnd, fun j o x s1 ho hi hx hs1 hf => ?_, fun j o ho hi => ?_, fun i hi => ?_⟩
  ·obtain ⟨t, k, v, hop, hj, hg, hdst, hst⟩ := hins j o ho hi
   obtain ⟨hxe, hsm1⟩ := hinsx j o x s1 ho hi hs1 hf
   obtain ⟨o', e, ho', hle, hje⟩ := hent j hj
   have : o' = o := by
    have h1 : all[j]? = some o := by simpa using ho
    rw [h1] at ho'
    exact (Option.some.inj ho').symm
   subst this
   refine ⟨hj, hg, hdst, hxe, hlk1 j o' s1 ho hi hs1, e, hje, fun l ob hob => ?_⟩
   have hkk : s1.op k = sf.op k := hopsf j o' s1 ho hst hs1 _ (by simp [hop, Op.operands])
   have hvv : s1.op v = sf.op v := hopsf j o' s1 ho hst hs1 _ (by simp [hop, Op.operands])
   unfold litE at hle
   simp only [hop] at hle
   split at hle
   ·rename_i kt et hu
    split at hle
    ·rename_i key dat hkey hdat
     cases hle
     unfold opA
     rw [show isX E o' s1.op = true by simp [isX, hop]]
     simp only [cond_true, opX, hop, he.lz, cond_false, hsm1, hkk, hvv]
     unfold Wiy
     simp only [hu, hob, hkey, hdat, Wca]
    ·cases hle
   ·cases hle
  ·obtain ⟨h1, h2⟩ := hothx j o ho hi
   refine ⟨h1, ?_⟩
   rcases h2 with ⟨t, hmk, hdm⟩ | h2
   ·refine .inl fun i hi' => ?_
    obtain ⟨oi, hoi, hoi1, _⟩ := Qgr i hi'
    obtain ⟨t', k', v', hop', _, _, _, hst'⟩ := hins i oi hoi hoi1
    have hmem : m' ∈ names all oi := by simp [names, hop', Op.operands]
    rcases Nat.lt_trichotomy j i with hlt | heq | hgt
    ·exact ⟨hlt, d.tmps ho hoi hlt (.inl ⟨hdm, .inl hmem⟩)⟩
    ·subst heq
     exact absurd hi' h1
    ·exfalso
     unfold Wij at hst'
     have h3 := List.all_eq_true.1 hst' (.tmp m') (by simp [hop', Op.operands])
     have h4 := List.all_eq_true.1 h3 o (by
      rw [List.mem_iff_getElem?]
      exact ⟨j - i, by rw [List.getElem?_drop, show i + (j - i) = j by omega]; exact ho⟩)
     rw [hdm] at h4
     simp at h4
   ·exact .inr h2
  ·obtain ⟨o, ho, h1, _⟩ := Qgr i hi
   obtain ⟨_, e, _, _, h2⟩ := hent i hi
   exact ⟨o, ho, h1, e, h2⟩
 have hfm : ins.filterMap ent = es := by
  have : ∀ (l : List Nat) (es : List (U.El ck × U.El cv)), es.map some = l.map ent → l.filterMap ent = es := by
   intro l
   induction l with
   | nil => intro es h; cases es with
    | nil => rfl
    | cons e r => cases h
   | cons i l ih =>
    intro es h
    cases es with
    | nil => cases h
    | cons e r =>
     rw [List.map_cons, List.map_cons] at h
     injection h with h1 h2
     rw [List.filterMap_cons, ← h1]
     simp only
     rw [ih r h2]
  exact this ins es hmap
 refine wp_region_any Wlg ?_
 obtain ⟨hle, hsr⟩ := h.drew
 refine draw_ins (w0 := w0) (N0 := N0) (R := R) he hd d ld (fun τ a' R' hle' hperm hsr' => ?_) all.size _ a { R with w := { R.w with drawn := R.w.drawn + 1 } } [] ?_ ?_
 ·have hpe : (τ.filterMap ent).Perm es := by
   rw [← hfm]
   exact hperm.filterMap ent
  have hne2 : τ.filterMap ent ≠ [] := by
   intro e
   rw [e] at hpe
   have := hpe.length_eq
   have h3 : es.length = ins.length := by
    have := congrArg List.length hmap
    simpa using this
   cases hi : ins with
   | nil => rw [hi] at hne; cases hne
   | cons i l => rw [hi] at h3; simp at h3 this; omega
  refine hq (sf.Wdq m' (.map true ka va ck cv (puts (E.D.keq ck) (τ.filterMap ent) []))) a' R' hle' (hsr'.congr (fun n => ?_) (fun n => ?_)) (Qkq hP _ hpe)
  ·rw [Wqb]
   exact hsf.1 n
  ·rw [Wqa, Zbm]
   by_cases hmn : m' = n
   ·rw [if_pos hmn, if_pos ⟨hne2, hmn⟩]
   ·rw [if_neg hmn, if_neg (fun h => hmn h.2)]
    exact hsf.2 n
 ·refine Nat.le_trans (List.length_filter_le _ _) (by simp)
 ·refine ⟨by simp, fun j o hj hL => ?_, hle, List.nodup_nil, fun i hi => (by cases hi), fun i hi hL => ?_, ?_⟩
  ·have hlt : j < all.size := by have := (List.getElem?_eq_some_iff.1 hj).1; simpa using this
   simp [Array.getD_eq_getD_getElem?, Array.getElem?_replicate, hlt] at hL
  ·obtain ⟨o, ho, _⟩ := Qgr i hi
   have hlt : i < all.size := by have := (List.getElem?_eq_some_iff.1 ho).1; simpa using this
   simp [Array.getD_eq_getD_getElem?, Array.getElem?_replicate, hlt] at hL
  ·rw [Wmo _ _ _ _ _ (fun k _ => by
    simp [Array.getD_eq_getD_getElem?, Array.getElem?_replicate]
    split <;> simp)]
   exact hsr
end
end Go.Ev
