import Derived.Test.YthknecaigoilmaaEv
import Derived.Orders
import Derived.Below
/-! What the evaluator's values, objects and states are in the model's world. -/
universe u
namespace Go.Ev
set_option linter.unusedVariables false
set_option linter.unusedSimpArgs false
open Go.RowKit (Below)
variable {U : Univ}

structure Lawful (D : Codec U) : Prop where
  enc_len : ∀ c x, (D.enc c x).length = D.size c
  dec_enc : ∀ c cs x, D.dec c cs = some x → cs = D.enc c x
  enc_ok : ∀ c x v, v ∈ D.enc c x → okCell v = true
  enc_c0 : ∀ c x v, v ∈ D.enc c x → c0 v = true

structure Rl where
  w : World
  N : Nat → Nat → Prop
  blk : Nat → Option (Nat × Nat)
  hdr : Nat → Option (Option Addr × Nat × Nat)

inductive VR (D : Codec U) (R : Rl) : AV U → Value → Prop
  | undef (u : Value) : VR D R .undef u
  | flat (v : Value) : VR D R (.flat v) v
  | ptr {id off B es : Nat} (h : R.blk id = some (B, es)) : VR D R (.ptr id off) (.pointer (some ⟨B, off, none⟩))
  | el {id i off B es : Nat} (h : R.blk id = some (B, es)) : VR D R (.el id i off) (.pointer (some ⟨B, i * es + off, none⟩))
  | pe {id b sz n i off B es : Nat} (h : R.blk id = some (B, es)) : VR D R (.pe id b sz n i off) (.pointer (some ⟨B, b + i * sz + off, none⟩))
  | rp {cs : List (AV U)} {off B o : Nat} (f : Nat → Value) (hB : B < R.w.heap.size)
      (hc : ∀ (i : Nat) (x : AV U), cs[i]? = some x → R.w.cell? ⟨B, o + i, none⟩ = some (f i) ∧ ¬ R.N B (o + i)) (hv : ∀ (i : Nat) (x : AV U), cs[i]? = some x → VR D R x (f i)) :
      VR D R (.rp cs off) (.pointer (some ⟨B, o + off, none⟩))
  | rownil {c : U.C} {b : Option Addr} {cap : Nat} : VR D R (.row c []) (.slice b 0 cap)
  | row {c : U.C} {l : List (U.El c)} {B o cap : Nat} (f : Nat → Nat → Value) (hB : B < R.w.heap.size) (hl : l.length ≤ cap)
      (hc : ∀ (i : Nat) (x : U.El c), l[i]? = some x → ∀ (j : Nat) (v : AV U), (D.enc c x)[j]? = some v → R.w.cell? ⟨B, o + (i * D.size c + j), none⟩ = some (f i j) ∧ ¬ R.N B (o + (i * D.size c + j)))
      (hv : ∀ (i : Nat) (x : U.El c), l[i]? = some x → ∀ (j : Nat) (v : AV U), (D.enc c x)[j]? = some v → VR D R v (f i j)) :
      VR D R (.row c l) (.slice (some ⟨B, o, none⟩) l.length cap)
  | tip {id : Nat} {c : U.C} {l : List (U.El c)} {b : Option Addr} {n cap : Nat} (h : R.hdr id = some (b, n, cap)) (hr : VR D R (.row c l) (.slice b n cap)) : VR D R (.tip id c l) (.slice b n cap)
  | vs {id : Nat} {b : Option Addr} {n cap : Nat} (h : R.hdr id = some (b, n, cap)) : VR D R (.vs id) (.slice b n cap)
  | agg {xs : List (AV U)} {ys : Array Value} (hl : xs.length = ys.size) (hv : ∀ (i : Nat) (x : AV U) (y : Value), xs[i]? = some x → ys[i]? = some y → VR D R x y) : VR D R (.agg xs) (.agg ys)
  | tup {xs : List (AV U)} {ys : Array Value} (hl : xs.length = ys.size) (hv : ∀ (i : Nat) (x : AV U) (y : Value), xs[i]? = some x → ys[i]? = some y → VR D R x y) : VR D R (.tup xs) (.tuple ys)
  | fn {f : FuncId} {caps : List (AV U)} {ys : Array Value} (hl : caps.length = ys.size) (hv : ∀ (i : Nat) (x : AV U) (y : Value), caps[i]? = some x → ys[i]? = some y → VR D R x y) :
      VR D R (.fn f caps) (.func (.func f) #[] ys)

theorem VR.drop {D : Codec U} {R : Rl} {x : AV U} {y : Value} (h : VR D R x y) : VR D R x.drop y := by
  cases h with
  | tip h hr => exact hr
  | vs h => exact .vs h
  | undef => exact .undef _
  | flat => exact .flat _
  | ptr h => exact .ptr h
  | el h => exact .el h
  | pe h => exact .pe h
  | rp f hB hc hv => exact .rp f hB hc hv
  | rownil => exact .rownil
  | row f hB hl hc hv => exact .row f hB hl hc hv
  | agg hl hv => exact .agg hl hv
  | tup hl hv => exact .tup hl hv
  | fn hl hv => exact .fn hl hv

theorem VR.nilA {E : Env U} {D : Codec U} {R : Rl} {t : TypeId} {x : AV U} {y : Value} (h : VR D R x y) : VR D R (nilA E t x) y := by
  unfold Ev.nilA
  split
  · cases h
    split
    · exact .rownil
    · exact .flat _
  · exact h

theorem VR.plainAt {D : Codec U} {R : Rl} {x : AV U} {y : Value} (h : VR D R x y) : VR D R x.plainAt y := by
  cases x with
  | pe id b sz n i off => cases h with | pe h => exact .ptr h
  | _ => exact h

structure Rl.le (R R' : Rl) : Prop where
  blk : ∀ id p, R.blk id = some p → R'.blk id = some p
  hdr : ∀ id p, R.hdr id = some p → R'.hdr id = some p
  size : R.w.heap.size ≤ R'.w.heap.size
  keep : ∀ B i, B < R.w.heap.size → ¬ R.N B i → R'.w.cell? ⟨B, i, none⟩ = R.w.cell? ⟨B, i, none⟩ ∧ ¬ R'.N B i

theorem Rl.le.refl (R : Rl) : R.le R := ⟨fun _ _ h => h, fun _ _ h => h, Nat.le_refl _, fun _ _ _ h => ⟨rfl, h⟩⟩
theorem Rl.le.trans {R R' R'' : Rl} (h : R.le R') (h' : R'.le R'') : R.le R'' :=
  ⟨fun _ _ e => h'.blk _ _ (h.blk _ _ e), fun _ _ e => h'.hdr _ _ (h.hdr _ _ e), Nat.le_trans h.size h'.size, fun B i hB hN =>
    let ⟨e1, n1⟩ := h.keep B i hB hN
    let ⟨e2, n2⟩ := h'.keep B i (Nat.lt_of_lt_of_le hB h.size) n1
    ⟨e2.trans e1, n2⟩⟩

theorem VR.mono {D : Codec U} {R R' : Rl} (hle : R.le R') {x : AV U} {y : Value} (h : VR D R x y) : VR D R' x y := by
  induction h with
  | undef u => exact .undef u
  | flat v => exact .flat v
  | ptr h => exact .ptr (hle.blk _ _ h)
  | el h => exact .el (hle.blk _ _ h)
  | pe h => exact .pe (hle.blk _ _ h)
  | rp f hB hc hv ih =>
    refine .rp f (Nat.lt_of_lt_of_le hB hle.size) (fun i x hx => ?_) (fun i x hx => ih i x hx)
    obtain ⟨h1, h2⟩ := hc i x hx
    obtain ⟨e, n⟩ := hle.keep _ _ hB h2
    exact ⟨e.trans h1, n⟩
  | rownil => exact .rownil
  | row f hB hl hc hv ih =>
    refine .row f (Nat.lt_of_lt_of_le hB hle.size) hl (fun i x hx j v hv' => ?_) (fun i x hx j v hv' => ih i x hx j v hv')
    obtain ⟨h1, h2⟩ := hc i x hx j v hv'
    obtain ⟨e, n⟩ := hle.keep _ _ hB h2
    exact ⟨e.trans h1, n⟩
  | tip h hr ih => exact .tip (hle.hdr _ _ h) ih
  | vs h => exact .vs (hle.hdr _ _ h)
  | agg hl hv ih => exact .agg hl (fun i x y hx hy => ih i x y hx hy)
  | tup hl hv ih => exact .tup hl (fun i x y hx hy => ih i x y hx hy)
  | fn hl hv ih => exact .fn hl (fun i x y hx hy => ih i x y hx hy)

def Obj.alive : Obj U → Prop
  | .dead => False
  | _ => True

/-- Is its whole block its own? -/
def Obj.whole : Obj U → Prop
  | .lit _ | .arr .. | .vec .. => True
  | _ => False

/-- What an object is in the world. -/
def OR (D : Codec U) (R : Rl) (id : Nat) : Obj U → Prop
  | .dead => True
  | .lit cs => ∃ B es arr el, R.blk id = some (B, es) ∧ R.w.heap[B]? = some (.cells arr el (0, 0)) ∧ cs.length = arr.size ∧
      ∀ (i : Nat) (x : AV U) (y : Value), cs[i]? = some x → arr[i]? = some y → VR D R x y
  | .arr n c l => ∃ B arr el, R.blk id = some (B, D.size c) ∧ R.w.heap[B]? = some (.cells arr el (0, 0)) ∧ l.length = n ∧ arr.size = n * D.size c ∧
      ∀ (i : Nat) (x : U.El c), l[i]? = some x → ∀ (j : Nat) (v : AV U) (y : Value), (D.enc c x)[j]? = some v → arr[i * D.size c + j]? = some y → VR D R v y
  | .tip sz => ∃ b n cap, R.hdr id = some (b, n, cap) ∧ ((b = none ∧ n = 0 ∧ cap = 0) ∨ ∃ B arr el, b = some ⟨B, 0, none⟩ ∧ R.blk id = some (B, sz) ∧
      R.w.heap[B]? = some (.cells arr el (0, 0)) ∧ n ≤ cap ∧ cap * sz ≤ arr.size ∧ ∀ i, n * sz ≤ i → R.N B i)
  | .vec c l => ∃ b cap, R.hdr id = some (b, l.length, cap) ∧ ((b = none ∧ l = [] ∧ cap = 0) ∨ ∃ B arr el, b = some ⟨B, 0, none⟩ ∧ R.blk id = some (B, D.size c) ∧
      R.w.heap[B]? = some (.cells arr el (0, 0)) ∧ l.length ≤ cap ∧ cap * D.size c ≤ arr.size ∧
      ∀ (i : Nat) (x : U.El c), l[i]? = some x → ∀ (j : Nat) (v : AV U) (y : Value), (D.enc c x)[j]? = some v → arr[i * D.size c + j]? = some y → VR D R v y)

/-- An object stays what it is while its own block does. -/
theorem OR.mono {D : Codec U} {R R' : Rl} (hle : R.le R') {id : Nat} {ob : Obj U} (h : OR D R id ob)
    (hb : ∀ B es, R.blk id = some (B, es) → R'.w.heap[B]? = R.w.heap[B]? ∧ ∀ i, R.N B i → R'.N B i) : OR D R' id ob := by
  cases ob with
  | dead => exact True.intro
  | lit cs =>
    obtain ⟨B, es, arr, el, h1, h2, h3, h4⟩ := h
    exact ⟨B, es, arr, el, hle.blk _ _ h1, by rw [(hb _ _ h1).1]; exact h2, h3, fun i x y hx hy => (h4 i x y hx hy).mono hle⟩
  | arr n c l =>
    obtain ⟨B, arr, el, h1, h2, h3, h4, h5⟩ := h
    exact ⟨B, arr, el, hle.blk _ _ h1, by rw [(hb _ _ h1).1]; exact h2, h3, h4, fun i x hx j v y hv hy => (h5 i x hx j v y hv hy).mono hle⟩
  | tip sz =>
    obtain ⟨b, n, cap, h0, h⟩ := h
    refine ⟨b, n, cap, hle.hdr _ _ h0, ?_⟩
    rcases h with h | ⟨B, arr, el, h1, h2, h3, h4, h5, h6⟩
    · exact .inl h
    · exact .inr ⟨B, arr, el, h1, hle.blk _ _ h2, by rw [(hb _ _ h2).1]; exact h3, h4, h5, fun i hi => (hb _ _ h2).2 i (h6 i hi)⟩
  | vec c l =>
    obtain ⟨b, cap, h0, h⟩ := h
    refine ⟨b, cap, hle.hdr _ _ h0, ?_⟩
    rcases h with h | ⟨B, arr, el, h1, h2, h3, h4, h5, h6⟩
    · exact .inl h
    · exact .inr ⟨B, arr, el, h1, hle.blk _ _ h2, by rw [(hb _ _ h2).1]; exact h3, h4, h5, fun i x hx j v y hv hy => (h6 i x hx j v y hv hy).mono hle⟩

/-- The objects' side of a state. w0: the world in which the call began; N0: what was barred then. -/
structure SO (D : Codec U) (w0 : World) (N0 : Nat → Nat → Prop) (R : Rl) (ob : Nat → Option (Obj U)) : Prop where
  objs : ∀ id o, ob id = some o → OR D R id o
  none : ∀ id, ob id = none → R.blk id = none ∧ R.hdr id = none
  own : ∀ id o B es, ob id = some o → o.alive → R.blk id = some (B, es) → (o.whole → ∀ i, R.N B i) ∧ w0.heap.size ≤ B ∧ B < R.w.heap.size
  inj : ∀ id id' o o' B es es', ob id = some o → ob id' = some o' → o.alive → o'.alive → R.blk id = some (B, es) → R.blk id' = some (B, es') → id = id'
  keep : Below w0.heap.size w0 R.w
  nn : ∀ B i, B < w0.heap.size → N0 B i → R.N B i
  nlt : ∀ B i, R.N B i → B < R.w.heap.size

/-- A state. -/
structure SR (D : Codec U) (nt : Nat) (w0 : World) (N0 : Nat → Nat → Prop) (R : Rl) (s : St U) (a : Act) : Prop extends toSO : SO D w0 N0 R (lk s.o) where
  size : a.tmps.size = nt
  defers : a.defers = []
  tm : ∀ n, VR D R (s.get n) (a.tmps.getD n undef)

theorem SR.op {D : Codec U} {nt : Nat} {w0 : World} {N0 : Nat → Nat → Prop} {R : Rl} {s : St U} {a : Act} (h : SR D nt w0 N0 R s a) (x : Operand) : VR D R (s.op x) (a.eval x) := by
  cases x with
  | tmp t => exact h.tm t
  | const v => exact .flat v
  | global g => exact .undef _
  | func f => exact .fn rfl (by simp)

theorem get_set (s : St U) (n m : Nat) (v : AV U) : (s.set n v).get m = if n = m then v else s.get m := by
  unfold St.get St.set
  simp only [lk]
  by_cases h : n = m
  · subst h; simp
  · have : Nat.beq n m = false := by cases hb : Nat.beq n m with | false => rfl | true => exact absurd (Nat.eq_of_beq_eq_true hb) h
    simp [this, h]

theorem tmps_put (a : Act) (d : Nat) (y : Value) (n : Nat) (hd : d < a.tmps.size) : (a.put (some d) y).tmps.getD n undef = if d = n then y else a.tmps.getD n undef := by
  simp only [Act.put, Array.getD_eq_getD_getElem?, Array.getElem?_setIfInBounds]
  by_cases h : d = n
  · subst h; simp [hd]
  · simp [h]

theorem SR.put {D : Codec U} {nt : Nat} {w0 : World} {N0 : Nat → Nat → Prop} {R : Rl} {s : St U} {a : Act} (h : SR D nt w0 N0 R s a) {dst : Option Tmp} (hd : ∀ d, dst = some d → d < nt)
    {v : AV U} {y : Value} (hv : VR D R v y) : SR D nt w0 N0 R (s.put dst v) (a.put dst y) := by
  cases dst with
  | none => exact h
  | some d =>
    refine { toSO := h.toSO, size := ?_, defers := ?_, tm := fun n => ?_ }
    · simp [Act.put, h.size]
    · exact h.defers
    · show VR D R ((s.set d v).get n) _
      rw [get_set, tmps_put a d y n (by rw [h.size]; exact hd d rfl)]
      split
      · exact hv
      · exact h.tm n


def keepOk (m : St U) : Bool :=
  (m.t.all fun p => c1 p.2 || (match p.2 with | .ptr id _ => (match lk m.o id with | some (.tip _) | some (.vec ..) => false | some _ => true | none => false) | .tip id _ _ => (match lk m.o id with | some (.tip _) => true | _ => false) | .vs id => (match lk m.o id with | some (.vec ..) => true | _ => false) | _ => false)) &&
  (m.o.all fun p => match p.2 with | .lit cs => cs.all c0 | .arr .. => true | .tip _ => true | .vec .. => true | _ => false)

/-- A value told by another: the same, or a row in place of an own slice; an own slice under another name, or out of nil. -/
def FV (ren : List (Nat × Option Nat)) (v m : AV U) : Prop :=
  m = v ∧ (∀ id c l, m ≠ .tip id c l) ∧ (∀ id, m ≠ .vs id) ∨ (m = v.drop ∧ ∀ id, m ≠ .vs id) ∨ (∃ c, m = .row c [] ∧ v = .flat (.slice none 0 0)) ∨
    (∃ cid c l, m = .tip cid c l ∧ ((∃ aid, v = .tip aid c l ∧ lk ren cid = some (some aid)) ∨ (l = [] ∧ v = .flat (.slice none 0 0) ∧ lk ren cid = some none))) ∨
    ∃ cid, m = .vs cid ∧ ((∃ aid, v = .vs aid ∧ lk ren cid = some (some aid)) ∨ (v = .flat (.slice none 0 0) ∧ lk ren cid = some none))

def FO (ren : List (Nat × Option Nat)) (s : St U) (id : Nat) : Obj U → Prop
  | .tip sz => ∃ a, lk ren id = some a ∧ ∀ aid, a = some aid → lk s.o aid = some (.tip sz)
  | .vec c l => ∃ a, lk ren id = some a ∧ (∀ aid, a = some aid → lk s.o aid = some (.vec c l)) ∧ (a = none → l = [])
  | o => lk s.o id = some o

/-- The state m tells no more than s. -/
def Fits (s m : St U) : Prop := (∃ ren : List (Nat × Option Nat), (∀ p ∈ m.t, FV ren (s.get p.1) p.2) ∧ (∀ p ∈ m.o, FO ren s p.1 p.2) ∧
  ∀ c c' a, lk ren c = some (some a) → lk ren c' = some (some a) → c = c') ∧ keepOk m = true

def FitsO : Out U → Out U → Prop
  | .norm s, .norm m => Fits s m
  | .exit id s, .exit id' m => id = id' ∧ Fits s m
  | .ret v, .ret v' => v = v'
  | _, _ => False


end Go.Ev
