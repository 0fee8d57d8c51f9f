import Derived.Test.YtgfbcclfajcjnaaEv
import Derived.Orders
import Derived.MapKept
import Derived.Below
universe u
namespace Go.Ev
set_option linter.unusedVariables false
set_option linter.unusedSimpArgs false
open Go.RowKit (Below)
variable {U : Univ}
structure Lawful (D : Codec U) : Prop where
  enc_len : ∀ c x, (D.enc c x).length = D.size c
  dec_enc : ∀ c cs x, D.dec c cs = some x → cs = D.enc c x
  enc_ok : ∀ c x v, v ∈ D.enc c x → okCell v = true
  enc_c0 : ∀ c x v, v ∈ D.enc c x → c0 v = true
  keq_ok : ∀ c ks x y, D.kinds c = some ks → eqF ks (D.enc c x) (D.enc c y) = some (D.keq c x y)
  nst_ok : ∀ c ck cv ka va g, D.nst c ck cv ka va = some g → ∀ l, D.enc c (g l) = [.fm ka va ck cv l]
structure Rl where
  w : World
  N : Nat → Nat → Prop
  blk : Nat → Option (Nat × Nat)
  hdr : Nat → Option (Option Addr × Nat × Nat)
  ar : Nat → List Nat
def obs (w : World) (B i : Nat) : Option Value × Option (Array MapEntry × Nat) := (w.cell? ⟨B, i, none⟩, match w.heap[B]? with | some (.map es c) => some (es, c) | _ => none)
theorem obs_cell {w w' : World} {B i : Nat} (h : obs w' B i = obs w B i) : w'.cell? ⟨B, i, none⟩ = w.cell? ⟨B, i, none⟩ := congrArg Prod.fst h
theorem obs_map {w w' : World} {B i : Nat} (h : obs w' B i = obs w B i) {es : Array MapEntry} {c : Nat} (hm : w.heap[B]? = some (.map es c)) : w'.heap[B]? = some (.map es c) := by
  have h2 := congrArg Prod.snd h
  unfold obs at h2
  dsimp only at h2
  rw [hm] at h2
  dsimp only at h2
  split at h2
  · rename_i es' c' e
    cases h2
    exact e
  · cases h2
theorem obs_block {w w' : World} {B i : Nat} (h : w'.heap[B]? = w.heap[B]?) : obs w' B i = obs w B i := by
  unfold obs
  rw [World.cell?_of_block h, h]
inductive VR (D : Codec U) (R : Rl) : AV U → Value → Prop
  | undef (u : Value) : VR D R .undef u
  | flat (v : Value) : VR D R (.flat v) v
  | ptr {id off B es : Nat} (h : R.blk id = some (B, es)) : VR D R (.ptr id off) (.pointer (some ⟨B, off, none⟩))
  | el {id i off B es : Nat} (h : R.blk id = some (B, es)) : VR D R (.el id i off) (.pointer (some ⟨B, i * es + off, none⟩))
  | pe {id b sz n i off B es : Nat} (h : R.blk id = some (B, es)) : VR D R (.pe id b sz n i off) (.pointer (some ⟨B, b + i * sz + off, none⟩))
  | rp {cs : List (AV U)} {off B o : Nat} (f : Nat → Value) (hB : B < R.w.heap.size)
      (hc : ∀ (i : Nat) (x : AV U), cs[i]? = some x → R.w.cell? ⟨B, o + i, none⟩ = some (f i) ∧ ¬ R.N B (o + i)) (hv : ∀ (i : Nat) (x : AV U), cs[i]? = some x → VR D R x (f i)) :
      VR D R (.rp cs off) (.pointer (some ⟨B, o + off, none⟩))
  | rownil {c : U.C} {b : Option Addr} {cap : Nat} : VR D R (.row c []) (.slice b 0 cap)
  | row {c : U.C} {l : List (U.El c)} {B o cap : Nat} (f : Nat → Nat → Value) (hB : B < R.w.heap.size) (hl : l.length ≤ cap)
      (hc : ∀ (i : Nat) (x : U.El c), l[i]? = some x → ∀ (j : Nat) (v : AV U), (D.enc c x)[j]? = some v → R.w.cell? ⟨B, o + (i * D.size c + j), none⟩ = some (f i j) ∧ ¬ R.N B (o + (i * D.size c + j)))
      (hv : ∀ (i : Nat) (x : U.El c), l[i]? = some x → ∀ (j : Nat) (v : AV U), (D.enc c x)[j]? = some v → VR D R v (f i j)) :
      VR D R (.row c l) (.slice (some ⟨B, o, none⟩) l.length cap)
  | tip {id : Nat} {c : U.C} {l : List (U.El c)} {b : Option Addr} {n cap : Nat} (h : R.hdr id = some (b, n, cap)) (hr : VR D R (.row c l) (.slice b n cap)) : VR D R (.tip id c l) (.slice b n cap)
  | vs {id : Nat} {b : Option Addr} {n cap : Nat} (h : R.hdr id = some (b, n, cap)) : VR D R (.vs id) (.slice b n cap)
  | mp {id : Nat} {B : Option Nat} (h : R.hdr id = some (B.map fun B => ⟨B, 0, none⟩, 0, 0)) : VR D R (.mp id) (.map B)
  | smn {A : Nat} : VR D R (.sm A none) (.map none)
  | sm {A j b : Nat} (h : (R.ar A)[j]? = some b) : VR D R (.sm A (some j)) (.map (some b))
  | nrow {c : U.C} {l : List (U.El c)} {b : Option Addr} {n cap : Nat} (h : VR D R (.row c l) (.slice b n cap)) : VR D R (.nrow b.isSome c l) (.slice b n cap)
  | fmnil {ka va : Bool} {ck cv : U.C} : VR D R (.fm ka va ck cv []) (.map none)
  | fm {ka va : Bool} {ck cv : U.C} {l : List (U.El ck × U.El cv)} {b clock : Nat} {es : Array MapEntry} (hB : b < R.w.heap.size) (hm : R.w.heap[b]? = some (.map es clock)) (hN : ¬ R.N b 0) (hs : es.size = l.length) (st : MapKept.Stamped es clock)
      (hk : ∀ (i : Nat) (x : U.El ck × U.El cv) (e : MapEntry), l[i]? = some x → es[i]? = some e → VR D R (packV ka (D.enc ck x.1)) e.key)
      (hv : ∀ (i : Nat) (x : U.El ck × U.El cv) (e : MapEntry), l[i]? = some x → es[i]? = some e → VR D R (packV va (D.enc cv x.2)) e.val) : VR D R (.fm ka va ck cv l) (.map (some b))
  | fmp {ka va : Bool} {ck cv : U.C} {l l' : List (U.El ck × U.El cv)} {B : Option Nat} (hp : l'.Perm l) (hn : nodK (D.keq ck) l = true) (h : VR D R (.fm ka va ck cv l') (.map B)) : VR D R (.fm ka va ck cv l) (.map B)
  | agg {xs : List (AV U)} {ys : Array Value} (hl : xs.length = ys.size) (hv : ∀ (i : Nat) (x : AV U) (y : Value), xs[i]? = some x → ys[i]? = some y → VR D R x y) : VR D R (.agg xs) (.agg ys)
  | tup {xs : List (AV U)} {ys : Array Value} (hl : xs.length = ys.size) (hv : ∀ (i : Nat) (x : AV U) (y : Value), xs[i]? = some x → ys[i]? = some y → VR D R x y) : VR D R (.tup xs) (.tuple ys)
  | fn {f : FuncId} {caps : List (AV U)} {ys : Array Value} (hl : caps.length = ys.size) (hv : ∀ (i : Nat) (x : AV U) (y : Value), caps[i]? = some x → ys[i]? = some y → VR D R x y) :
      VR D R (.fn f caps) (.func (.func f) #[] ys)
theorem VR.drop {D : Codec U} {R : Rl} {x : AV U} {y : Value} (h : VR D R x y) : VR D R x.drop y := by
  cases h with
  | tip h hr => exact hr
  | nrow h => exact h
  | vs h => exact .vs h
  | mp h => exact .mp h
  | smn => exact .smn
  | sm h => exact .sm h
  | undef => exact .undef _
  | flat => exact .flat _
  | ptr h => exact .ptr h
  | el h => exact .el h
  | pe h => exact .pe h
  | rp f hB hc hv => exact .rp f hB hc hv
  | rownil => exact .rownil
  | row f hB hl hc hv => exact .row f hB hl hc hv
  | fmnil => exact .fmnil
  | fm hB hm hN hs st hk hv => exact .fm hB hm hN hs st hk hv
  | fmp hp hn h => exact .fmp hp hn h
  | agg hl hv => exact .agg hl hv
  | tup hl hv => exact .tup hl hv
  | fn hl hv => exact .fn hl hv
theorem VR.nilCA {D : Codec U} {R : Rl} {c : Option U.C} {x : AV U} {y : Value} (h : VR D R x y) : VR D R (nilCA x c) y := by
  unfold Ev.nilCA
  split
  · cases h; exact .rownil
  · exact h
theorem VR.tidy {E : Env U} {D : Codec U} {R : Rl} {t : TypeId} {x : AV U} {y : Value} (h : VR D R x y) : VR D R (tidy E t x) y := by
  unfold Ev.tidy
  split
  · rename_i xs
    have hd : VR D R (.agg (xs.map AV.drop)) y := by
      cases h with
      | agg hl hv =>
        refine .agg (by simpa using hl) (fun i a b ha hb => ?_)
        rw [List.getElem?_map] at ha
        obtain ⟨a', ha', rfl⟩ := Option.map_eq_some_iff.1 ha
        exact (hv i a' b ha' hb).drop
    cases hs : xs.all sleek with
    | true => simpa only [cond_true] using h
    | false =>
      simp only [cond_false]
      split
      · rename_i cs hcs
        cases hb : Nat.beq cs.length xs.length with
        | false => simpa only [cond_false] using hd
        | true =>
          simp only [cond_true]
          have hlen := Nat.eq_of_beq_eq_true hb
          cases hd with
          | agg hl hv =>
            refine .agg (by simp [List.length_zipWith]; simp at hl; omega) (fun i a b ha hb => ?_)
            rw [List.getElem?_zipWith] at ha
            split at ha
            · rename_i u c hu hc
              cases ha
              exact (hv i _ b hu hb).nilCA
            · cases ha
      · exact hd
  · exact h
theorem nilF_inv {E : Env U} {t : TypeId} {v : AV U} (h : nilF E t = some v) : ∃ ka va ck cv, v = .fm ka va ck cv [] := by
  unfold nilF at h
  split at h
  · cases h; exact ⟨_, _, _, _, rfl⟩
  · cases h
theorem nilF_vr {E : Env U} {D : Codec U} {R : Rl} {t : TypeId} {v : AV U} (h : nilF E t = some v) : VR D R v (.map none) := by
  obtain ⟨_, _, _, _, rfl⟩ := nilF_inv h
  exact .fmnil
theorem VR.nilA {E : Env U} {D : Codec U} {R : Rl} {t : TypeId} {x : AV U} {y : Value} (h : VR D R x y) : VR D R (nilA E t x) y := by
  unfold Ev.nilA
  split
  · cases h
    split
    · exact .rownil
    · exact .flat _
  · cases h
    split
    · rename_i u hu
      exact nilF_vr hu
    · exact .flat _
  · exact h.tidy
  · exact h
theorem VR.nilE {E : Env U} {D : Codec U} {R : Rl} {t : TypeId} {x : AV U} {y : Value} (h : VR D R x y) : VR D R (nilE E t x) y := by
  unfold Ev.nilE
  split
  · exact h.nilA
  · exact h
theorem VR.stV {E : Env U} {D : Codec U} {R : Rl} {ob : Nat → Option (Obj U)} {t : TypeId} {a x : AV U} {y : Value} (h : VR D R x y) : VR D R (stV E ob t a x) y := by
  unfold Ev.stV
  split
  · split
    · exact h
    · exact h.drop.nilA
  · exact h.drop.nilA
theorem VR.plainAt {D : Codec U} {R : Rl} {x : AV U} {y : Value} (h : VR D R x y) : VR D R x.plainAt y := by
  cases x with
  | pe id b sz n i off => cases h with | pe h => exact .ptr h
  | _ => exact h
structure Rl.le (R R' : Rl) : Prop where
  blk : ∀ id p, R.blk id = some p → R'.blk id = some p
  hdr : ∀ id p, R.hdr id = some p → R'.hdr id = some p
  ar : ∀ (id j b : Nat), (R.ar id)[j]? = some b → (R'.ar id)[j]? = some b
  size : R.w.heap.size ≤ R'.w.heap.size
  keep : ∀ B i, B < R.w.heap.size → ¬ R.N B i → obs R'.w B i = obs R.w B i ∧ ¬ R'.N B i
theorem Rl.le.refl (R : Rl) : R.le R := ⟨fun _ _ h => h, fun _ _ h => h, fun _ _ _ h => h, Nat.le_refl _, fun _ _ _ h => ⟨rfl, h⟩⟩
theorem Rl.le.trans {R R' R'' : Rl} (h : R.le R') (h' : R'.le R'') : R.le R'' :=
  ⟨fun _ _ e => h'.blk _ _ (h.blk _ _ e), fun _ _ e => h'.hdr _ _ (h.hdr _ _ e), fun _ _ _ e => h'.ar _ _ _ (h.ar _ _ _ e), Nat.le_trans h.size h'.size, fun B i hB hN =>
    let ⟨e1, n1⟩ := h.keep B i hB hN
    let ⟨e2, n2⟩ := h'.keep B i (Nat.lt_of_lt_of_le hB h.size) n1
    ⟨e2.trans e1, n2⟩⟩
theorem VR.mono {D : Codec U} {R R' : Rl} (hle : R.le R') {x : AV U} {y : Value} (h : VR D R x y) : VR D R' x y := by
  induction h with
  | undef u => exact .undef u
  | flat v => exact .flat v
  | ptr h => exact .ptr (hle.blk _ _ h)
  | el h => exact .el (hle.blk _ _ h)
  | pe h => exact .pe (hle.blk _ _ h)
  | rp f hB hc hv ih =>
    refine .rp f (Nat.lt_of_lt_of_le hB hle.size) (fun i x hx => ?_) (fun i x hx => ih i x hx)
    obtain ⟨h1, h2⟩ := hc i x hx
    obtain ⟨e, n⟩ := hle.keep _ _ hB h2
    exact ⟨(obs_cell e).trans h1, n⟩
  | rownil => exact .rownil
  | nrow h ih => exact .nrow ih
  | row f hB hl hc hv ih =>
    refine .row f (Nat.lt_of_lt_of_le hB hle.size) hl (fun i x hx j v hv' => ?_) (fun i x hx j v hv' => ih i x hx j v hv')
    obtain ⟨h1, h2⟩ := hc i x hx j v hv'
    obtain ⟨e, n⟩ := hle.keep _ _ hB h2
    exact ⟨(obs_cell e).trans h1, n⟩
  | tip h hr ih => exact .tip (hle.hdr _ _ h) ih
  | vs h => exact .vs (hle.hdr _ _ h)
  | mp h => exact .mp (hle.hdr _ _ h)
  | smn => exact .smn
  | sm h => exact .sm (hle.ar _ _ _ h)
  | fmnil => exact .fmnil
  | fm hB hm hN hs st hk hv ihk ihv =>
    obtain ⟨e, n⟩ := hle.keep _ 0 hB hN
    exact .fm (Nat.lt_of_lt_of_le hB hle.size) (obs_map e hm) n hs st ihk ihv
  | fmp hp hn h ih => exact .fmp hp hn ih
  | agg hl hv ih => exact .agg hl (fun i x y hx hy => ih i x y hx hy)
  | tup hl hv ih => exact .tup hl (fun i x y hx hy => ih i x y hx hy)
  | fn hl hv ih => exact .fn hl (fun i x y hx hy => ih i x y hx hy)
def Obj.alive : Obj U → Prop
  | .dead => False
  | _ => True
def Obj.whole : Obj U → Prop
  | .lit _ | .arr .. | .vec .. | .map .. | .om .. => True
  | _ => False
def OR (D : Codec U) (R : Rl) (id : Nat) : Obj U → Prop
  | .dead => True
  | .lit cs => ∃ B es arr el, R.blk id = some (B, es) ∧ R.w.heap[B]? = some (.cells arr el (0, 0)) ∧ cs.length = arr.size ∧
      ∀ (i : Nat) (x : AV U) (y : Value), cs[i]? = some x → arr[i]? = some y → VR D R x y
  | .arr n c l => ∃ B arr el, R.blk id = some (B, D.size c) ∧ R.w.heap[B]? = some (.cells arr el (0, 0)) ∧ l.length = n ∧ arr.size = n * D.size c ∧
      ∀ (i : Nat) (x : U.El c), l[i]? = some x → ∀ (j : Nat) (v : AV U) (y : Value), (D.enc c x)[j]? = some v → arr[i * D.size c + j]? = some y → VR D R v y
  | .tip sz => ∃ b n cap, R.hdr id = some (b, n, cap) ∧ ((n = 0 ∧ cap = 0) ∨ ∃ B arr el, b = some ⟨B, 0, none⟩ ∧ R.blk id = some (B, sz) ∧
      R.w.heap[B]? = some (.cells arr el (0, 0)) ∧ n ≤ cap ∧ cap * sz ≤ arr.size ∧ ∀ i, n * sz ≤ i → R.N B i)
  | .vec c l => ∃ b cap, R.hdr id = some (b, l.length, cap) ∧ ((l = [] ∧ cap = 0) ∨ ∃ B arr el, b = some ⟨B, 0, none⟩ ∧ R.blk id = some (B, D.size c) ∧
      R.w.heap[B]? = some (.cells arr el (0, 0)) ∧ l.length ≤ cap ∧ cap * D.size c ≤ arr.size ∧
      ∀ (i : Nat) (x : U.El c), l[i]? = some x → ∀ (j : Nat) (v : AV U) (y : Value), (D.enc c x)[j]? = some v → arr[i * D.size c + j]? = some y → VR D R v y)
  | .map w ka va ck cv l => ∃ B : Option Nat, R.hdr id = some (B.map fun B => ⟨B, 0, none⟩, 0, 0) ∧ ((B = none ∧ l = [] ∧ w = false ∧ R.blk id = none) ∨ ∃ b es clock, B = some b ∧ R.blk id = some (b, 0) ∧
      R.w.heap[b]? = some (.map es clock) ∧ (es.size = l.length ∧ MapKept.Stamped es clock) ∧ ∀ (i : Nat) (x : U.El ck × U.El cv) (e : MapEntry), l[i]? = some x → es[i]? = some e →
        VR D R (packV ka (D.enc ck x.1)) e.key ∧ VR D R (packV va (D.enc cv x.2)) e.val)
  | .ar ka va ck cv L => (R.ar id).length = L.length ∧ (R.ar id).Nodup ∧ ∀ (j b : Nat) (l : List (U.El ck × U.El cv)), (R.ar id)[j]? = some b → L[j]? = some l → (∀ i, R.N b i) ∧ ∃ es clock,
      R.w.heap[b]? = some (.map es clock) ∧ (es.size = l.length ∧ MapKept.Stamped es clock) ∧ ∀ (i : Nat) (x : U.El ck × U.El cv) (e : MapEntry), l[i]? = some x → es[i]? = some e →
        VR D R (packV ka (D.enc ck x.1)) e.key ∧ VR D R (packV va (D.enc cv x.2)) e.val
  | .om A ka ck l => ∃ b es clock, R.hdr id = some (some ⟨b, 0, none⟩, 0, 0) ∧ R.blk id = some (b, 0) ∧ R.w.heap[b]? = some (.map es clock) ∧ (es.size = l.length ∧ MapKept.Stamped es clock) ∧
      ∀ (i : Nat) (x : U.El ck × Nat) (e : MapEntry), l[i]? = some x → es[i]? = some e → VR D R (packV ka (D.enc ck x.1)) e.key ∧ VR D R (.sm A (some x.2)) e.val
theorem OR.mono {D : Codec U} {R R' : Rl} (hle : R.le R') {id : Nat} {ob : Obj U} (h : OR D R id ob)
    (hb : ∀ B es, R.blk id = some (B, es) → R'.w.heap[B]? = R.w.heap[B]? ∧ ∀ i, R.N B i → R'.N B i) (hn : R.blk id = none → R'.blk id = none)
    (har : R'.ar id = R.ar id ∧ ∀ b ∈ R.ar id, R'.w.heap[b]? = R.w.heap[b]? ∧ ∀ i, R.N b i → R'.N b i) : OR D R' id ob := by
  cases ob with
  | dead => exact True.intro
  | lit cs =>
    obtain ⟨B, es, arr, el, h1, h2, h3, h4⟩ := h
    exact ⟨B, es, arr, el, hle.blk _ _ h1, by rw [(hb _ _ h1).1]; exact h2, h3, fun i x y hx hy => (h4 i x y hx hy).mono hle⟩
  | arr n c l =>
    obtain ⟨B, arr, el, h1, h2, h3, h4, h5⟩ := h
    exact ⟨B, arr, el, hle.blk _ _ h1, by rw [(hb _ _ h1).1]; exact h2, h3, h4, fun i x hx j v y hv hy => (h5 i x hx j v y hv hy).mono hle⟩
  | tip sz =>
    obtain ⟨b, n, cap, h0, h⟩ := h
    refine ⟨b, n, cap, hle.hdr _ _ h0, ?_⟩
    rcases h with h | ⟨B, arr, el, h1, h2, h3, h4, h5, h6⟩
    · exact .inl h
    · exact .inr ⟨B, arr, el, h1, hle.blk _ _ h2, by rw [(hb _ _ h2).1]; exact h3, h4, h5, fun i hi => (hb _ _ h2).2 i (h6 i hi)⟩
  | vec c l =>
    obtain ⟨b, cap, h0, h⟩ := h
    refine ⟨b, cap, hle.hdr _ _ h0, ?_⟩
    rcases h with h | ⟨B, arr, el, h1, h2, h3, h4, h5, h6⟩
    · exact .inl h
    · exact .inr ⟨B, arr, el, h1, hle.blk _ _ h2, by rw [(hb _ _ h2).1]; exact h3, h4, h5, fun i x hx j v y hv hy => (h6 i x hx j v y hv hy).mono hle⟩
  | map w ka va ck cv l =>
    obtain ⟨B, h0, h⟩ := h
    refine ⟨B, hle.hdr _ _ h0, ?_⟩
    rcases h with ⟨h1, h2, h3, h4⟩ | ⟨b, es, clock, h1, h2, h3, h4, h5⟩
    · exact .inl ⟨h1, h2, h3, hn h4⟩
    · exact .inr ⟨b, es, clock, h1, hle.blk _ _ h2, by rw [(hb _ _ h2).1]; exact h3, h4, fun i x e hx he => ⟨(h5 i x e hx he).1.mono hle, (h5 i x e hx he).2.mono hle⟩⟩
  | ar ka va ck cv L =>
    obtain ⟨h1, h2, h3⟩ := h
    refine ⟨by rw [har.1]; exact h1, by rw [har.1]; exact h2, fun j b l hj hl => ?_⟩
    rw [har.1] at hj
    obtain ⟨k1, es, clock, k2, k3, k4⟩ := h3 j b l hj hl
    obtain ⟨q1, q2⟩ := har.2 b (List.mem_of_getElem? hj)
    exact ⟨fun i => q2 i (k1 i), es, clock, by rw [q1]; exact k2, k3, fun i x e hx he => ⟨(k4 i x e hx he).1.mono hle, (k4 i x e hx he).2.mono hle⟩⟩
  | om A ka ck l =>
    obtain ⟨b, es, clock, h1, h2, h3, h4, h5⟩ := h
    exact ⟨b, es, clock, hle.hdr _ _ h1, hle.blk _ _ h2, by rw [(hb _ _ h2).1]; exact h3, h4, fun i x e hx he => ⟨(h5 i x e hx he).1.mono hle, (h5 i x e hx he).2.mono hle⟩⟩
structure Cx where
  w : World
  G : Nat → Prop
  gh : Array Value
structure BelowG (B : Nat) (G : Nat → Prop) (w w' : World) : Prop where
  os : w'.os = w.os
  tape : w'.tape = w.tape
  output : w'.output = w.output
  size : w.heap.size ≤ w'.heap.size
  block : ∀ k, k < B → ¬ G k → w'.heap[k]? = w.heap[k]?
theorem BelowG.refl (B : Nat) (G : Nat → Prop) (w : World) : BelowG B G w w := ⟨rfl, rfl, rfl, Nat.le_refl _, fun _ _ _ => rfl⟩
theorem BelowG.trans {B : Nat} {G : Nat → Prop} {a b c : World} (h : BelowG B G a b) (k : BelowG B G b c) : BelowG B G a c :=
  ⟨k.os.trans h.os, k.tape.trans h.tape, k.output.trans h.output, Nat.le_trans h.size k.size, fun i hi hg => (k.block i hi hg).trans (h.block i hi hg)⟩
theorem BelowG.below {B B' : Nat} {G : Nat → Prop} {a b c : World} (h : BelowG B G a b) (k : Below B' b c) (hB : B ≤ B') : BelowG B G a c :=
  ⟨k.os.trans h.os, k.tape.trans h.tape, k.output.trans h.output, Nat.le_trans h.size k.size, fun i hi hg => (k.block i (Nat.lt_of_lt_of_le hi hB)).trans (h.block i hi hg)⟩
structure RI (w0 : Cx) (R : Rl) (ob : Nat → Option (Obj U)) : Prop where
  nr : ∀ id, ob id = none → R.ar id = []
  lt : ∀ id b, b ∈ R.ar id → (w0.w.heap.size ≤ b ∨ w0.G b) ∧ b < R.w.heap.size
  sep : ∀ id b id' es, b ∈ R.ar id → R.blk id' ≠ some (b, es)
  inj : ∀ id id' b, b ∈ R.ar id → b ∈ R.ar id' → id = id'
  blt : ∀ id B es, R.blk id = some (B, es) → B < R.w.heap.size
theorem RI.of {w0 : Cx} {R R' : Rl} {ob ob' : Nat → Option (Obj U)} (h : RI w0 R ob) (hn : ∀ id, ob' id = none → ob id = none) (har : R'.ar = R.ar) (hs : R.w.heap.size ≤ R'.w.heap.size)
    (hb : ∀ id B es, R'.blk id = some (B, es) → (∃ id0 es0, R.blk id0 = some (B, es0)) ∨ (R.w.heap.size ≤ B ∧ B < R'.w.heap.size)) : RI w0 R' ob' := by
  refine ⟨fun id hi => by rw [har]; exact h.nr id (hn id hi), fun id b hm => ?_, fun id b id' es hm hbk => ?_, fun id id' b h1 h2 => ?_, fun id B es hbk => ?_⟩
  · rw [har] at hm
    exact ⟨(h.lt id b hm).1, Nat.lt_of_lt_of_le (h.lt id b hm).2 hs⟩
  · rw [har] at hm
    rcases hb id' b es hbk with ⟨id0, es0, h0⟩ | h0
    · exact h.sep id b id0 es0 hm h0
    · have := (h.lt id b hm).2; omega
  · rw [har] at h1 h2
    exact h.inj id id' b h1 h2
  · rcases hb id B es hbk with ⟨id0, es0, h0⟩ | h0
    · exact Nat.lt_of_lt_of_le (h.blt id0 B es0 h0) hs
    · exact h0.2
theorem RI.nil {w0 : Cx} {R : Rl} {ob : Nat → Option (Obj U)} (h : ∀ id, R.ar id = []) (hb : ∀ id B es, R.blk id = some (B, es) → B < R.w.heap.size) : RI w0 R ob :=
  ⟨fun id _ => h id, fun id b hm => (by rw [h] at hm; cases hm), fun id b _ _ hm => (by rw [h] at hm; cases hm), fun id _ b hm => (by rw [h] at hm; cases hm), hb⟩
structure SO (D : Codec U) (w0 : Cx) (N0 : Nat → Nat → Prop) (R : Rl) (ob : Nat → Option (Obj U)) : Prop where
  objs : ∀ id o, ob id = some o → OR D R id o
  none : ∀ id, ob id = none → R.blk id = none ∧ R.hdr id = none
  own : ∀ id o B es, ob id = some o → o.alive → R.blk id = some (B, es) → (o.whole → ∀ i, R.N B i) ∧ (w0.w.heap.size ≤ B ∨ w0.G B) ∧ B < R.w.heap.size
  inj : ∀ id id' o o' B es es', ob id = some o → ob id' = some o' → o.alive → o'.alive → R.blk id = some (B, es) → R.blk id' = some (B, es') → id = id'
  keep : BelowG w0.w.heap.size w0.G w0.w R.w
  le0 : ∀ B i, B < w0.w.heap.size → ¬ N0 B i → obs R.w B i = obs w0.w B i ∧ ¬ R.N B i
  nn : ∀ B i, B < w0.w.heap.size → ¬ w0.G B → N0 B i → R.N B i
  nlt : ∀ B i, R.N B i → B < R.w.heap.size
  ri : RI w0 R ob
def tv (a : Act) (gh : Array Value) (n : Nat) : Value := if n < gb then a.tmps.getD n undef else gh.getD (n - gb) undef
theorem tv_lt {a : Act} {gh : Array Value} {n : Nat} (h : n < gb) : tv a gh n = a.tmps.getD n undef := if_pos h
structure SR (D : Codec U) (nt : Nat) (w0 : Cx) (N0 : Nat → Nat → Prop) (R : Rl) (s : St U) (a : Act) : Prop extends toSO : SO D w0 N0 R (lk s.o) where
  size : a.tmps.size = nt
  defers : a.defers = []
  ntle : nt ≤ gb
  tm : ∀ n, VR D R (s.get n) (tv a w0.gh n)
theorem SO.le0' {D : Codec U} {w0 : Cx} {N0 : Nat → Nat → Prop} {R R' : Rl} {ob : Nat → Option (Obj U)} (h : SO D w0 N0 R ob) (hle : R.le R') :
    ∀ B i, B < w0.w.heap.size → ¬ N0 B i → obs R'.w B i = obs w0.w B i ∧ ¬ R'.N B i := fun B i hB hn => by
  obtain ⟨h1, h2⟩ := h.le0 B i hB hn
  obtain ⟨h3, h4⟩ := hle.keep B i (Nat.lt_of_lt_of_le hB h.keep.size) h2
  exact ⟨h3.trans h1, h4⟩
theorem blt_lt {n m : Nat} (h : Nat.blt n m = true) : n < m := Nat.lt_of_lt_of_le (Nat.lt_succ_self _) (Nat.le_of_ble_eq_true h)
theorem SR.op {D : Codec U} {nt : Nat} {w0 : Cx} {N0 : Nat → Nat → Prop} {R : Rl} {s : St U} {a : Act} (h : SR D nt w0 N0 R s a) (x : Operand) : VR D R (s.op x) (a.eval x) := by
  cases x with
  | tmp t =>
    show VR D R (bif Nat.blt t gb then s.get t else .undef) (a.tmps.getD t undef)
    cases hb : Nat.blt t gb with
    | false => exact .undef _
    | true =>
      have := h.tm t
      rw [tv_lt (blt_lt hb)] at this
      exact this
  | const v => exact .flat v
  | global g => exact .undef _
  | func f => exact .fn rfl (by simp)
theorem get_set (s : St U) (n m : Nat) (v : AV U) : (s.set n v).get m = if n = m then v else s.get m := by
  unfold St.get St.set
  simp only [lk]
  by_cases h : n = m
  · subst h; simp
  · have : Nat.beq n m = false := by cases hb : Nat.beq n m with | false => rfl | true => exact absurd (Nat.eq_of_beq_eq_true hb) h
    simp [this, h]
theorem tmps_put (a : Act) (d : Nat) (y : Value) (n : Nat) (hd : d < a.tmps.size) : (a.put (some d) y).tmps.getD n undef = if d = n then y else a.tmps.getD n undef := by
  simp only [Act.put, Array.getD_eq_getD_getElem?, Array.getElem?_setIfInBounds]
  by_cases h : d = n
  · subst h; simp [hd]
  · simp [h]
theorem tv_put (a : Act) (gh : Array Value) (d : Nat) (y : Value) (n : Nat) (hd : d < a.tmps.size) (hg : a.tmps.size ≤ gb) : tv (a.put (some d) y) gh n = if d = n then y else tv a gh n := by
  unfold tv
  by_cases h : n < gb
  · rw [if_pos h, if_pos h, tmps_put a d y n hd]
  · rw [if_neg h, if_neg h, if_neg (by omega)]
theorem SR.put {D : Codec U} {nt : Nat} {w0 : Cx} {N0 : Nat → Nat → Prop} {R : Rl} {s : St U} {a : Act} (h : SR D nt w0 N0 R s a) {dst : Option Tmp} (hd : ∀ d, dst = some d → d < nt)
    {v : AV U} {y : Value} (hv : VR D R v y) : SR D nt w0 N0 R (s.put dst v) (a.put dst y) := by
  cases dst with
  | none => exact h
  | some d =>
    refine { toSO := h.toSO, size := ?_, defers := ?_, ntle := h.ntle, tm := fun n => ?_ }
    · simp [Act.put, h.size]
    · exact h.defers
    · show VR D R ((s.set d v).get n) _
      rw [get_set, tv_put a _ d y n (by rw [h.size]; exact hd d rfl) (by rw [h.size]; exact h.ntle)]
      split
      · exact hv
      · exact h.tm n
theorem c1_of_cA {v : AV U} (h : cA v = true) : c1 v = true := by cases v <;> first | exact h | cases h
theorem c1_of_c0 {v : AV U} (h : c0 v = true) : c1 v = true := by cases v <;> first | exact h | cases h
theorem c1_of_cF {v : AV U} (h : cF v = true) : c1 v = true := by cases v <;> first | exact h | cases h
theorem packV_c0 {D : Codec U} (L : Lawful D) (g : Bool) (c : U.C) (x : U.El c) : c1 (packV g (D.enc c x)) = true := by
  unfold packV
  cases g with
  | true => exact List.all_eq_true.2 fun v hv => L.enc_c0 c x v hv
  | false =>
    simp only
    split
    · rename_i v hv
      exact c1_of_c0 (L.enc_c0 c x v (by rw [hv]; simp))
    · rfl
theorem VR.closed {D : Codec U} (L : Lawful D) {R R' : Rl} (hw : R'.w = R.w) (hn : ∀ B i, B < R.w.heap.size → R'.N B i → R.N B i) {x : AV U} {y : Value} (h : VR D R x y) : c1 x = true → VR D R' x y := by
  induction h with
  | undef u => exact fun _ => .undef u
  | flat v => exact fun _ => .flat v
  | ptr h => exact fun h => by cases h
  | el h => exact fun h => by cases h
  | pe h => exact fun h => by cases h
  | rp f hB hc hv ih =>
    exact fun hcl => .rp f (by rw [hw]; exact hB) (fun i x hx => ⟨by rw [hw]; exact (hc i x hx).1, fun h => (hc i x hx).2 (hn _ _ hB h)⟩)
      (fun i x hx => ih i x hx (c1_of_c0 (List.all_eq_true.mp hcl x (List.mem_of_getElem? hx))))
  | tip h hr ih => exact fun h => by cases h
  | vs h => exact fun h => by cases h
  | mp h => exact fun h => by cases h
  | smn => exact fun h => by cases h
  | sm h => exact fun h => by cases h
  | fmnil => exact fun _ => .fmnil
  | fm hB hm hN hs st hk hv ihk ihv =>
    exact fun _ => .fm (by rw [hw]; exact hB) (by rw [hw]; exact hm) (fun h => hN (hn _ _ hB h)) hs st (fun i x e hx he => ihk i x e hx he (packV_c0 L _ _ _)) (fun i x e hx he => ihv i x e hx he (packV_c0 L _ _ _))
  | fmp hp hn h ih => exact fun _ => .fmp hp hn (ih rfl)
  | rownil => exact fun _ => .rownil
  | nrow h ih => exact fun h => by cases h
  | row f hB hl hc hv ih =>
    exact fun _ => .row f (by rw [hw]; exact hB) hl (fun i x hx j v hj => ⟨by rw [hw]; exact (hc i x hx j v hj).1, fun h => (hc i x hx j v hj).2 (hn _ _ hB h)⟩)
      (fun i x hx j v hj => ih i x hx j v hj (c1_of_c0 (L.enc_c0 _ x v (List.mem_of_getElem? hj))))
  | agg hl hv ih => exact fun hc => .agg hl (fun i x y hx hy => ih i x y hx hy (c1_of_c0 (List.all_eq_true.mp hc x (List.mem_of_getElem? hx))))
  | tup hl hv ih => exact fun hc => .tup hl (fun i x y hx hy => ih i x y hx hy (c1_of_cA (List.all_eq_true.mp hc x (List.mem_of_getElem? hx))))
  | fn hl hv ih => exact fun hc => .fn hl (fun i x y hx hy => ih i x y hx hy (c1_of_cF (List.all_eq_true.mp hc x (List.mem_of_getElem? hx))))
def keepC (mo : List (Nat × Obj U)) (v : AV U) : Bool := c0 v || (match v with
  | .ptr id _ => (match lk mo id with | some (.lit _) | some (.arr ..) | some .dead => true | _ => false)
  | .tip id _ _ => (match lk mo id with | some (.tip _) => true | _ => false)
  | .vs id => (match lk mo id with | some (.vec ..) => true | _ => false)
  | .mp id => (match lk mo id with | some (.map ..) | some .dead => true | some (.om ..) => true | _ => false)
  | .sm A _ => (lk mo A).isSome
  | _ => false)
def keepA (mo : List (Nat × Obj U)) (v : AV U) : Bool := c1 v || (match v with | .agg xs => xs.all (keepC mo) | v => keepC mo v)
def keepV (mo : List (Nat × Obj U)) (v : AV U) : Bool := keepA mo v || (match v with | .tup xs => xs.all (keepA mo) | _ => false)
def keepOk (m : St U) : Bool :=
  (m.t.all fun p => keepV m.o p.2) &&
  (m.o.all fun p => match p.2 with | .lit cs => cs.all (keepC m.o) | .arr .. => true | .tip _ => true | .vec .. => true | .map .. => true | .dead => true | .ar .. => true | .om A _ _ _ => (lk m.o A).isSome)
def AV.plainV (m : AV U) : Bool := c1 m || (match m with | .ptr _ _ => true | .sm _ _ => true | _ => false)
def FV0 (ren : List (Nat × Option Nat)) (v m : AV U) : Prop :=
  (m = v.drop ∧ m.plainV = true) ∨ (∃ c, m = .row c [] ∧ v = .flat (.slice none 0 0)) ∨
    (∃ cid c l, m = .tip cid c l ∧ ((∃ aid, v = .tip aid c l ∧ lk ren cid = some (some aid)) ∨ (l = [] ∧ v = .flat (.slice none 0 0) ∧ lk ren cid = some none))) ∨
    (∃ cid, m = .vs cid ∧ ((∃ aid, v = .vs aid ∧ lk ren cid = some (some aid)) ∨ (v = .flat (.slice none 0 0) ∧ lk ren cid = some none))) ∨
    ∃ cid, m = .mp cid ∧ ((∃ aid, v = .mp aid ∧ lk ren cid = some (some aid)) ∨ (v = .flat (.map none) ∧ lk ren cid = some none))
def FVA (ren : List (Nat × Option Nat)) (v m : AV U) : Prop :=
  FV0 ren v m ∨ ∃ xs ys, v = .agg xs ∧ m = .agg ys ∧ xs.length = ys.length ∧ ∀ (i : Nat) (a b : AV U), xs[i]? = some a → ys[i]? = some b → FV0 ren a b
def FV (ren : List (Nat × Option Nat)) (v m : AV U) : Prop :=
  FVA ren v m ∨ ∃ xs ys, v = .tup xs ∧ m = .tup ys ∧ xs.length = ys.length ∧ ∀ (i : Nat) (a b : AV U), xs[i]? = some a → ys[i]? = some b → FVA ren a b
def FO (ren : List (Nat × Option Nat)) (s : St U) (id : Nat) : Obj U → Prop
  | .tip sz => ∃ a, lk ren id = some a ∧ ∀ aid, a = some aid → lk s.o aid = some (.tip sz)
  | .vec c l => ∃ a, lk ren id = some a ∧ (∀ aid, a = some aid → lk s.o aid = some (.vec c l)) ∧ (a = none → l = [])
  | .map w ka va ck cv l => ∃ a, lk ren id = some a ∧ (∀ aid, a = some aid → ∃ w', lk s.o aid = some (.map w' ka va ck cv l) ∧ (w = true → w' = true)) ∧ (a = none → l = [] ∧ w = false)
  | .lit cs => ∃ cs' : List (AV U), lk s.o id = some (.lit cs') ∧ cs'.length = cs.length ∧ ∀ (i : Nat) (v w : AV U), cs'[i]? = some v → cs[i]? = some w → FV0 ren v w
  | .dead => lk s.o id = some .dead ∧ lk ren id = some (some id)
  | .om A ka ck l => ∃ aid, lk ren id = some (some aid) ∧ lk s.o aid = some (.om A ka ck l)
  | o => lk s.o id = some o
def Fits (s m : St U) : Prop := (∃ ren : List (Nat × Option Nat), (∀ p ∈ m.t, FV ren (s.get p.1) p.2) ∧ (∀ p ∈ m.o, FO ren s p.1 p.2) ∧
  ∀ c c' a, lk ren c = some (some a) → lk ren c' = some (some a) → c = c') ∧ keepOk m = true
def FitsO : Out U → Out U → Prop
  | .norm s, .norm m => Fits s m
  | .exit id s, .exit id' m => id = id' ∧ Fits s m
  | .ret s, .ret m => Fits s m
  | _, _ => False
end Go.Ev
