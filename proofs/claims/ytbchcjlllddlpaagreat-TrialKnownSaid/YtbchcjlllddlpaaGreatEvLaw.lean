import Derived.Test.YtbchcjlllddlpaaGreatEvZ
/-! From a told law to what a row asks: its arguments, and that it returns true. -/
universe u
namespace Go.Ev
set_option linter.unusedVariables false
set_option linter.unusedSimpArgs false
open Go.RowKit (Below)
variable {U : Univ}

/-- A world alone: no frame owns a thing in it. -/
def rl0 (w : World) : Rl := { w := w, N := fun _ _ => False, blk := fun _ => none, hdr := fun _ => none }

inductive VRs (D : Codec U) (R : Rl) : List (AV U) → List Value → Prop
  | nil : VRs D R [] []
  | cons {a : AV U} {v : Value} {l : List (AV U)} {vs : List Value} (h : VR D R a v) (t : VRs D R l vs) : VRs D R (a :: l) (v :: vs)

theorem VRs.len {D : Codec U} {R : Rl} {l : List (AV U)} {vs : List Value} (h : VRs D R l vs) : l.length = vs.length := by
  induction h with
  | nil => rfl
  | cons _ _ ih => simp [ih]

theorem VRs.get {D : Codec U} {R : Rl} {l : List (AV U)} {vs : List Value} (h : VRs D R l vs) : ∀ (i : Nat) (a : AV U) (v : Value), l[i]? = some a → vs[i]? = some v → VR D R a v := by
  induction h with
  | nil => intro i a v h _; simp at h
  | cons h _ ih =>
    intro i a v ha hv
    cases i with
    | zero => simp at ha hv; subst ha; subst hv; exact h
    | succ i => exact ih i a v (by simpa using ha) (by simpa using hv)

theorem law_true {P : Program} {D : Codec U} (L : Lawful D) {f : FuncId} {d : FDen U} (h : Sound P D f d) {x : d.X} {y : d.Y} {args : List (AV U)} {vs : List Value} {W : World} (hun : d.un ⟨startT args 0, []⟩ = some x) (hf : d.f x = some y)
    (hy : (d.fin y).get 0 = .flat (.bool true)) (hcl : args.all c1 = true) (hsz : Nat.ble args.length d.nt = true) (hv : VRs D (rl0 W) args vs) : Calls P f ⟨vs⟩ W fun e W' => e = .returned (.bool true) ∧ Below W.heap.size W W' := by
  have hl : args.length = (⟨vs⟩ : Array Value).size := by simpa using hv.len
  have hsz' : (⟨vs⟩ : Array Value).size ≤ d.nt := by rw [← hl]; exact Nat.le_of_ble_eq_true hsz
  refine (h.2 ⟨startT args 0, []⟩ x y hun hf ⟨W, fun _ => False, ⟨vs⟩⟩ (rl0 W) ⟨vs⟩ rfl rfl hsz'
    (sr_start L (R := rl0 W) (fun _ _ h => h.elim) hl (fun i a v ha hv' => hv.get i a v ha (by simpa using hv')) hcl hsz' h.1)).mono ?_
  rintro e W' ⟨v, R', rfl, rfl, hs'⟩
  have hvr : VR D R' ((d.fin y).get 0) v := by
    have := hs'.tm 0
    rw [tv_lt (by unfold gb; omega)] at this
    exact this
  rw [hy] at hvr
  rw [hvr.flat_inv]
  exact ⟨rfl, hs'.keep.os, hs'.keep.tape, hs'.keep.output, hs'.keep.size, fun k hk => hs'.keep.block k hk (fun h => h)⟩

theorem add_mk (B o i : Nat) : (⟨B, o, none⟩ : Addr).add i = ⟨B, o + i, none⟩ := by
  unfold Addr.add
  split
  · rename_i h; rw [h]; rfl
  · rfl

/-- A slice whose elements are one cell each, as a row. -/
theorem VR.ones {D : Codec U} {W : World} {c : U.C} (f : U.El c → Value) (hsz : D.size c = 1) (henc : ∀ x, D.enc c x = [.flat (f x)]) {x : Addr} {len cap : Nat} {zs : List (U.El c)} (hlc : len ≤ cap) (hz : len ≤ zs.length)
    (hcell : ∀ (i : Nat) (z : U.El c), zs[i]? = some z → W.cell? (x.add i) = some (f z)) : VR D (rl0 W) (.row c (zs.take len)) (.slice (some x) len cap) := by
  by_cases h0 : len = 0
  · subst h0
    exact .rownil
  have hlen : (zs.take len).length = len := by simp; omega
  have hx0 : x.spot = none ∧ x.block < W.heap.size := by
    have hg : zs[0]? = some (zs[0]'(by omega)) := List.getElem?_eq_getElem (by omega)
    have := hcell 0 _ hg
    simp only [Addr.add, if_true] at this
    unfold World.cell? at this
    split at this
    · rename_i cs _ _ hb
      refine ⟨?_, (Array.getElem?_eq_some_iff.1 hb).1⟩
      cases hs : x.spot with
      | none => rfl
      | some _ => simp [hs] at this
    · cases this
  obtain ⟨B, o, sp⟩ := x
  obtain ⟨rfl, hB⟩ := hx0
  have := VR.row (D := D) (R := rl0 W) (c := c) (l := zs.take len) (B := B) (o := o) (cap := cap) (fun i _ => match zs[i]? with | some z => f z | none => Go.undef) hB (by omega)
    (fun i z hz j v hv => by
      rw [henc] at hv
      have hi : i < len := by have := (List.getElem?_eq_some_iff.1 hz).1; omega
      rw [List.getElem?_take_of_lt hi] at hz
      cases j with
      | succ j => simp at hv
      | zero =>
        have := hcell i z hz
        rw [add_mk] at this
        simp only [hz, hsz, Nat.mul_one, Nat.add_zero]
        exact ⟨this, fun h => h⟩)
    (fun i z hz j v hv => by
      rw [henc] at hv
      have hi : i < len := by have := (List.getElem?_eq_some_iff.1 hz).1; omega
      rw [List.getElem?_take_of_lt hi] at hz
      cases j with
      | succ j => simp at hv
      | zero =>
        simp at hv
        subst hv
        simp only [hz]
        exact .flat _)
  rw [hlen] at this
  exact this
end Go.Ev
