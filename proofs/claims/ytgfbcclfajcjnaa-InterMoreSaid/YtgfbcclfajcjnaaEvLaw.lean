import Derived.Test.YtgfbcclfajcjnaaEvZ
universe u
namespace Go.Ev
set_option linter.unusedVariables false
set_option linter.unusedSimpArgs false
open Go.RowKit (Below)
variable {U : Univ}
def rl0 (w : World) : Rl := { w := w, N := fun _ _ => False, blk := fun _ => none, hdr := fun _ => none, ar := fun _ => [] }
inductive VRs (D : Codec U) (R : Rl) : List (AV U) → List Value → Prop
  | nil : VRs D R [] []
  | cons {a : AV U} {v : Value} {l : List (AV U)} {vs : List Value} (h : VR D R a v) (t : VRs D R l vs) : VRs D R (a :: l) (v :: vs)
theorem VRs.len {D : Codec U} {R : Rl} {l : List (AV U)} {vs : List Value} (h : VRs D R l vs) : l.length = vs.length := by
  induction h with
  | nil => rfl
  | cons _ _ ih => simp [ih]
theorem VRs.get {D : Codec U} {R : Rl} {l : List (AV U)} {vs : List Value} (h : VRs D R l vs) : ∀ (i : Nat) (a : AV U) (v : Value), l[i]? = some a → vs[i]? = some v → VR D R a v := by
  induction h with
  | nil => intro i a v h _; simp at h
  | cons h _ ih =>
    intro i a v ha hv
    cases i with
    | zero => simp at ha hv; subst ha; subst hv; exact h
    | succ i => exact ih i a v (by simpa using ha) (by simpa using hv)
theorem law_true {P : Program} {D : Codec U} (L : Lawful D) {f : FuncId} {d : FDen U} (h : Sound P D f d) {x : d.X} {y : d.Y} {args : List (AV U)} {vs : List Value} {W : World} (hun : d.un ⟨startT args 0, []⟩ = some x) (hf : d.f x = some y)
    (hy : (d.fin y).get 0 = .flat (.bool true)) (hcl : args.all c1 = true) (hsz : Nat.ble args.length d.nt = true) (hv : VRs D (rl0 W) args vs) : Calls P f ⟨vs⟩ W fun e W' => e = .returned (.bool true) ∧ Below W.heap.size W W' := by
  have hl : args.length = (⟨vs⟩ : Array Value).size := by simpa using hv.len
  have hsz' : (⟨vs⟩ : Array Value).size ≤ d.nt := by rw [← hl]; exact Nat.le_of_ble_eq_true hsz
  refine (h.2 ⟨startT args 0, []⟩ x y hun hf ⟨W, fun _ => False, ⟨vs⟩⟩ (rl0 W) ⟨vs⟩ rfl rfl hsz'
    (sr_start L (R := rl0 W) (fun _ _ h => h.elim) hl (fun i a v ha hv' => hv.get i a v ha (by simpa using hv')) hcl hsz' h.1)).mono ?_
  rintro e W' ⟨v, R', rfl, rfl, hs'⟩
  have hvr : VR D R' ((d.fin y).get 0) v := by
    have := hs'.tm 0
    rw [tv_lt (by unfold gb; omega)] at this
    exact this
  rw [hy] at hvr
  rw [hvr.flat_inv]
  exact ⟨rfl, hs'.keep.os, hs'.keep.tape, hs'.keep.output, hs'.keep.size, fun k hk => hs'.keep.block k hk (fun h => h)⟩
theorem add_mk (B o i : Nat) : (⟨B, o, none⟩ : Addr).add i = ⟨B, o + i, none⟩ := by
  unfold Addr.add
  split
  · rename_i h; rw [h]; rfl
  · rfl
end Go.Ev
