import Derived.Test.YtgfbcclfajcjnaaEvLaw
import Derived.ChangeArms
import Derived.OpenShut
import Derived.SizedLaws
import Derived.ChangeShapes
import Derived.WideShapes
/-! A law's inputs, of whatever shape: what a row hands in, as plain data. -/
universe u
namespace Go.Ev
set_option linter.unusedVariables false
set_option linter.unusedSimpArgs false
open Go.ChangeShapes Go.WideShapes
variable {U : Univ} {H : Type} {enc : TypeId × Value → H} {P : Program} {W : World} {base : Nat} {spare : Nat → Bool} {held : Bool} {D : Codec U} {α β : Type}

def CellsR (D : Codec U) (W : World) (as : List (AV U)) (cs : List Value) : Prop :=
  as.length = cs.length ∧ ∀ (i : Nat) (a : AV U) (v : Value), as[i]? = some a → cs[i]? = some v → VR D (rl0 W) a v

theorem CellsR.one {a : AV U} {v : Value} (h : VR D (rl0 W) a v) : CellsR D W [a] [v] := by
  refine ⟨rfl, fun i b w hb hw => ?_⟩
  cases i with
  | zero => simp at hb hw; subst hb; subst hw; exact h
  | succ i => simp at hb
theorem CellsR.nil : CellsR D W ([] : List (AV U)) [] := ⟨rfl, fun i b w hb _ => by simp at hb⟩
theorem CellsR.app {as bs : List (AV U)} {cs ds : List Value} (h : CellsR D W as cs) (h' : CellsR D W bs ds) : CellsR D W (as ++ bs) (cs ++ ds) := by
  refine ⟨by simp [h.1, h'.1], fun i a v ha hv => ?_⟩
  by_cases hi : i < as.length
  · rw [List.getElem?_append_left hi] at ha
    rw [List.getElem?_append_left (by rw [← h.1]; exact hi)] at hv
    exact h.2 i a v ha hv
  · rw [List.getElem?_append_right (by omega)] at ha
    rw [List.getElem?_append_right (by rw [← h.1]; omega), ← h.1] at hv
    exact h'.2 _ a v ha hv

end Go.Ev
