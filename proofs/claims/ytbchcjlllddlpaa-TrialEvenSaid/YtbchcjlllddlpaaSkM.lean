import Derived.Test.YtbchcjlllddlpaaEvRd
import Derived.Maps.RangeWalk
import Derived.Maps.OwnSet
import Derived.Deep.LoopGhost
import Derived.WalkKit
import Derived.Laws.IdiomRangeMap
import Derived.Handy
import Derived.Test.YtbchcjlllddlpaaProg
namespace Go.Proofs.Ytbchcjlllddlpaa
open Go Go.Ev Go.RowKit Go.Maps
set_option linter.unusedVariables false
set_option linter.unusedSimpArgs false
theorem at_world {P : Program} {g : FuncId} {args : Array Value} {W : World} {K : Ending → World → Prop} (h : ∀ W', W' = W → Calls P g args W' K) : Calls P g args W K := h W rfl
theorem two_of {zs : Array Value} (h : zs.size = 2) : ∃ x y, zs = #[x, y] := by
  obtain ⟨l⟩ := zs
  match l, h with
  | [x, y], _ => exact ⟨x, y, rfl⟩
theorem four_of {zs : Array Value} (h : zs.size = 4) : ∃ x y z u, zs = #[x, y, z, u] := by
  obtain ⟨l⟩ := zs
  match l, h with
  | [x, y, z, u], _ => exact ⟨x, y, z, u, rfl⟩
set_option maxRecDepth 100000 in
set_option maxHeartbeats 4000000 in
theorem del34_ok {U : Wdr} (D : Wbf U) : SfOk Try.prog D 34 (.del 40 2 4) := by
  intro w b es clock g pd hb st hsh eg0 hg hf
  have HG : Aside _ := hg
  have HF : Aside _ := hf
  have EG : Aside _ := eg0
  have SH : Aside _ := hsh
  clear hg hf eg0 hsh
  go_enter Try.func34, Try.ntmps34
  go_wp2_with (first
    | (at_range; refine Wyu rfl _ 30 rfl 40 37 Try.underlying30 b rfl hb st pd ?_; intro w0 hrg0 hg0 hs0)
    | go_in)
  go_frame
  go_loopw [8] (fun _ wr => ∃ got, Rdg wr b w.heap.size es clock pd got got ∧ w.grownBy wr (some b))
    (fun _ wr => wr.rangeLeft b w.heap.size)
  case atStart => exact ⟨_, hrg0, hg0.but _⟩
  case round =>
    obtain ⟨got, hrg, hgw⟩ := hrel
    go_wp2_with (first
      | (at_next; refine Qcm rfl _ rfl b w.heap.size rfl hrg ?_ ?_)
      | go_in)
    ·
      intro hd
      go_wp2
      go_end0
      exact ⟨⟨_, rfl⟩, hgw, hd.out⟩
    ·
      intro k v bo w1 hcm hen
      obtain ⟨hem, hrg1, hlt, hg1, _⟩ := hcm
      have hgw1 := hgw.andThen hg1 (fun j hj => by cases hj; exact Or.inl (Nat.le_refl _))
      rename_i hs9
      clear hs9
      have eg := EG.out (fun h => by rw [h] at hem; cases hem)
      obtain ⟨xs, ys, e1, l1, o1, e2, l2, o2⟩ := SH.out _ hem
      simp only at e1 e2
      subst e1
      subst e2
      obtain ⟨x0, x1, rfl⟩ := two_of l1
      obtain ⟨y0, y1, y2, y3, rfl⟩ := four_of l2
      have sx0 : ∀ a m w, (store a x0 m).run Try.prog w = stored Try.prog w a x0 m := fun a m w => run_store Try.prog w a x0 m (o1 x0 (by simp))
      have sx1 : ∀ a m w, (store a x1 m).run Try.prog w = stored Try.prog w a x1 m := fun a m w => run_store Try.prog w a x1 m (o1 x1 (by simp))
      have sy0 : ∀ a m w, (store a y0 m).run Try.prog w = stored Try.prog w a y0 m := fun a m w => run_store Try.prog w a y0 m (o2 y0 (by simp))
      have sy1 : ∀ a m w, (store a y1 m).run Try.prog w = stored Try.prog w a y1 m := fun a m w => run_store Try.prog w a y1 m (o2 y1 (by simp))
      have sy2 : ∀ a m w, (store a y2 m).run Try.prog w = stored Try.prog w a y2 m := fun a m w => run_store Try.prog w a y2 m (o2 y2 (by simp))
      have sy3 : ∀ a m w, (store a y3 m).run Try.prog w = stored Try.prog w a y3 m := fun a m w => run_store Try.prog w a y3 m (o2 y3 (by simp))
      clear o1 o2 l1 l2
      go_wp2_with fail
      refine at_world fun W hW => ?_
      have hWg : w1.grownBy W none := by
        have hB : Below w1.heap.size w1 W := by
          rw [hW]
          go_grown
        exact ⟨hB.os, hB.tape, hB.output, hB.size, fun k hk _ => hB.block k hk⟩
      have c0 : W.cell? ⟨w1.heap.size, 0, none⟩ = some x0 := by
        rw [hW]
        go_cell
      have c1 : W.cell? ⟨w1.heap.size, 1, none⟩ = some x1 := by
        rw [hW]
        go_cell
      clear hW sx0 sx1 sy0 sy1 sy2 sy3 hen
      have hgw2 := hgw1.andThen hWg (fun j hj => by cases hj)
      have hrg2 := hrg1.kept hWg
      refine Calls.mono (HG.out W hgw2 _ hem) ?_
      rintro e w2 ⟨rfl, hg2⟩
      have hgw3 := hgw2.andThen hg2 (fun j hj => by cases hj)
      have hrg3 := hrg2.kept hg2
      have hf3 := HF.out w2 hgw3 _ hem
      have d0 := hg2.cell c0 (by simp)
      have d1 := hg2.cell c1 (by simp)
      clear c0 c1
      cases hp : pd ⟨.agg #[x0, x1], .agg #[y0, y1, y2, y3], bo⟩ with
      | false =>
        have hrg4 := hrg3.stay hem hp
        go_wp2
        go_roundw
        case rel => exact ⟨_, hrg4, hgw3⟩
        case measure => rw [hrg4.left, hrg.left]; exact hlt
      | true =>
        go_wp2_with (first
          | (at_delete; refine Wvq rfl _ _ 30 40 rfl 37 Try.underlying30 b w.heap.size ⟨.agg #[x0, x1], .agg #[y0, y1, y2, y3], bo⟩ hrg3 hem hp rfl rfl hf3.1 hf3.2 ?_; intro w3 hrg4 hg3; go_frame)
          | go_in)
        go_roundw
        case rel => exact ⟨_, hrg4, hgw3.andThen hg3 (fun j hj => by cases hj; exact Or.inr rfl)⟩
        case measure => rw [hrg4.left, hrg.left]; exact hlt
end Go.Proofs.Ytbchcjlllddlpaa
