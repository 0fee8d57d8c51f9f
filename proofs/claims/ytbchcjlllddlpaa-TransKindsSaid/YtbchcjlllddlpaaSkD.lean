import Derived.Test.YtbchcjlllddlpaaSkC
import Derived.Shelf.SlSortCmp.WholeK
import Derived.Lib.Small
import Derived.Lib.Walk
import Derived.StillTailTactics
/-! The keys' comparison, number by number. -/
namespace Go.Proofs.Ytbchcjlllddlpaa
open Go Go.Ev Go.RowKit Go.Lib Go.Sort
set_option linter.unusedVariables false
set_option linter.unusedSimpArgs false
theorem nan136_in (x : Int) (w : World) : Calls Try.prog 136 #[.int .i64 x] w fun e w' => e = .returned (.bool false) ∧ w' = w := by
  go_enter Try.func136, Try.ntmps136
  go_wp2
  go_ret
  exact ⟨by simp, rfl⟩
set_option maxHeartbeats 1000000 in
theorem compare120_in (x y : Int) (w : World) : Calls Try.prog 120 #[.int .i64 x, .int .i64 y] w fun e w' => e = .returned (.int .i64 (Lib.compareInt x y)) ∧ w' = w := by
  have e7 : ∀ args w, (callFunc 136 args).run Try.prog w = .ok (.enter 136 args) w := enters_of Try.func136 (by kernel_rfl) rfl
  go_enter Try.func120, Try.ntmps120
  go_wp2_with (go_at_call 136; refine (nan136_in _ _).mono ?_; rintro e w' ⟨rfl, hw⟩; rw [hw])
  all_goals (go_ret; refine ⟨?_, rfl⟩; unfold Lib.compareInt; (repeat' split) <;> first | rfl | (exfalso; omega))
/-- By the first number, then the second. -/
def cmpA (x y : Int × Int) : Int := if Lib.compareInt x.1 y.1 = 0 then Lib.compareInt x.2 y.2 else Lib.compareInt x.1 y.1
set_option maxRecDepth 100000 in
set_option maxHeartbeats 2000000 in
theorem rows92_in (x y : Int × Int) (B C : Nat) (w : World) (x0 : w.cell? ⟨B, 0, none⟩ = some (.int .i64 x.1)) (x1 : w.cell? ⟨B, 1, none⟩ = some (.int .i64 x.2)) (y0 : w.cell? ⟨C, 0, none⟩ = some (.int .i64 y.1)) (y1 : w.cell? ⟨C, 1, none⟩ = some (.int .i64 y.2)) :
    Calls Try.prog 92 #[.slice (some ⟨B, 0, none⟩) 2 2, .slice (some ⟨C, 0, none⟩) 2 2] w fun e w' => e = .returned (.int .i64 (cmpA x y)) ∧ w' = w := by
  have e1 : ∀ args w, (callFunc 120 args).run Try.prog w = .ok (.enter 120 args) w := enters_of Try.func120 (by kernel_rfl) rfl
  unfold cmpA
  have hc1 := fun W' => compare120_in x.1 y.1 W'
  have hc2 := fun W' => compare120_in x.2 y.2 W'
  generalize Lib.compareInt x.1 y.1 = r1 at hc1 ⊢
  generalize Lib.compareInt x.2 y.2 = r2 at hc2 ⊢
  obtain ⟨r, hr⟩ : ∃ r, (if r1 = 0 then r2 else r1) = r := ⟨_, rfl⟩
  rw [hr]
  go_enter Try.func92, Try.ntmps92
  go_wp2
  refine wp_loop_rounds 3 ?_
  rw [rounds_succ]
  go_wp2_with (go_at_call 120; refine (hc1 _).mono ?_; rintro e w' ⟨rfl, hw⟩; rw [hw])
  · rename_i hx
    go_ret
    exact ⟨by rw [← hr, if_neg (by simpa using hx)]; rfl, rfl⟩
  · rename_i hx
    have hx0 : r1 = 0 := by simpa using hx
    rw [if_pos hx0] at hr
    rw [rounds_succ]
    go_wp2_with (go_at_call 120; refine (hc2 _).mono ?_; rintro e w' ⟨rfl, hw⟩; rw [hw])
    · go_ret
      exact ⟨by rw [← hr]; rfl, rfl⟩
    · rename_i hy
      have hy0 : r2 = 0 := by simp at hy; omega
      rw [rounds_succ]
      go_wp2
      go_ret
      exact ⟨by rw [← hr, hy0]; rfl, rfl⟩
set_option maxRecDepth 100000 in
set_option maxHeartbeats 4000000 in
theorem key91_in (x y : Int × Int) (W : World) : Calls Try.prog 91 #[.agg #[.int .i64 x.1, .int .i64 x.2], .agg #[.int .i64 y.1, .int .i64 y.2]] W fun e w' => e = .returned (.int .i64 (cmpA x y)) ∧ ∃ q os', w' = grow (W.drewN q) os' := by
  have e2 : ∀ args w, (callFunc 92 args).run Try.prog w = .ok (.enter 92 args) w := enters_of Try.func92 (by kernel_rfl) rfl
  have ho := fun B C W' => rows92_in x y B C W'
  generalize cmpA x y = r at ho ⊢
  go_enter Try.func91, Try.ntmps91
  go_wp2
  obtain ⟨W1, hW1⟩ : ∃ W1, (W.alloc (.cells #[.int .i64 x.1, .int .i64 x.2] 40)).alloc (.cells #[.int .i64 y.1, .int .i64 y.2] 40) = W1 := ⟨_, rfl⟩
  have hx : W1.heap[W.heap.size]? = some (.cells #[.int .i64 x.1, .int .i64 x.2] 40 (0, 0)) := by
    rw [← hW1]; exact (Below.heap_alloc _ _ _ (by simp)).trans (World.alloc_heap_new W _)
  have hy : W1.heap[W.heap.size + 1]? = some (.cells #[.int .i64 y.1, .int .i64 y.2] 40 (0, 0)) := by
    rw [← hW1]; have := World.alloc_heap_new (W.alloc (.cells #[.int .i64 x.1, .int .i64 x.2] 40)) (.cells #[.int .i64 y.1, .int .i64 y.2] 40); rwa [World.size_alloc] at this
  have hx0 : W1.cell? ⟨W.heap.size, 0, none⟩ = some (.int .i64 x.1) := by unfold World.cell?; rw [hx]; rfl
  have hx1 : W1.cell? ⟨W.heap.size, 1, none⟩ = some (.int .i64 x.2) := by unfold World.cell?; rw [hx]; rfl
  have hy0 : W1.cell? ⟨W.heap.size + 1, 0, none⟩ = some (.int .i64 y.1) := by unfold World.cell?; rw [hy]; rfl
  have hy1 : W1.cell? ⟨W.heap.size + 1, 1, none⟩ = some (.int .i64 y.2) := by unfold World.cell?; rw [hy]; rfl
  have hg : W1 = grow W #[.cells #[.int .i64 x.1, .int .i64 x.2] 40, .cells #[.int .i64 y.1, .int .i64 y.2] 40] := by rw [← hW1, alloc_eq_grow, alloc_eq_grow, grow_grow]; rfl
  rw [hW1]
  clear hx hy hW1
  obtain ⟨W2, hW2⟩ : ∃ W2 : World, { W1 with drawn := W1.drawn + 1 } = W2 := ⟨_, rfl⟩
  have zx0 : W2.cell? ⟨W.heap.size, 0, none⟩ = some (.int .i64 x.1) := by rw [← hW2]; exact hx0
  have zx1 : W2.cell? ⟨W.heap.size, 1, none⟩ = some (.int .i64 x.2) := by rw [← hW2]; exact hx1
  have zy0 : W2.cell? ⟨W.heap.size + 1, 0, none⟩ = some (.int .i64 y.1) := by rw [← hW2]; exact hy0
  have zy1 : W2.cell? ⟨W.heap.size + 1, 1, none⟩ = some (.int .i64 y.2) := by rw [← hW2]; exact hy1
  refine wp_region_still_tail 2 (by kernel_rfl) (by kernel_rfl) ?_
  simp only [List.take_succ_cons, List.take_zero, List.drop_succ_cons, List.drop_zero]
  rw [hW2]
  still_step
  still_step
  refine wpStill_nil ?_
  go_wp2_with (go_at_call 92; refine (ho _ _ W2 zx0 zx1 zy0 zy1).mono ?_; rintro e w' ⟨rfl, hw⟩; rw [hw])
  go_ret
  exact ⟨rfl, 1, _, by rw [← hW2, hg]; rfl⟩
theorem ltA (x y : Int × Int) : ltOf cmpA x y = decide (x.1 < y.1 ∨ (x.1 = y.1 ∧ x.2 < y.2)) := by
  unfold ltOf cmpA Lib.compareInt
  by_cases h1 : x.1 < y.1
  · simp [h1]
  · by_cases h2 : y.1 < x.1
    · have : ¬ x.1 = y.1 := by omega
      simp [h1, h2, this]
    · have : x.1 = y.1 := by omega
      by_cases h3 : x.2 < y.2
      · simp [this, h3]
      · by_cases h4 : y.2 < x.2 <;> simp [this, h3, h4]
theorem swoA : SWO (ltOf cmpA) where
  irrefl x := by rw [ltA]; simp
  trans x y z h1 h2 := by rw [ltA] at *; simp at *; omega
  ntrans x y z h1 h2 := by rw [ltA] at *; simp at *; omega
theorem cmpLays91 (blk off size : Nat) (w : World) : CmpLays Try.prog 91 #[] cellsA 2 cmpA blk off size w := fun _ _ _ _ x y => key91_in x y _
end Go.Proofs.Ytbchcjlllddlpaa
