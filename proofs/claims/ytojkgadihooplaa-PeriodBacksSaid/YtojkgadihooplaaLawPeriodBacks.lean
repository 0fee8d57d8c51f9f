/- PeriodBacks: for every input the law returns true, and each argument reads behind the call as it read before. No conditions. -/
import Derived.Test.YtojkgadihooplaaRows
import Derived.Test.YtojkgadihooplaaEvIn
import Derived.Test.YtojkgadihooplaaF2
import Derived.Test.YtojkgadihooplaaPurePeriodBacks
import Derived.WalkKit
import Derived.ProofKit
import Derived.OpenShut
import Derived.ShutString
import Derived.ChangeOld
import Derived.Below
import Derived.SizedLaws
namespace Go.Proofs.Ytojkgadihooplaa.periodBacks
open Go.ChangeShapes Go.WideShapes Go.ChangeAt Go.RowKit Go.Ev
open Go.ChangeMaps (open_string shut_string)
set_option linter.unusedVariables false
theorem own : ownKnob Try.prog.godebug = none := by kernel_rfl
theorem laidOut : laidOutB Try.prog = true := by kernel_rfl
set_option maxRecDepth 100000 in
theorem lifted (os : Os) (started : os.Started) (H : Type) (enc : TypeId × Value → H) :
    ReturnsInHanded {} Try.checked os 8 .any (Rows.periodBacksSpec.pre6 enc Try.prog Try.f8 Rows.periodBacksRow.domain false) (Rows.periodBacksSpec.post enc Try.prog Try.f8 false true false false) := by
  refine returnsInHanded_of_change_sized (C := Try.checked) own started (by kernel_rfl) Try.func8
    (ChangeSpec.witness6 (enc := enc) (C := Try.checked) false ⟨#[], #[.int .i64 0, .agg #[.int .i64 0, .int .i64 0, .int .i64 0, .int .i64 0, .int .i64 0, .int .i64 0, .int .i64 0, .int .i64 0, .int .i64 0, .int .i64 0, .int .i64 0, .int .i64 0], .int .i64 0], []⟩ 8 (by kernel_rfl) (by kernel_rfl) (by kernel_rfl) (by kernel_rfl)) ?_
  intro W base args ds gs before hval0 hW hcnd hsz0 _
  have hsz : (DataW.weightsEach Try.prog (Try.f8.params.toList ++ Rows.periodBacksSpec.plain.varTypes Try.prog) (ds ++ gs)).all (· ≤ reachBytes) = true := hsz0
  have hval : ∀ (j : Nat) t v, Try.f8.params[j]? = some t → args[j]? = some v → Value.okWide Try.prog W .any base t v := hval0
  have hW' := hW
  obtain ⟨p, q, hA0, hV, rfl, hfz, hnd⟩ := hW
  have hA : DataW.TrodAll enc Try.prog W 0 (fun _ => true) true Try.f8.params.toList args.toList ds p := hA0
  rw [Try.params8] at hA hval hsz
  obtain ⟨v0, vs0, d0, ds0, p0, q0, hargs, rfl, rfl, h0, r0⟩ := trodAll_cons hA
  obtain ⟨v1, vs1, d1, ds1, p1, q1, rfl, rfl, rfl, h1, r1⟩ := trodAll_cons r0
  obtain ⟨v2, vs2, d2, ds2, p2, q2, rfl, rfl, rfl, h2, r2⟩ := trodAll_cons r1
  obtain ⟨rfl, rfl, rfl⟩ := trodAll_nil r2
  obtain rfl : args = #[v0, v1, v2] := by cases args; simp_all
  obtain ⟨rfl, rfl⟩ := trodVars_none hV
  obtain ⟨a0, rfl, rfl, rfl, w0⟩ := open_int Try.underlying3 (hval 0 3 v0 rfl rfl) h0
  have k1 := h1
  have lt1 : ∀ x ∈ p1, x.block < W.heap.size := by obtain ⟨m, hm⟩ := k1; exact DataW.trod_lt m _ _ _ hm
  obtain ⟨l1, w1, vr1⟩ := opens_agg (D := DD) (opens_arr 0 Try.underlying27 (sz := 1) (by kernel_rfl) (by kernel_rfl) (opens_int Try.underlying3)) (hval 1 27 v1 rfl rfl) (by kernel_rfl) h1 (fun m hm => by simpa using List.all_eq_true.1 hsz _ (DataW.weights_mem_each (j := 1) (t := 27) rfl rfl m hm))
  have w1 : (l1.length = 12 ∧ ∀ z ∈ l1, (Lit.int .i64 z).wf = true) := w1
  obtain ⟨a2, rfl, rfl, rfl, w2⟩ := open_int Try.underlying3 (hval 2 3 v2 rfl rfl) h2
  obtain ⟨k, hk⟩ := Pure.PeriodBacks a0 w0 l1 w1 a2 w2
  have hk2 : (pyxlaw13_PeriodBacks.D k).f (a0, l1, a2) = some true := hk
  have hun : pyxlaw13_PeriodBacks.un [.flat (.int .i64 a0), .agg ((Cd.arr 12 0 (Cd.int .i64)).enc l1), .flat (.int .i64 a2)] = some (a0, l1, a2) := by unfold pyxlaw13_PeriodBacks.un; dsimp only; rw [Cd.full_rt (Cd.rt_arr 12 0 (Cd.rt_int .i64)) ⟨w1.1, fun _ _ => trivial⟩, Option.bind_some]; try rfl
  refine (law_true (pyxlaw13_PeriodBacks.sound k) (args := [.flat (.int .i64 a0), .agg ((Cd.arr 12 0 (Cd.int .i64)).enc l1), .flat (.int .i64 a2)]) hun hk2 rfl rfl (.cons (.flat _) (.cons vr1 (.cons (.flat _) .nil)))).mono fun e W' ⟨he, bel⟩ => ?_
  subst he
  exact ⟨_, rfl, _, _, _, [], _, [], hW', trodAll_mk1 (shut_bool Try.underlying4 _), (trodAll_cons_mk (shut_int Try.underlying3 w0) (trodAll_cons_mk (Below.trod laidOut (by kernel_rfl) (of_decide_eq_true (by kernel_rfl)) k1 bel lt1) (trodAll_cons_mk (shut_int Try.underlying3 w2) trodAll_mk0))), rfl, bel.frame _, fun h => by cases h⟩
theorem over : Rows.periodBacksRow.holds Try.pinned (OpenSpec.ofChange Rows.periodBacksSpec) :=
  OpenClaim.holds_of_wide 8 Try.f8 rfl rfl rfl rfl rfl rfl rfl ⟨rfl, rfl, rfl, rfl, rfl⟩ rfl rfl rfl rfl rfl (by kernel_rfl) Try.func8 (by kernel_rfl)
    (of_decide_eq_true (by kernel_rfl)) (by unfold Func.isWrapper; first | (rw [if_pos (by decide +kernel)]; kernel_rfl) | (rw [if_neg (by decide +kernel)]; exact ⟨rfl, rfl⟩))
    (fun os started H enc _ => lifted os started H enc)
theorem proved : Rows.PeriodBacksSaid := over
#print axioms proved
end Go.Proofs.Ytojkgadihooplaa.periodBacks
namespace Go.Proofs.Ytojkgadihooplaa
/-- The row, under a short name, for the claim. -/
theorem periodBacks_holds : Rows.PeriodBacksSaid := periodBacks.proved
end Go.Proofs.Ytojkgadihooplaa
