/- TrialAdds: for every input the law returns true, and each argument reads behind the call as it read before. No conditions. -/
import Derived.Test.YtbchcjlllddlpaaGreatRows
import Derived.Test.YtbchcjlllddlpaaGreatEvIn
import Derived.Test.YtbchcjlllddlpaaGreatF5
import Derived.Test.YtbchcjlllddlpaaGreatPMA
import Derived.WalkKit
import Derived.ProofKit
import Derived.OpenShut
import Derived.ShutString
import Derived.ChangeOld
import Derived.Below
import Derived.SizedLaws
namespace Go.Proofs.YtbchcjlllddlpaaGreat.trialAdds
open Go.ChangeShapes Go.WideShapes Go.ChangeAt Go.RowKit Go.Ev
open Go.ChangeMaps (open_string shut_string)
set_option linter.unusedVariables false
theorem own : ownKnob Tryz.prog.godebug = none := by kernel_rfl
theorem laidOut : laidOutB Tryz.prog = true := by kernel_rfl
set_option maxRecDepth 100000 in
theorem lifted (os : Os) (started : os.Started) (H : Type) (enc : TypeId × Value → H) :
    ReturnsInHanded {} Tryz.checked os 3 .any (Rows.trialAddsSpec.pre6 enc Tryz.prog Tryz.f3 Rows.trialAddsRow.domain false) (Rows.trialAddsSpec.post enc Tryz.prog Tryz.f3 false true false false) := by
  refine returnsInHanded_of_change_sized (C := Tryz.checked) own started (by kernel_rfl) Tryz.func3
    (ChangeSpec.witness6 (enc := enc) (C := Tryz.checked) false ⟨#[], #[.slice none 0 0, .slice none 0 0, .int .i64 0], []⟩ 8 (by kernel_rfl) (by kernel_rfl) (by kernel_rfl) (by kernel_rfl)) ?_
  intro W base args ds gs before hval0 hW hcnd hsz0 _
  have hsz : (DataW.weightsEach Tryz.prog (Tryz.f3.params.toList ++ Rows.trialAddsSpec.plain.varTypes Tryz.prog) (ds ++ gs)).all (· ≤ reachBytes) = true := hsz0
  have hval : ∀ (j : Nat) t v, Tryz.f3.params[j]? = some t → args[j]? = some v → Value.okWide Tryz.prog W .any base t v := hval0
  have hW' := hW
  obtain ⟨p, q, hA0, hV, rfl, hfz, hnd⟩ := hW
  have hA : DataW.TrodAll enc Tryz.prog W 0 (fun _ => true) true Tryz.f3.params.toList args.toList ds p := hA0
  rw [Tryz.params3] at hA hval hsz
  obtain ⟨v0, vs0, d0, ds0, p0, q0, hargs, rfl, rfl, h0, r0⟩ := trodAll_cons hA
  obtain ⟨v1, vs1, d1, ds1, p1, q1, rfl, rfl, rfl, h1, r1⟩ := trodAll_cons r0
  obtain ⟨v2, vs2, d2, ds2, p2, q2, rfl, rfl, rfl, h2, r2⟩ := trodAll_cons r1
  obtain ⟨rfl, rfl, rfl⟩ := trodAll_nil r2
  obtain rfl : args = #[v0, v1, v2] := by cases args; simp_all
  obtain ⟨rfl, rfl⟩ := trodVars_none hV
  obtain ⟨b0, len0, cap0, rfl⟩ := okWide_slice Tryz.underlying22 (hval 0 22 v0 rfl rfl)
  have k0 := h0
  have lt0 : ∀ x ∈ p0, x.block < W.heap.size := by obtain ⟨m, hm⟩ := k0; exact DataW.trod_lt m _ _ _ hm
  obtain ⟨l0, w0, vr0⟩ := opens_one (D := DD) (opens_slice (U := U) (cc := C.i64) (q := deqC) (c := (Cd.int .i64)) Tryz.underlying22 (fun _ => rfl) (sz := 1) rfl (by kernel_rfl) (by decide) (by_ := 8) (by kernel_rfl) (opens_int Tryz.underlying3)) rfl h0 (fun m hm => by simpa using List.all_eq_true.1 hsz _ (DataW.weights_mem_each (j := 0) (t := 22) rfl rfl m hm)) (f := fun l => .row C.i64 l) (fun _ => rfl)
  have w0 : (l0.length ≤ 9223372036854775807 ∧ l0.length * 8 ≤ 140737488351232 ∧ ∀ z ∈ l0, (Lit.int .i64 z).wf = true) := w0
  obtain ⟨b1, len1, cap1, rfl⟩ := okWide_slice Tryz.underlying22 (hval 1 22 v1 rfl rfl)
  have k1 := h1
  have lt1 : ∀ x ∈ p1, x.block < W.heap.size := by obtain ⟨m, hm⟩ := k1; exact DataW.trod_lt m _ _ _ hm
  obtain ⟨l1, w1, vr1⟩ := opens_one (D := DD) (opens_slice (U := U) (cc := C.i64) (q := deqC) (c := (Cd.int .i64)) Tryz.underlying22 (fun _ => rfl) (sz := 1) rfl (by kernel_rfl) (by decide) (by_ := 8) (by kernel_rfl) (opens_int Tryz.underlying3)) rfl h1 (fun m hm => by simpa using List.all_eq_true.1 hsz _ (DataW.weights_mem_each (j := 1) (t := 22) rfl rfl m hm)) (f := fun l => .row C.i64 l) (fun _ => rfl)
  have w1 : (l1.length ≤ 9223372036854775807 ∧ l1.length * 8 ≤ 140737488351232 ∧ ∀ z ∈ l1, (Lit.int .i64 z).wf = true) := w1
  obtain ⟨a2, rfl, rfl, rfl, w2⟩ := open_int Tryz.underlying3 (hval 2 3 v2 rfl rfl) h2
  obtain ⟨k, hk⟩ := Pure.TrialAdds l0 w0 l1 w1 a2 w2
  refine (law_true lawful (pyxlaw15_TrialAdds.sound k) (args := [.row C.i64 l0, .row C.i64 l1, .flat (.int .i64 a2)]) rfl hk rfl rfl rfl (.cons vr0 (.cons vr1 (.cons (.flat _) .nil)))).mono fun e W' ⟨he, bel⟩ => ?_
  subst he
  exact ⟨_, rfl, _, _, _, [], _, [], hW', trodAll_mk1 (shut_bool Tryz.underlying4 _), (trodAll_cons_mk (Below.trod laidOut (by kernel_rfl) (of_decide_eq_true (by kernel_rfl)) k0 bel lt0) (trodAll_cons_mk (Below.trod laidOut (by kernel_rfl) (of_decide_eq_true (by kernel_rfl)) k1 bel lt1) (trodAll_cons_mk (shut_int Tryz.underlying3 w2) trodAll_mk0))), rfl, bel.frame _, fun h => by cases h⟩
theorem over : Rows.trialAddsRow.holds Tryz.pinned (OpenSpec.ofChange Rows.trialAddsSpec) :=
  OpenClaim.holds_of_wide 3 Tryz.f3 rfl rfl rfl rfl rfl rfl rfl ⟨rfl, rfl, rfl, rfl, rfl⟩ rfl rfl rfl rfl rfl (by kernel_rfl) Tryz.func3 (by kernel_rfl)
    (of_decide_eq_true (by kernel_rfl)) (by unfold Func.isWrapper; first | (rw [if_pos (by decide +kernel)]; kernel_rfl) | (rw [if_neg (by decide +kernel)]; exact ⟨rfl, rfl⟩))
    (fun os started H enc _ => lifted os started H enc)
theorem proved : Rows.TrialAddsSaid := over
#print axioms proved
end Go.Proofs.YtbchcjlllddlpaaGreat.trialAdds
namespace Go.Proofs.YtbchcjlllddlpaaGreat
/-- The row, under a short name, for the claim. -/
theorem trialAdds_holds : Rows.TrialAddsSaid := trialAdds.proved
end Go.Proofs.YtbchcjlllddlpaaGreat
