/- InterMore: for every input the law returns true, and each argument reads behind the call as it read before. No conditions. -/
import Derived.Test.YtgfbcclfajcjnaaRows
import Derived.Test.YtgfbcclfajcjnaaEvIn
import Derived.Test.YtgfbcclfajcjnaaF3
import Derived.Test.YtgfbcclfajcjnaaPMA
import Derived.WalkKit
import Derived.ProofKit
import Derived.OpenShut
import Derived.ShutString
import Derived.ChangeOld
import Derived.Below
import Derived.SizedLaws
namespace Go.Proofs.Ytgfbcclfajcjnaa.interMore
open Go.ChangeShapes Go.WideShapes Go.ChangeAt Go.RowKit Go.Ev
open Go.ChangeMaps (open_string shut_string)
set_option linter.unusedVariables false
theorem own : ownKnob Try.prog.godebug = none := by kernel_rfl
theorem laidOut : laidOutB Try.prog = true := by kernel_rfl
set_option maxRecDepth 100000 in
theorem lifted (os : Os) (started : os.Started) (H : Type) (enc : TypeId × Value → H) :
    ReturnsInHanded {} Try.checked os 6 .any (Rows.interMoreSpec.pre6 enc Try.prog Try.f6 Rows.interMoreRow.domain false) (Rows.interMoreSpec.post enc Try.prog Try.f6 false true false false) := by
  refine returnsInHanded_of_change_sized (C := Try.checked) own started (by kernel_rfl) Try.func6
    (ChangeSpec.witness6 (enc := enc) (C := Try.checked) false ⟨#[], #[.slice none 0 0, .int .i64 0, .int .i64 0], []⟩ 8 (by kernel_rfl) (by kernel_rfl) (by kernel_rfl) (by kernel_rfl)) ?_
  intro W base args ds gs before hval0 hW hcnd hsz0 _
  have hsz : (DataW.weightsEach Try.prog (Try.f6.params.toList ++ Rows.interMoreSpec.plain.varTypes Try.prog) (ds ++ gs)).all (· ≤ reachBytes) = true := hsz0
  have hval : ∀ (j : Nat) t v, Try.f6.params[j]? = some t → args[j]? = some v → Value.okWide Try.prog W .any base t v := hval0
  have hW' := hW
  obtain ⟨p, q, hA0, hV, rfl, hfz, hnd⟩ := hW
  have hA : DataW.TrodAll enc Try.prog W 0 (fun _ => true) true Try.f6.params.toList args.toList ds p := hA0
  rw [Try.params6] at hA hval hsz
  obtain ⟨v0, vs0, d0, ds0, p0, q0, hargs, rfl, rfl, h0, r0⟩ := trodAll_cons hA
  obtain ⟨v1, vs1, d1, ds1, p1, q1, rfl, rfl, rfl, h1, r1⟩ := trodAll_cons r0
  obtain ⟨v2, vs2, d2, ds2, p2, q2, rfl, rfl, rfl, h2, r2⟩ := trodAll_cons r1
  obtain ⟨rfl, rfl, rfl⟩ := trodAll_nil r2
  obtain rfl : args = #[v0, v1, v2] := by cases args; simp_all
  obtain ⟨rfl, rfl⟩ := trodVars_none hV
  obtain ⟨b0, len0, cap0, rfl⟩ := okWide_slice Try.underlying38 (hval 0 38 v0 rfl rfl)
  have k0 := h0
  have lt0 : ∀ x ∈ p0, x.block < W.heap.size := by obtain ⟨m, hm⟩ := k0; exact DataW.trod_lt m _ _ _ hm
  obtain ⟨l0, w0, vr0⟩ := opens_one (D := DD) (opens_slice (U := U) (cc := C.i64) (q := deqC) (c := (Cd.int .i64)) Try.underlying38 (fun _ => rfl) (sz := 1) rfl (by kernel_rfl) (by decide) (by_ := 8) (by kernel_rfl) (opens_int Try.underlying3)) rfl h0 (fun m hm => by simpa using List.all_eq_true.1 hsz _ (DataW.weights_mem_each (j := 0) (t := 38) rfl rfl m hm)) (f := fun l => .row C.i64 l) (fun _ => rfl)
  have w0 : (l0.length ≤ 9223372036854775807 ∧ l0.length * 8 ≤ 140737488351232 ∧ ∀ z ∈ l0, (Lit.int .i64 z).wf = true) := w0
  obtain ⟨a1, rfl, rfl, rfl, w1⟩ := open_int Try.underlying3 (hval 1 3 v1 rfl rfl) h1
  obtain ⟨a2, rfl, rfl, rfl, w2⟩ := open_int Try.underlying3 (hval 2 3 v2 rfl rfl) h2
  obtain ⟨k, hk⟩ := Pure.InterMore l0 w0 a1 w1 a2 w2
  refine (law_true lawful (pyxlaw18_InterMore.sound k) (args := [.row C.i64 l0, .flat (.int .i64 a1), .flat (.int .i64 a2)]) rfl hk rfl rfl rfl (.cons vr0 (.cons (.flat _) (.cons (.flat _) .nil)))).mono fun e W' ⟨he, bel⟩ => ?_
  subst he
  exact ⟨_, rfl, _, _, _, [], _, [], hW', trodAll_mk1 (shut_bool Try.underlying4 _), (trodAll_cons_mk (Below.trod laidOut (by kernel_rfl) (of_decide_eq_true (by kernel_rfl)) k0 bel lt0) (trodAll_cons_mk (shut_int Try.underlying3 w1) (trodAll_cons_mk (shut_int Try.underlying3 w2) trodAll_mk0))), rfl, bel.frame _, fun h => by cases h⟩
theorem over : Rows.interMoreRow.holds Try.pinned (OpenSpec.ofChange Rows.interMoreSpec) :=
  OpenClaim.holds_of_wide 6 Try.f6 rfl rfl rfl rfl rfl rfl rfl ⟨rfl, rfl, rfl, rfl, rfl⟩ rfl rfl rfl rfl rfl (by kernel_rfl) Try.func6 (by kernel_rfl)
    (of_decide_eq_true (by kernel_rfl)) (by unfold Func.isWrapper; first | (rw [if_pos (by decide +kernel)]; kernel_rfl) | (rw [if_neg (by decide +kernel)]; exact ⟨rfl, rfl⟩))
    (fun os started H enc _ => lifted os started H enc)
theorem proved : Rows.InterMoreSaid := over
#print axioms proved
end Go.Proofs.Ytgfbcclfajcjnaa.interMore
namespace Go.Proofs.Ytgfbcclfajcjnaa
theorem interMore_holds : Rows.InterMoreSaid := interMore.proved
end Go.Proofs.Ytgfbcclfajcjnaa
