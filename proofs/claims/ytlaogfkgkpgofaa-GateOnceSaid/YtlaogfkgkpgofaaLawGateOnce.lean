/- GateOnce: for every input the law returns true, and each argument reads behind the call as it read before. No conditions. -/
import Derived.Test.YtlaogfkgkpgofaaRows
import Derived.Test.YtlaogfkgkpgofaaEvIn
import Derived.Test.YtlaogfkgkpgofaaF4
import Derived.Test.YtlaogfkgkpgofaaPureGateOnce
import Derived.WalkKit
import Derived.ProofKit
import Derived.OpenShut
import Derived.ShutString
import Derived.ChangeOld
import Derived.Below
import Derived.SizedLaws
namespace Go.Proofs.Ytlaogfkgkpgofaa.gateOnce
open Go.ChangeShapes Go.WideShapes Go.ChangeAt Go.RowKit Go.Ev
open Go.ChangeMaps (open_string shut_string)
set_option linter.unusedVariables false
theorem own : ownKnob Try.prog.godebug = none := by kernel_rfl
theorem laidOut : laidOutB Try.prog = true := by kernel_rfl
set_option maxRecDepth 100000 in
theorem lifted (os : Os) (started : os.Started) (H : Type) (enc : TypeId × Value → H) :
    ReturnsInHanded {} Try.checked os 9 .any (Rows.gateOnceSpec.pre6 enc Try.prog Try.f9 Rows.gateOnceRow.domain false) (Rows.gateOnceSpec.post enc Try.prog Try.f9 false true false false) := by
  refine returnsInHanded_of_change_sized (C := Try.checked) own started (by kernel_rfl) Try.func9
    (ChangeSpec.witness6 (enc := enc) (C := Try.checked) false ⟨#[], #[.slice none 0 0, .int .i64 0, .int .i64 0, .int .i64 0, .int .i64 0], []⟩ 8 (by kernel_rfl) (by kernel_rfl) (by kernel_rfl) (by kernel_rfl)) ?_
  intro W base args ds gs before hval0 hW hcnd hsz0 _
  have hsz : (DataW.weightsEach Try.prog (Try.f9.params.toList ++ Rows.gateOnceSpec.plain.varTypes Try.prog) (ds ++ gs)).all (· ≤ reachBytes) = true := hsz0
  have hval : ∀ (j : Nat) t v, Try.f9.params[j]? = some t → args[j]? = some v → Value.okWide Try.prog W .any base t v := hval0
  have hW' := hW
  obtain ⟨p, q, hA0, hV, rfl, hfz, hnd⟩ := hW
  have hA : DataW.TrodAll enc Try.prog W 0 (fun _ => true) true Try.f9.params.toList args.toList ds p := hA0
  rw [Try.params9] at hA hval hsz
  obtain ⟨v0, vs0, d0, ds0, p0, q0, hargs, rfl, rfl, h0, r0⟩ := trodAll_cons hA
  obtain ⟨v1, vs1, d1, ds1, p1, q1, rfl, rfl, rfl, h1, r1⟩ := trodAll_cons r0
  obtain ⟨v2, vs2, d2, ds2, p2, q2, rfl, rfl, rfl, h2, r2⟩ := trodAll_cons r1
  obtain ⟨v3, vs3, d3, ds3, p3, q3, rfl, rfl, rfl, h3, r3⟩ := trodAll_cons r2
  obtain ⟨v4, vs4, d4, ds4, p4, q4, rfl, rfl, rfl, h4, r4⟩ := trodAll_cons r3
  obtain ⟨rfl, rfl, rfl⟩ := trodAll_nil r4
  obtain rfl : args = #[v0, v1, v2, v3, v4] := by cases args; simp_all
  obtain ⟨rfl, rfl⟩ := trodVars_none hV
  obtain ⟨b0, len0, cap0, rfl⟩ := okWide_slice Try.underlying42 (hval 0 42 v0 rfl rfl)
  have k0 := h0
  have lt0 : ∀ x ∈ p0, x.block < W.heap.size := by obtain ⟨m, hm⟩ := k0; exact DataW.trod_lt m _ _ _ hm
  obtain ⟨l0, w0, vr0⟩ := opens_one (D := DD) (opens_slice (U := U) (cc := C.Spyxlaw25_Raw) (q := deqC) (c := cd_Spyxlaw25_Raw) Try.underlying42 (fun _ => rfl) (sz := 9) rfl (by kernel_rfl) (by decide) (by_ := 72) (by kernel_rfl) (opens_iso (opens_struct Try.underlying48 (by kernel_rfl) (opensF_cons (sz := 1) rfl (by kernel_rfl) (opens_int Try.underlying3) (opensF_cons (sz := 1) rfl (by kernel_rfl) (opens_int Try.underlying3) (opensF_cons (sz := 1) rfl (by kernel_rfl) (opens_int Try.underlying3) (opensF_cons (sz := 1) rfl (by kernel_rfl) (opens_int Try.underlying3) (opensF_cons (sz := 1) rfl (by kernel_rfl) (opens_int Try.underlying3) (opensF_cons (sz := 1) rfl (by kernel_rfl) (opens_int Try.underlying3) (opensF_cons (sz := 1) rfl (by kernel_rfl) (opens_int Try.underlying3) (opensF_cons (sz := 1) rfl (by kernel_rfl) (opens_int Try.underlying3) (opensF_cons (sz := 1) rfl (by kernel_rfl) (opens_int Try.underlying3) opensF_nil)))))))))) (fun x => (⟨x.1, x.2.1, x.2.2.1, x.2.2.2.1, x.2.2.2.2.1, x.2.2.2.2.2.1, x.2.2.2.2.2.2.1, x.2.2.2.2.2.2.2.1, x.2.2.2.2.2.2.2.2.1⟩ : Spyxlaw25_Raw)) (fun (x : Spyxlaw25_Raw) => (x.f_Group, x.f_Line, x.f_Period, x.f_Version, x.f_Unit, x.f_To, x.f_N, x.f_Scale, x.f_Bend, ())) (fun _ => rfl))) rfl h0 (fun m hm => by simpa using List.all_eq_true.1 hsz _ (DataW.weights_mem_each (j := 0) (t := 42) rfl rfl m hm)) (f := fun l => .row C.Spyxlaw25_Raw l) (fun _ => rfl)
  have w0 : (l0.length ≤ 9223372036854775807 ∧ l0.length * 72 ≤ 140737488351232 ∧ ∀ z ∈ l0, ((Lit.int .i64 z.f_Group).wf = true) ∧ ((Lit.int .i64 z.f_Line).wf = true) ∧ ((Lit.int .i64 z.f_Period).wf = true) ∧ ((Lit.int .i64 z.f_Version).wf = true) ∧ ((Lit.int .i64 z.f_Unit).wf = true) ∧ ((Lit.int .i64 z.f_To).wf = true) ∧ ((Lit.int .i64 z.f_N).wf = true) ∧ ((Lit.int .i64 z.f_Scale).wf = true) ∧ ((Lit.int .i64 z.f_Bend).wf = true) ∧ True) := w0
  obtain ⟨a1, rfl, rfl, rfl, w1⟩ := open_int Try.underlying3 (hval 1 3 v1 rfl rfl) h1
  obtain ⟨a2, rfl, rfl, rfl, w2⟩ := open_int Try.underlying3 (hval 2 3 v2 rfl rfl) h2
  obtain ⟨a3, rfl, rfl, rfl, w3⟩ := open_int Try.underlying3 (hval 3 3 v3 rfl rfl) h3
  obtain ⟨a4, rfl, rfl, rfl, w4⟩ := open_int Try.underlying3 (hval 4 3 v4 rfl rfl) h4
  obtain ⟨k, hk⟩ := Pure.GateOnce l0 w0 a1 w1 a2 w2 a3 w3 a4 w4
  refine (law_true lawful (pyxlaw25_GateOnce.sound k) (args := [.row C.Spyxlaw25_Raw l0, .flat (.int .i64 a1), .flat (.int .i64 a2), .flat (.int .i64 a3), .flat (.int .i64 a4)]) rfl hk rfl rfl rfl (.cons vr0 (.cons (.flat _) (.cons (.flat _) (.cons (.flat _) (.cons (.flat _) .nil)))))).mono fun e W' ⟨he, bel⟩ => ?_
  subst he
  exact ⟨_, rfl, _, _, _, [], _, [], hW', trodAll_mk1 (shut_bool Try.underlying4 _), (trodAll_cons_mk (Below.trod laidOut (by kernel_rfl) (of_decide_eq_true (by kernel_rfl)) k0 bel lt0) (trodAll_cons_mk (shut_int Try.underlying3 w1) (trodAll_cons_mk (shut_int Try.underlying3 w2) (trodAll_cons_mk (shut_int Try.underlying3 w3) (trodAll_cons_mk (shut_int Try.underlying3 w4) trodAll_mk0))))), rfl, bel.frame _, fun h => by cases h⟩
theorem over : Rows.gateOnceRow.holds Try.pinned (OpenSpec.ofChange Rows.gateOnceSpec) :=
  OpenClaim.holds_of_wide 9 Try.f9 rfl rfl rfl rfl rfl rfl rfl ⟨rfl, rfl, rfl, rfl, rfl⟩ rfl rfl rfl rfl rfl (by kernel_rfl) Try.func9 (by kernel_rfl)
    (of_decide_eq_true (by kernel_rfl)) (by unfold Func.isWrapper; first | (rw [if_pos (by decide +kernel)]; kernel_rfl) | (rw [if_neg (by decide +kernel)]; exact ⟨rfl, rfl⟩))
    (fun os started H enc _ => lifted os started H enc)
theorem proved : Rows.GateOnceSaid := over
#print axioms proved
end Go.Proofs.Ytlaogfkgkpgofaa.gateOnce
namespace Go.Proofs.Ytlaogfkgkpgofaa
/-- The row, under a short name, for the claim. -/
theorem gateOnce_holds : Rows.GateOnceSaid := gateOnce.proved
end Go.Proofs.Ytlaogfkgkpgofaa
