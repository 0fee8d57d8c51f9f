/- TransEven: for every input the law returns true, and each argument reads behind the call as it read before. No conditions. -/
import Derived.Test.YtbchcjlllddlpaaGreatRows
import Derived.Test.YtbchcjlllddlpaaGreatEvIn
import Derived.Test.YtbchcjlllddlpaaGreatF8
import Derived.Test.YtbchcjlllddlpaaGreatPMB
import Derived.WalkKit
import Derived.ProofKit
import Derived.OpenShut
import Derived.ShutString
import Derived.ChangeOld
import Derived.Below
import Derived.SizedLaws
namespace Go.Proofs.YtbchcjlllddlpaaGreat.transEven
open Go.ChangeShapes Go.WideShapes Go.ChangeAt Go.RowKit Go.Ev
open Go.ChangeMaps (open_string shut_string)
set_option linter.unusedVariables false
theorem own : ownKnob Tryz.prog.godebug = none := by kernel_rfl
theorem laidOut : laidOutB Tryz.prog = true := by kernel_rfl
set_option maxRecDepth 100000 in
theorem lifted (os : Os) (started : os.Started) (H : Type) (enc : TypeId × Value → H) :
  ReturnsInHanded {} Tryz.checked os 8 .any (Rows.transEvenSpec.pre6 enc Tryz.prog Tryz.f8 Rows.transEvenRow.domain false) (Rows.transEvenSpec.post enc Tryz.prog Tryz.f8 false true false false) := by
 refine returnsInHanded_of_change_sized (C := Tryz.checked) own started (by kernel_rfl) Tryz.func8
  (ChangeSpec.witness6 (enc := enc) (C := Tryz.checked) false ⟨#[], #[.slice none 0 0, .int .i64 0, .int .i64 0, .slice none 0 0], []⟩ 8 (by kernel_rfl) (by kernel_rfl) (by kernel_rfl) (by kernel_rfl)) ?_
 intro W base args ds gs before hval0 hW hcnd hsz0 _
 have hsz : (DataW.weightsEach Tryz.prog (Tryz.f8.params.toList ++ Rows.transEvenSpec.plain.varTypes Tryz.prog) (ds ++ gs)).all (· ≤ reachBytes) = true := hsz0
 have hval : ∀ (j : Nat) t v, Tryz.f8.params[j]? = some t → args[j]? = some v → Value.okWide Tryz.prog W .any base t v := hval0
 have hW' := hW
 obtain ⟨p, q, hA0, hV, rfl, hfz, hnd⟩ := hW
 have hA : DataW.TrodAll enc Tryz.prog W 0 (fun _ => true) true Tryz.f8.params.toList args.toList ds p := hA0
 rw [Tryz.params8] at hA hval hsz
 obtain ⟨v0, vs0, d0, ds0, p0, q0, hargs, rfl, rfl, h0, r0⟩ := trodAll_cons hA
 obtain ⟨v1, vs1, d1, ds1, p1, q1, rfl, rfl, rfl, h1, r1⟩ := trodAll_cons r0
 obtain ⟨v2, vs2, d2, ds2, p2, q2, rfl, rfl, rfl, h2, r2⟩ := trodAll_cons r1
 obtain ⟨v3, vs3, d3, ds3, p3, q3, rfl, rfl, rfl, h3, r3⟩ := trodAll_cons r2
 obtain ⟨rfl, rfl, rfl⟩ := trodAll_nil r3
 obtain rfl : args = #[v0, v1, v2, v3] := by cases args; simp_all
 obtain ⟨rfl, rfl⟩ := trodVars_none hV
 obtain ⟨b0, len0, cap0, rfl⟩ := okWide_slice Tryz.underlying54 (hval 0 54 v0 rfl rfl)
 have k0 := h0
 have lt0 : ∀ x ∈ p0, x.block < W.heap.size := by obtain ⟨m, hm⟩ := k0; exact DataW.trod_lt m _ _ _ hm
 obtain ⟨l0, w0, vr0⟩ := Ypm (D := DD) (Zvc (U := U) (cc := C.Zr) (q := deqC) (c := Zor) Tryz.underlying54 (fun _ => rfl) (sz := 8) rfl (by kernel_rfl) (by decide) (by_ := 80) (by kernel_rfl) (opens_iso (Ysh Tryz.underlying132 (by kernel_rfl) (Zga (sz := 1) rfl (by kernel_rfl) (Zkm Tryz.underlying3) (Zga (sz := 1) rfl (by kernel_rfl) (Zkm Tryz.underlying3) (Zga (sz := 1) rfl (by kernel_rfl) (Zkm Tryz.underlying3) (Zga (sz := 1) rfl (by kernel_rfl) (Zkm Tryz.underlying3) (Zga (sz := 1) rfl (by kernel_rfl) (Zkm Tryz.underlying3) (Zga (sz := 1) rfl (by kernel_rfl) (Zkm Tryz.underlying3) (Zga (sz := 1) rfl (by kernel_rfl) (Zkm Tryz.underlying3) (Zga (sz := 1) rfl (by kernel_rfl) (Zvc (U := U) (cc := C.i64) (q := deqC) (c := (Cd.int .i64)) Tryz.underlying22 (fun _ => rfl) (sz := 1) rfl (by kernel_rfl) (by decide) (by_ := 8) (by kernel_rfl) (Zkm Tryz.underlying3)) Yzk))))))))) (fun x => (⟨x.1, x.2.1, x.2.2.1, x.2.2.2.1, x.2.2.2.2.1, x.2.2.2.2.2.1, x.2.2.2.2.2.2.1, x.2.2.2.2.2.2.2.1⟩ : Zr)) (fun (x : Zr) => (x.Zes, x.f_Who, x.f_A, x.f_B, x.f_C, x.f_N, x.Yte, x.f_L, ())) (fun _ => rfl))) rfl h0 (fun m hm => by simpa using List.all_eq_true.1 hsz _ (DataW.weights_mem_each (j := 0) (t := 54) rfl rfl m hm)) (f := fun l => .row C.Zr l) (fun _ => rfl)
 have w0 : (l0.length ≤ 9223372036854775807 ∧ l0.length * 80 ≤ 140737488351232 ∧ ∀ z ∈ l0, ((Lit.int .i64 z.Zes).wf = true) ∧ ((Lit.int .i64 z.f_Who).wf = true) ∧ ((Lit.int .i64 z.f_A).wf = true) ∧ ((Lit.int .i64 z.f_B).wf = true) ∧ ((Lit.int .i64 z.f_C).wf = true) ∧ ((Lit.int .i64 z.f_N).wf = true) ∧ ((Lit.int .i64 z.Yte).wf = true) ∧ ((z.f_L.length ≤ 9223372036854775807 ∧ z.f_L.length * 8 ≤ 140737488351232 ∧ ∀ z1 ∈ z.f_L, (Lit.int .i64 z1).wf = true)) ∧ True) := w0
 obtain ⟨a1, rfl, rfl, rfl, w1⟩ := open_int Tryz.underlying3 (hval 1 3 v1 rfl rfl) h1
 obtain ⟨a2, rfl, rfl, rfl, w2⟩ := open_int Tryz.underlying3 (hval 2 3 v2 rfl rfl) h2
 obtain ⟨b3, len3, cap3, rfl⟩ := okWide_slice Tryz.underlying22 (hval 3 22 v3 rfl rfl)
 have k3 := h3
 have lt3 : ∀ x ∈ p3, x.block < W.heap.size := by obtain ⟨m, hm⟩ := k3; exact DataW.trod_lt m _ _ _ hm
 obtain ⟨l3, w3, vr3⟩ := Ypm (D := DD) (Zvc (U := U) (cc := C.i64) (q := deqC) (c := (Cd.int .i64)) Tryz.underlying22 (fun _ => rfl) (sz := 1) rfl (by kernel_rfl) (by decide) (by_ := 8) (by kernel_rfl) (Zkm Tryz.underlying3)) rfl h3 (fun m hm => by simpa using List.all_eq_true.1 hsz _ (DataW.weights_mem_each (j := 3) (t := 22) rfl rfl m hm)) (f := fun l => .row C.i64 l) (fun _ => rfl)
 have w3 : (l3.length ≤ 9223372036854775807 ∧ l3.length * 8 ≤ 140737488351232 ∧ ∀ z ∈ l3, (Lit.int .i64 z).wf = true) := w3
 obtain ⟨k, hk⟩ := Pure.TransEven l0 w0 a1 w1 a2 w2 l3 w3
 refine (law_true lawful (Zf.sound k) (args := [.row C.Zr l0, .flat (.int .i64 a1), .flat (.int .i64 a2), .row C.i64 l3]) rfl hk rfl rfl rfl (.cons vr0 (.cons (.flat _) (.cons (.flat _) (.cons vr3 .nil))))).mono fun e W' ⟨he, bel⟩ => ?_
 subst he
 exact ⟨_, rfl, _, _, _, [], _, [], hW', trodAll_mk1 (shut_bool Tryz.underlying4 _), (trodAll_cons_mk (Below.trod laidOut (by kernel_rfl) (of_decide_eq_true (by kernel_rfl)) k0 bel lt0) (trodAll_cons_mk (shut_int Tryz.underlying3 w1) (trodAll_cons_mk (shut_int Tryz.underlying3 w2) (trodAll_cons_mk (Below.trod laidOut (by kernel_rfl) (of_decide_eq_true (by kernel_rfl)) k3 bel lt3) trodAll_mk0)))), rfl, bel.frame _, fun h => by cases h⟩
theorem over : Rows.transEvenRow.holds Tryz.pinned (OpenSpec.ofChange Rows.transEvenSpec) :=
 OpenClaim.holds_of_wide 8 Tryz.f8 rfl rfl rfl rfl rfl rfl rfl ⟨rfl, rfl, rfl, rfl, rfl⟩ rfl rfl rfl rfl rfl (by kernel_rfl) Tryz.func8 (by kernel_rfl)
  (of_decide_eq_true (by kernel_rfl)) (by unfold Func.isWrapper; first | (rw [if_pos (by decide +kernel)]; kernel_rfl) | (rw [if_neg (by decide +kernel)]; exact ⟨rfl, rfl⟩))
  (fun os started H enc _ => lifted os started H enc)
theorem proved : Rows.TransEvenSaid := over
#print axioms proved
end Go.Proofs.YtbchcjlllddlpaaGreat.transEven
namespace Go.Proofs.YtbchcjlllddlpaaGreat
theorem transEven_holds : Rows.TransEvenSaid := transEven.proved
end Go.Proofs.YtbchcjlllddlpaaGreat
