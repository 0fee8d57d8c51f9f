/- LedgerTells: for every input the law returns true, and each argument reads behind the call as it read before. No conditions. -/
import Derived.Test.YtlaogfkgkpgofaaRows
import Derived.Test.YtlaogfkgkpgofaaEvIn
import Derived.Test.YtlaogfkgkpgofaaF6
import Derived.Test.YtlaogfkgkpgofaaPureLedgerTells
import Derived.WalkKit
import Derived.ProofKit
import Derived.OpenShut
import Derived.ShutString
import Derived.ChangeOld
import Derived.Below
import Derived.SizedLaws
namespace Go.Proofs.Ytlaogfkgkpgofaa.ledgerTells
open Go.ChangeShapes Go.WideShapes Go.ChangeAt Go.RowKit Go.Ev
open Go.ChangeMaps (open_string shut_string)
set_option linter.unusedVariables false
theorem own : ownKnob Try.prog.godebug = none := by kernel_rfl
theorem laidOut : laidOutB Try.prog = true := by kernel_rfl
set_option maxRecDepth 100000 in
theorem lifted (os : Os) (started : os.Started) (H : Type) (enc : TypeId × Value → H) :
    ReturnsInHanded {} Try.checked os 7 .any (Rows.ledgerTellsSpec.pre6 enc Try.prog Try.f7 Rows.ledgerTellsRow.domain false) (Rows.ledgerTellsSpec.post enc Try.prog Try.f7 false true false false) := by
  refine returnsInHanded_of_change_sized (C := Try.checked) own started (by kernel_rfl) Try.func7
    (ChangeSpec.witness6 (enc := enc) (C := Try.checked) false ⟨#[], #[.int .i64 0, .slice none 0 0], []⟩ 8 (by kernel_rfl) (by kernel_rfl) (by kernel_rfl) (by kernel_rfl)) ?_
  intro W base args ds gs before hval0 hW hcnd hsz0 _
  have hsz : (DataW.weightsEach Try.prog (Try.f7.params.toList ++ Rows.ledgerTellsSpec.plain.varTypes Try.prog) (ds ++ gs)).all (· ≤ reachBytes) = true := hsz0
  have hval : ∀ (j : Nat) t v, Try.f7.params[j]? = some t → args[j]? = some v → Value.okWide Try.prog W .any base t v := hval0
  have hW' := hW
  obtain ⟨p, q, hA0, hV, rfl, hfz, hnd⟩ := hW
  have hA : DataW.TrodAll enc Try.prog W 0 (fun _ => true) true Try.f7.params.toList args.toList ds p := hA0
  rw [Try.params7] at hA hval hsz
  obtain ⟨v0, vs0, d0, ds0, p0, q0, hargs, rfl, rfl, h0, r0⟩ := trodAll_cons hA
  obtain ⟨v1, vs1, d1, ds1, p1, q1, rfl, rfl, rfl, h1, r1⟩ := trodAll_cons r0
  obtain ⟨rfl, rfl, rfl⟩ := trodAll_nil r1
  obtain rfl : args = #[v0, v1] := by cases args; simp_all
  obtain ⟨rfl, rfl⟩ := trodVars_none hV
  obtain ⟨a0, rfl, rfl, rfl, w0⟩ := open_int Try.underlying3 (hval 0 3 v0 rfl rfl) h0
  obtain ⟨b1, len1, cap1, rfl⟩ := okWide_slice Try.underlying76 (hval 1 76 v1 rfl rfl)
  have k1 := h1
  have lt1 : ∀ x ∈ p1, x.block < W.heap.size := by obtain ⟨m, hm⟩ := k1; exact DataW.trod_lt m _ _ _ hm
  obtain ⟨l1, w1, vr1⟩ := opens_one (D := DD) (opens_slice (U := U) (cc := C.Spyxhand_Act) (q := deqC) (c := cd_Spyxhand_Act) Try.underlying76 (fun _ => rfl) (sz := 8) rfl (by kernel_rfl) (by decide) (by_ := 80) (by kernel_rfl) (opens_iso (opens_struct Try.underlying78 (by kernel_rfl) (opensF_cons (sz := 1) rfl (by kernel_rfl) (opens_int Try.underlying3) (opensF_cons (sz := 1) rfl (by kernel_rfl) (opens_int Try.underlying3) (opensF_cons (sz := 1) rfl (by kernel_rfl) (opens_int Try.underlying3) (opensF_cons (sz := 1) rfl (by kernel_rfl) (opens_int Try.underlying3) (opensF_cons (sz := 1) rfl (by kernel_rfl) (opens_int Try.underlying3) (opensF_cons (sz := 1) rfl (by kernel_rfl) (opens_int Try.underlying3) (opensF_cons (sz := 1) rfl (by kernel_rfl) (opens_int Try.underlying3) (opensF_cons (sz := 1) rfl (by kernel_rfl) (opens_slice (U := U) (cc := C.i64) (q := deqC) (c := (Cd.int .i64)) Try.underlying61 (fun _ => rfl) (sz := 1) rfl (by kernel_rfl) (by decide) (by_ := 8) (by kernel_rfl) (opens_int Try.underlying3)) opensF_nil))))))))) (fun x => (⟨x.1, x.2.1, x.2.2.1, x.2.2.2.1, x.2.2.2.2.1, x.2.2.2.2.2.1, x.2.2.2.2.2.2.1, x.2.2.2.2.2.2.2.1⟩ : Spyxhand_Act)) (fun (x : Spyxhand_Act) => (x.f_What, x.f_Who, x.f_A, x.f_B, x.f_C, x.f_N, x.f_Bend, x.f_L, ())) (fun _ => rfl))) rfl h1 (fun m hm => by simpa using List.all_eq_true.1 hsz _ (DataW.weights_mem_each (j := 1) (t := 76) rfl rfl m hm)) (f := fun l => .row C.Spyxhand_Act l) (fun _ => rfl)
  have w1 : (l1.length ≤ 9223372036854775807 ∧ l1.length * 80 ≤ 140737488351232 ∧ ∀ z ∈ l1, ((Lit.int .i64 z.f_What).wf = true) ∧ ((Lit.int .i64 z.f_Who).wf = true) ∧ ((Lit.int .i64 z.f_A).wf = true) ∧ ((Lit.int .i64 z.f_B).wf = true) ∧ ((Lit.int .i64 z.f_C).wf = true) ∧ ((Lit.int .i64 z.f_N).wf = true) ∧ ((Lit.int .i64 z.f_Bend).wf = true) ∧ ((z.f_L.length ≤ 9223372036854775807 ∧ z.f_L.length * 8 ≤ 140737488351232 ∧ ∀ z1 ∈ z.f_L, (Lit.int .i64 z1).wf = true)) ∧ True) := w1
  obtain ⟨k, hk⟩ := Pure.LedgerTells a0 w0 l1 w1
  refine (law_true lawful (pyxlaw14_LedgerTells.sound k) (args := [.flat (.int .i64 a0), .row C.Spyxhand_Act l1]) rfl hk rfl rfl rfl (.cons (.flat _) (.cons vr1 .nil))).mono fun e W' ⟨he, bel⟩ => ?_
  subst he
  exact ⟨_, rfl, _, _, _, [], _, [], hW', trodAll_mk1 (shut_bool Try.underlying4 _), (trodAll_cons_mk (shut_int Try.underlying3 w0) (trodAll_cons_mk (Below.trod laidOut (by kernel_rfl) (of_decide_eq_true (by kernel_rfl)) k1 bel lt1) trodAll_mk0)), rfl, bel.frame _, fun h => by cases h⟩
theorem over : Rows.ledgerTellsRow.holds Try.pinned (OpenSpec.ofChange Rows.ledgerTellsSpec) :=
  OpenClaim.holds_of_wide 7 Try.f7 rfl rfl rfl rfl rfl rfl rfl ⟨rfl, rfl, rfl, rfl, rfl⟩ rfl rfl rfl rfl rfl (by kernel_rfl) Try.func7 (by kernel_rfl)
    (of_decide_eq_true (by kernel_rfl)) (by unfold Func.isWrapper; first | (rw [if_pos (by decide +kernel)]; kernel_rfl) | (rw [if_neg (by decide +kernel)]; exact ⟨rfl, rfl⟩))
    (fun os started H enc _ => lifted os started H enc)
theorem proved : Rows.LedgerTellsSaid := over
#print axioms proved
end Go.Proofs.Ytlaogfkgkpgofaa.ledgerTells
namespace Go.Proofs.Ytlaogfkgkpgofaa
/-- The row, under a short name, for the claim. -/
theorem ledgerTells_holds : Rows.LedgerTellsSaid := ledgerTells.proved
end Go.Proofs.Ytlaogfkgkpgofaa
