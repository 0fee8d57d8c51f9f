import Derived.Test.YtbchcjlllddlpaaU
import Derived.Test.YtbchcjlllddlpaaSkM
namespace Go.Proofs.Ytbchcjlllddlpaa
open Go Go.Ev Go.RowKit
noncomputable section
set_option linter.unusedVariables false
set_option linter.unusedSimpArgs false
noncomputable def sl1 : List (Nat × SDen U) := [(34, .del 40 2 4)]
theorem sl1_ok : ∀ p ∈ sl1, SfOk Try.prog DD p.1 p.2 ∧ ∀ args w, (callFunc p.1 args).run Try.prog w = .ok (.enter p.1 args) w := by
  intro p hp
  simp only [sl1, List.mem_cons, List.not_mem_nil, or_false] at hp
  rcases hp with rfl
  · exact ⟨del34_ok DD, Zet Try.func34 (by kernel_rfl) (by kernel_rfl)⟩
noncomputable def mkF (fn : Func) (fl : List (Pk Try.prog DD)) (jl : List (Nat × Jk U)) (ll : List (Nat × Wrb U)) (md : List (Nat × (Nat × U.C))) (dy : TypeId → Bool) (vc : Nat → Bool) (gh : List Nat) (ow : Bool) (io : FuncId → Nat → Bool) (ld : Nat → List Nat) (nl : List (Pk Try.prog DD)) (li : Nat → Option (Nat × List Nat)) : Env U := { P := Try.prog, D := DD, fd := lk (fds fl), sf := lk sl1, ld := lk ll, jd := lk (jds jl), mode := lk md, elc := lk ec, mpc := lk mc, rts := fn.resultTypes.toList, dyn := dy, Wpm := vc, results := fn.results.toList, gh := gh, own := ow, io := io, lds := ld, fn := lk (fds nl), lit := li }
theorem mkF_ok (fn : Func) (fl : List (Pk Try.prog DD)) (jl : List (Nat × Jk U)) (ll : List (Nat × Wrb U)) (md : List (Nat × (Nat × U.C))) (dy : TypeId → Bool) (vc : Nat → Bool) (gh : List Nat) (ow : Bool) (io : FuncId → Nat → Bool) (ld : Nat → List Nat) (nl : List (Pk Try.prog DD)) (li : Nat → Option (Nat × List Nat)) : Wbx (mkF fn fl jl ll md dy vc gh ow io ld nl li) := Wxq lawful (fds fl) sl1 ll (jds jl) _ _ _ _ _ _ _ _ _ _ _ (fds nl) li (Qhd fl) sl1_ok (jds_ok jl) (Qhd nl)
end
end Go.Proofs.Ytbchcjlllddlpaa
