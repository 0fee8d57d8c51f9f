/- GateKnown: the closed sentence, by running it. No conditions. -/
import Derived.Test.YtlaogfkgkpgofaaFs
namespace Go.Proofs.Ytlaogfkgkpgofaa.Pure
theorem GateKnown : ∃ k, pyxlaw25_GateKnown.f k = some true := ⟨300, by decide +kernel⟩
end Go.Proofs.Ytlaogfkgkpgofaa.Pure
