/- LedgerKnown: the closed sentence, by running it. No conditions. -/
import Derived.Test.YtlaogfkgkpgofaaFs
namespace Go.Proofs.Ytlaogfkgkpgofaa.Pure
theorem LedgerKnown : ∃ k, pyxlaw14_LedgerKnown.f k = some true := ⟨300, by decide +kernel⟩
end Go.Proofs.Ytlaogfkgkpgofaa.Pure
