/- Plain laws: PureInterKnown. No conditions but size. -/
import Derived.Test.YtgfbcclfajcjnaaFs
/- InterKnown: the closed sentence, by running it. No conditions. -/
namespace Go.Proofs.Ytgfbcclfajcjnaa.Pure
theorem InterKnown : ∃ k, pyxlaw18_InterKnown.f k = some true := ⟨300, by decide +kernel⟩
end Go.Proofs.Ytgfbcclfajcjnaa.Pure
