/- What the law LimbKnown computes is true. No conditions. -/
import Derived.Test.YthknecaigoilmaaF1
namespace Go.Proofs.Ythknecaigoilmaa.Pure
open Go Go.Ev
theorem LimbKnown : ∃ k, pyxlaw1_LimbKnown.f k = some true := ⟨300, by decide +kernel⟩
end Go.Proofs.Ythknecaigoilmaa.Pure
