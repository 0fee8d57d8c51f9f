/- What the law ChartKnown computes is true. No conditions. -/
import Derived.Test.YtojkgadihooplaaF0
namespace Go.Proofs.Ytojkgadihooplaa.Pure
open Go Go.Ev
theorem ChartKnown : ∃ k, pyxlaw11_ChartKnown.f k = some true := ⟨60, by decide +kernel⟩
end Go.Proofs.Ytojkgadihooplaa.Pure
