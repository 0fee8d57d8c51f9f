/- What the law PeriodKnown computes is true. No conditions. -/
import Derived.Test.YtojkgadihooplaaF2
namespace Go.Proofs.Ytojkgadihooplaa.Pure
set_option linter.unusedVariables false
set_option linter.unusedSimpArgs false
open Go Go.Ev
theorem PeriodKnown : ∃ k, pyxlaw13_PeriodKnown.f k = some true := ⟨300, by decide +kernel⟩
end Go.Proofs.Ytojkgadihooplaa.Pure
