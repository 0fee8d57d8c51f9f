/- RuleKnown: chapter 10's example, closer rules, labels, what is not right. A closed sentence. -/
import Derived.Test.YthknecaigoilmaaFs
namespace Go.Proofs.Ythknecaigoilmaa.Pure
open Go Go.Ev
set_option maxRecDepth 100000 in
theorem RuleKnown : ∃ k, pyxlaw10_RuleKnown.f k = some true := ⟨1000, by kernel_rfl⟩
end Go.Proofs.Ythknecaigoilmaa.Pure
