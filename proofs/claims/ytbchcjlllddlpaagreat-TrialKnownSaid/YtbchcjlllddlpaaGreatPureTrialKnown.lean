/- TrialKnown: the closed sentence, by running it. No conditions. -/
import Derived.Test.YtbchcjlllddlpaaGreatFs
namespace Go.Proofs.YtbchcjlllddlpaaGreat.Pure
theorem TrialKnown : ∃ k, pyxlaw15_TrialKnown.f k = some true := ⟨700, by decide +kernel⟩
end Go.Proofs.YtbchcjlllddlpaaGreat.Pure
