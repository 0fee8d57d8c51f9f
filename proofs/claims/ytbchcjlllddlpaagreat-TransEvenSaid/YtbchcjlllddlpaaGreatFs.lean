/- All the functions that are told. -/
import Derived.Test.YtbchcjlllddlpaaGreatF0
import Derived.Test.YtbchcjlllddlpaaGreatF1
import Derived.Test.YtbchcjlllddlpaaGreatF2
import Derived.Test.YtbchcjlllddlpaaGreatF3
import Derived.Test.YtbchcjlllddlpaaGreatF4
import Derived.Test.YtbchcjlllddlpaaGreatF5
import Derived.Test.YtbchcjlllddlpaaGreatF6
import Derived.Test.YtbchcjlllddlpaaGreatF7
import Derived.Test.YtbchcjlllddlpaaGreatF8
