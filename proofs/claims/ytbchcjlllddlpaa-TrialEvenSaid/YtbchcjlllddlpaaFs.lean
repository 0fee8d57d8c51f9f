/- All the functions that are told. -/
import Derived.Test.YtbchcjlllddlpaaF0
import Derived.Test.YtbchcjlllddlpaaF1
import Derived.Test.YtbchcjlllddlpaaF2
import Derived.Test.YtbchcjlllddlpaaF3
import Derived.Test.YtbchcjlllddlpaaF4
import Derived.Test.YtbchcjlllddlpaaF5
import Derived.Test.YtbchcjlllddlpaaF6
import Derived.Test.YtbchcjlllddlpaaF7
