/- All the functions that are told. -/
import Derived.Test.YtgfbcclfajcjnaaF0
import Derived.Test.YtgfbcclfajcjnaaF1
import Derived.Test.YtgfbcclfajcjnaaF2
import Derived.Test.YtgfbcclfajcjnaaF3
