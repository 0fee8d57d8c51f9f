/- All the functions that are told. -/
import Derived.Test.YthknecaigoilmaaF0
import Derived.Test.YthknecaigoilmaaF1
import Derived.Test.YthknecaigoilmaaF2
import Derived.Test.YthknecaigoilmaaF3
import Derived.Test.YthknecaigoilmaaF4
