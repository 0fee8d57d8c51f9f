/- All the functions that are told. -/
import Derived.Test.YtlaogfkgkpgofaaF0
import Derived.Test.YtlaogfkgkpgofaaF1
import Derived.Test.YtlaogfkgkpgofaaF2
import Derived.Test.YtlaogfkgkpgofaaF3
import Derived.Test.YtlaogfkgkpgofaaF4
import Derived.Test.YtlaogfkgkpgofaaF5
import Derived.Test.YtlaogfkgkpgofaaF6
