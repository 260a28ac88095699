/- Contracts of functions that the printer leaves to the hand: all of them. -/
import Derived.Test.YtcdldgoehoopmaaDoorHa
import Derived.Test.YtcdldgoehoopmaaDoorHl
import Derived.Test.YtcdldgoehoopmaaDoorHm
import Derived.Test.YtcdldgoehoopmaaDoorHc
import Derived.Test.YtcdldgoehoopmaaDoorHz
