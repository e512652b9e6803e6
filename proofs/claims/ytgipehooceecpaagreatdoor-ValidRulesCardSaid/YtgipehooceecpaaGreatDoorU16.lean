/- All texts of this seat's laws. -/
import Derived.Test.YtgipehooceecpaaGreatDoorU10
import Derived.Test.YtgipehooceecpaaGreatDoorU11
import Derived.Test.YtgipehooceecpaaGreatDoorU12
import Derived.Test.YtgipehooceecpaaGreatDoorU13
import Derived.Test.YtgipehooceecpaaGreatDoorU14
import Derived.Test.YtgipehooceecpaaGreatDoorU15
