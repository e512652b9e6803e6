/- All texts of this seat's laws. -/
import Derived.Test.YtgipehooceecpaaGreatDoorM12
import Derived.Test.YtgipehooceecpaaGreatDoorM13
import Derived.Test.YtgipehooceecpaaGreatDoorM14
import Derived.Test.YtgipehooceecpaaGreatDoorM15
import Derived.Test.YtgipehooceecpaaGreatDoorM16
import Derived.Test.YtgipehooceecpaaGreatDoorM17
