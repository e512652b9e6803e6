/- All texts of this seat's laws upon the references. -/
import Derived.Test.YtgipehooceecpaaGreatDoorO10
import Derived.Test.YtgipehooceecpaaGreatDoorO11
import Derived.Test.YtgipehooceecpaaGreatDoorO12
import Derived.Test.YtgipehooceecpaaGreatDoorO13
import Derived.Test.YtgipehooceecpaaGreatDoorO14
import Derived.Test.YtgipehooceecpaaGreatDoorO15
