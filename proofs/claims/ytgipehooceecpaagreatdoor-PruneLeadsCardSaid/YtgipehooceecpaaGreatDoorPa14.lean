/- All texts of the laws of prune that need no reference. -/
import Derived.Test.YtgipehooceecpaaGreatDoorPa8
import Derived.Test.YtgipehooceecpaaGreatDoorPa9
import Derived.Test.YtgipehooceecpaaGreatDoorPa10
import Derived.Test.YtgipehooceecpaaGreatDoorPa11
import Derived.Test.YtgipehooceecpaaGreatDoorPa12
import Derived.Test.YtgipehooceecpaaGreatDoorPa13
