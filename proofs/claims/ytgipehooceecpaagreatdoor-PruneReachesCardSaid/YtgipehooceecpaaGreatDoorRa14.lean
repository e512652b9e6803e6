/- All texts of the laws of prune upon the references. -/
import Derived.Test.YtgipehooceecpaaGreatDoorRa8
import Derived.Test.YtgipehooceecpaaGreatDoorRa9
import Derived.Test.YtgipehooceecpaaGreatDoorRa10
import Derived.Test.YtgipehooceecpaaGreatDoorRa11
import Derived.Test.YtgipehooceecpaaGreatDoorRa12
import Derived.Test.YtgipehooceecpaaGreatDoorRa13
