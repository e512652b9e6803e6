/- All texts of the laws of dedupe upon the references. -/
import Derived.Test.YtgipehooceecpaaGreatDoorEa8
import Derived.Test.YtgipehooceecpaaGreatDoorEa9
import Derived.Test.YtgipehooceecpaaGreatDoorEa10
import Derived.Test.YtgipehooceecpaaGreatDoorEa11
import Derived.Test.YtgipehooceecpaaGreatDoorEa12
import Derived.Test.YtgipehooceecpaaGreatDoorEa13
