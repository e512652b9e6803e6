/- All texts of the laws of dedupe that need no reference. -/
import Derived.Test.YtgipehooceecpaaGreatDoorDa7
import Derived.Test.YtgipehooceecpaaGreatDoorDa8
import Derived.Test.YtgipehooceecpaaGreatDoorDa9
import Derived.Test.YtgipehooceecpaaGreatDoorDa10
import Derived.Test.YtgipehooceecpaaGreatDoorDa11
import Derived.Test.YtgipehooceecpaaGreatDoorDa12
