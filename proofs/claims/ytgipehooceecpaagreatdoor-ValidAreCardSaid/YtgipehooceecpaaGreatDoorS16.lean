/- All texts of this seat's laws upon the references. -/
import Derived.Test.YtgipehooceecpaaGreatDoorS10
import Derived.Test.YtgipehooceecpaaGreatDoorS11
import Derived.Test.YtgipehooceecpaaGreatDoorS12
import Derived.Test.YtgipehooceecpaaGreatDoorS13
import Derived.Test.YtgipehooceecpaaGreatDoorS14
import Derived.Test.YtgipehooceecpaaGreatDoorS15
