/- All texts of nest's laws. -/
import Derived.Test.YtmmbgjmigmchbaaGreatDoorNg8
import Derived.Test.YtmmbgjmigmchbaaGreatDoorNg10
import Derived.Test.YtmmbgjmigmchbaaGreatDoorNg11
import Derived.Test.YtmmbgjmigmchbaaGreatDoorNg12
import Derived.Test.YtmmbgjmigmchbaaGreatDoorNg13
import Derived.Test.YtmmbgjmigmchbaaGreatDoorNg14
