/- All texts of nest's laws. -/
import Derived.Test.YtmmbgjmigmchbaaGreatDoorNa8
import Derived.Test.YtmmbgjmigmchbaaGreatDoorNa10
import Derived.Test.YtmmbgjmigmchbaaGreatDoorNa11
import Derived.Test.YtmmbgjmigmchbaaGreatDoorNa12
import Derived.Test.YtmmbgjmigmchbaaGreatDoorNa13
import Derived.Test.YtmmbgjmigmchbaaGreatDoorNa14
