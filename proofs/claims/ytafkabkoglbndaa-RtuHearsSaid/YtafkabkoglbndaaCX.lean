/- The checksum's contracts and mathematics together. -/
import Derived.Test.YtafkabkoglbndaaCA5
import Derived.Test.YtafkabkoglbndaaCPB
