/- The functions of which TopBuses alone speaks. -/
import Derived.Test.YtjnbemnncjbmgaaGreatTies
import Derived.Test.YtjnbemnncjbmgaaGreatPkTopBuses1
namespace Go.Proofs.YtjnbemnncjbmgaaGreat
open Go.Eng
set_option maxRecDepth 100000
theorem s6:Mk.Spec PurP 6:=Mk.ok hm kr s13 s14 s15 s16 s17
end Go.Proofs.YtjnbemnncjbmgaaGreat
