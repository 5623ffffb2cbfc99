/- The functions of which TopFlash alone speaks. -/
import Derived.Test.YtjnbemnncjbmgaaGreatTies
import Derived.Test.YtjnbemnncjbmgaaGreatPkTopFlash1
namespace Go.Proofs.YtjnbemnncjbmgaaGreat
open Go.Eng
set_option maxRecDepth 100000
theorem s4:CV.Spec PurP 4:=CV.ok hm kr s13 s14 s15 s16 s18 s17
end Go.Proofs.YtjnbemnncjbmgaaGreat
