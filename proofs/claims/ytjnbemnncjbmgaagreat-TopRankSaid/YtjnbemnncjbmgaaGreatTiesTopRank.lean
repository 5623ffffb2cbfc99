/- The functions of which TopRank alone speaks. -/
import Derived.Test.YtjnbemnncjbmgaaGreatTies
import Derived.Test.YtjnbemnncjbmgaaGreatPkTopRank1
namespace Go.Proofs.YtjnbemnncjbmgaaGreat
open Go.Eng
set_option maxRecDepth 100000
theorem s10:FR.Spec PurP 10:=FR.ok hm kr s13 s14 s15 s16 s28 s26 s17
end Go.Proofs.YtjnbemnncjbmgaaGreat
