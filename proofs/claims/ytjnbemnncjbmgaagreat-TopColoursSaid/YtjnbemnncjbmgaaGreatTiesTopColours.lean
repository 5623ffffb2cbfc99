/- The functions of which TopColours alone speaks. -/
import Derived.Test.YtjnbemnncjbmgaaGreatTies
import Derived.Test.YtjnbemnncjbmgaaGreatPkTopColours1
namespace Go.Proofs.YtjnbemnncjbmgaaGreat
open Go.Eng
set_option maxRecDepth 100000
theorem s3:Mh.Spec PurP 3:=Mh.ok hm kr s13 s14 s15 s16 s17
end Go.Proofs.YtjnbemnncjbmgaaGreat
