/- The functions of which TopSafe alone speaks. -/
import Derived.Test.YtjnbemnncjbmgaaGreatTies
import Derived.Test.YtjnbemnncjbmgaaGreatPkTopSafe1
namespace Go.Proofs.YtjnbemnncjbmgaaGreat
open Go.Eng
set_option maxRecDepth 100000
theorem s27:CS.Spec PurP 27:=CS.ok hm kr s20
theorem s9:FP.Spec PurP 9:=FP.ok hm kr s13 s14 s15 s16 s26 s27 s20 s17
end Go.Proofs.YtjnbemnncjbmgaaGreat
