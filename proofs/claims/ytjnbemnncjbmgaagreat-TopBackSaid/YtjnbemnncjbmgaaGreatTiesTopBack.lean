/- The functions of which TopBack alone speaks. -/
import Derived.Test.YtjnbemnncjbmgaaGreatTies
import Derived.Test.YtjnbemnncjbmgaaGreatPkTopBack1
namespace Go.Proofs.YtjnbemnncjbmgaaGreat
open Go.Eng
set_option maxRecDepth 100000
theorem s19:CW.Spec PurP 19:=CW.ok hm kr s38
theorem s5:FQ.Spec PurP 5:=FQ.ok hm kr s13 s14 s15 s16 s19 s20 s17
end Go.Proofs.YtjnbemnncjbmgaaGreat
