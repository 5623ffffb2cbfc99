/- The functions of which TopAgain alone speaks. -/
import Derived.Test.YtjnbemnncjbmgaaGreatTiesA
import Derived.Test.YtjnbemnncjbmgaaGreatPkA21
namespace Go.Proofs.YtjnbemnncjbmgaaGreat
open Go.Eng
set_option maxRecDepth 100000
end Go.Proofs.YtjnbemnncjbmgaaGreat
