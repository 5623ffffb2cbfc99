/- The functions of which EngineServes alone speaks. -/
import Derived.Test.YtdfplndcbbofjaaGreatTiesS
import Derived.Test.YtdfplndcbbofjaaGreatPkS19
namespace Go.Proofs.YtdfplndcbbofjaaGreat
open Go.Eng
set_option maxRecDepth 100000
end Go.Proofs.YtdfplndcbbofjaaGreat
