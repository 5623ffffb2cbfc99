/- The functions of which EnginePlays alone speaks. -/
import Derived.Test.YtdfplndcbbofjaaGreatTies
import Derived.Test.YtdfplndcbbofjaaGreatPk21
namespace Go.Proofs.YtdfplndcbbofjaaGreat
open Go.Eng
set_option maxRecDepth 100000
end Go.Proofs.YtdfplndcbbofjaaGreat
