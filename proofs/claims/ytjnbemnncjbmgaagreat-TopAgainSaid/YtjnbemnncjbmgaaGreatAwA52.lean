/- What a function comes to at given arguments, worked out: topSample. -/
import Derived.Test.YtjnbemnncjbmgaaGreatChecked
import Derived.Test.YtjnbemnncjbmgaaGreatPkA21
namespace Go.Proofs.YtjnbemnncjbmgaaGreat
open Go.Eng
set_option maxRecDepth 100000
theorem aw52(h:iq.Spec (Pure Tryz.prog) 143):wR.Spec (Pure Tryz.prog) 52:=F6 (by kernel_rfl) (a:=1766847064778483782413917533466270539775741803651151415839753895256588288) (b:=7067388259113537318333190002971674063312531735931743246300690053339283456) h (by kernel_rfl)
end Go.Proofs.YtjnbemnncjbmgaaGreat
