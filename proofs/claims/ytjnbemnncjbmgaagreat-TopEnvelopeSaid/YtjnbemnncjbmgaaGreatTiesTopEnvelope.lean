/- The functions of which TopEnvelope alone speaks. -/
import Derived.Test.YtjnbemnncjbmgaaGreatTies
import Derived.Test.YtjnbemnncjbmgaaGreatPkTopEnvelope1
namespace Go.Proofs.YtjnbemnncjbmgaaGreat
open Go.Eng
set_option maxRecDepth 100000
theorem s33:Y1.Spec PurP 33:=Y1.ok hm kr
theorem s207:IQ.Spec PurP 207:=IQ.ok hm kr
theorem s151:UO.Spec PurP 151:=UO.ok hm kr s207
theorem s152:DQ.Spec PurP 152:=DQ.ok hm kr
theorem s153:IS.Spec PurP 153:=IS.ok hm kr s70
theorem s77:xX.Spec PurP 77:=xX.ok hm kr s151 s152 s153
theorem s154:IU.Spec PurP 154:=IU.ok hm kr s152 s151
theorem s78:IT.Spec PurP 78:=IT.ok hm kr s154
theorem s32:tP.Spec PurP 32:=tP.ok hm kr s77 s78
theorem s12:Mg.Spec PurP 12:=Mg.ok hm kr s13 s14 s15 s16 s33 s32 s17
end Go.Proofs.YtjnbemnncjbmgaaGreat
