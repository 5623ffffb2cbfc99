/- The functions of this seat: their compiled code is what the library says of it, so that the contracts hold of them. -/
import Derived.Test.YtkckiembbiiliaaGreatChecked
import Derived.Test.YtkckiembbiiliaaGreatPk1
import Derived.Test.YtkckiembbiiliaaGreatPk2
import Derived.Test.YtkckiembbiiliaaGreatPk3
import Derived.Test.YtkckiembbiiliaaGreatPk4
import Derived.Test.YtkckiembbiiliaaGreatPk5
import Derived.Test.YtkckiembbiiliaaGreatPk6
import Derived.Test.YtkckiembbiiliaaGreatPk7
import Derived.Test.YtkckiembbiiliaaGreatPk8
import Derived.Test.YtkckiembbiiliaaGreatPk9
import Derived.Test.YtkckiembbiiliaaGreatPk10
import Derived.Test.YtkckiembbiiliaaGreatPk11
import Derived.Test.YtkckiembbiiliaaGreatPk12
import Derived.Test.YtkckiembbiiliaaGreatPk13
import Derived.Test.YtkckiembbiiliaaGreatPk14
import Derived.Test.YtkckiembbiiliaaGreatPk15
import Derived.Test.YtkckiembbiiliaaGreatPk16
import Derived.Test.YtkckiembbiiliaaGreatPk17
import Derived.Test.YtkckiembbiiliaaGreatPk18
import Derived.Test.YtkckiembbiiliaaGreatPk19
import Derived.Test.YtkckiembbiiliaaGreatPk20
namespace Go.Proofs.YtkckiembbiiliaaGreat
open Go.Eng
set_option maxRecDepth 100000
theorem hm:Tryz.prog.follows .mixedOrders=true:=by kernel_rfl
abbrev PurP:=Pure Tryz.prog
theorem s18:DN.Spec PurP 36 18:=DN.ok hm (by kernel_rfl)
theorem cf48:cZ Tryz.prog 48=some (dX 5):=by kernel_rfl
theorem s48:zy.Spec PurP 48:=zy.ok hm cf48
theorem s19:Dp.Spec PurP 19:=Dp.ok hm (by kernel_rfl) s48
theorem s89:Dl.Spec PurP 36 89:=Dl.ok hm (by kernel_rfl)
theorem s24:xA.Spec PurP 24:=xA.ok hm (by kernel_rfl)
theorem s91:wz.Spec PurP 36 91:=wz.ok hm (by kernel_rfl)
theorem s127:Dk.Spec PurP 36 127:=Dk.ok hm (by kernel_rfl) s24 s91
theorem s90:wA.Spec PurP 36 90:=wA.ok hm (by kernel_rfl) s127
theorem s49:BY.Spec PurP 49:=BY.ok hm (by kernel_rfl) s89 s90 s91
theorem s92:uo.Spec PurP 92:=uo.ok hm (by kernel_rfl)
theorem s50:uz.Spec PurP 36 50:=uz.ok hm (by kernel_rfl) s92
theorem s20:xP.Spec PurP 36 20:=xP.ok hm (by kernel_rfl) s49 s50
theorem s128:zx.Spec PurP 128:=zx.ok hm (by kernel_rfl) s49
theorem s93:Kh.Spec PurP 36 93:=Kh.ok hm (by kernel_rfl) s128 s50
theorem s56:xE.Spec PurP 36 56:=xE.ok hm (by kernel_rfl) s20
theorem s51:VE.Spec PurP 36 51:=VE.ok hm (by kernel_rfl) s93 s56 s20
theorem cf52:iC true Tryz.prog 52=some (dO 20 3):=by kernel_rfl
theorem s52:Kk.Spec PurP 36 52:=Kk.ok hm cf52 s20
theorem s53:Hq.Spec PurP 36 53:=Hq.ok hm (by kernel_rfl) s20
theorem s22:No.Spec PurP 22:=No.ok hm (by kernel_rfl)
theorem s144:Dm.Spec PurP 36 144:=Dm.ok hm (by kernel_rfl)
theorem s129:uq.Spec PurP 129:=uq.ok hm (by kernel_rfl) s144 s90
theorem s112:JL.Spec PurP 112:=JL.ok hm (by kernel_rfl)
theorem s135:JJ.Spec PurP 135:=JJ.ok hm (by kernel_rfl)
theorem s111:JK.Spec PurP 111:=JK.ok hm (by kernel_rfl) s135
theorem s75:Vo.Spec PurP 75:=Vo.ok hm (by kernel_rfl) s112 s111
theorem s118:DA.Spec PurP 118:=DA.ok hm (by kernel_rfl)
theorem s138:JI.Spec PurP 138:=JI.ok hm (by kernel_rfl)
theorem s147:JG.Spec PurP 147:=JG.ok hm (by kernel_rfl)
theorem s137:JH.Spec PurP 137:=JH.ok hm (by kernel_rfl) s147
theorem s116:Sb.Spec PurP 116:=Sb.ok hm (by kernel_rfl) s138 s137
theorem s79:within.Spec PurP 79:=within.ok hm (by kernel_rfl) s118 s116
theorem s86:pV.Spec PurP 86:=pV.ok hm (by kernel_rfl) s79
theorem cf76:cZ Tryz.prog 76=some (nu 3 86 79):=by kernel_rfl
theorem s76:zM.Spec PurP 76:=zM.ok hm cf76 s86 s79
theorem s114:JO.Spec PurP 114:=JO.ok hm (by kernel_rfl)
theorem s136:JM.Spec PurP 136:=JM.ok hm (by kernel_rfl)
theorem s113:JN.Spec PurP 113:=JN.ok hm (by kernel_rfl) s136
theorem s77:Vp.Spec PurP 77:=Vp.ok hm (by kernel_rfl) s114 s113
theorem cf117:cZ Tryz.prog 117=some (jM 3 79):=by kernel_rfl
theorem s117:J0.Spec PurP 117:=J0.ok hm cf117 s79
theorem s115:Vt.Spec PurP 115:=Vt.ok hm (by kernel_rfl) s116 s117
theorem s78:zN.Spec PurP 78:=zN.ok hm (by kernel_rfl) s115
theorem s120:JR.Spec PurP 120:=JR.ok hm (by kernel_rfl)
theorem s139:JP.Spec PurP 139:=JP.ok hm (by kernel_rfl)
theorem s119:JQ.Spec PurP 119:=JQ.ok hm (by kernel_rfl) s139
theorem s80:Vq.Spec PurP 80:=Vq.ok hm (by kernel_rfl) s120 s119
theorem s121:DC.Spec PurP 121:=DC.ok hm (by kernel_rfl)
theorem s140:zm.Spec PurP 140:=zm.ok hm (by kernel_rfl)
theorem s141:Sc.Spec PurP 141:=Sc.ok hm (by kernel_rfl)
theorem s122:DB.Spec PurP 122:=DB.ok hm (by kernel_rfl) s140 s141
theorem cf81:cZ Tryz.prog 81=some (kz 121 3 79 122 86):=by kernel_rfl
theorem s81:J1.Spec PurP 81:=J1.ok hm cf81 s121 s79 s122 s86
theorem s124:JU.Spec PurP 124:=JU.ok hm (by kernel_rfl)
theorem s142:JS.Spec PurP 142:=JS.ok hm (by kernel_rfl)
theorem s123:JT.Spec PurP 123:=JT.ok hm (by kernel_rfl) s142
theorem s82:Vr.Spec PurP 82:=Vr.ok hm (by kernel_rfl) s124 s123
theorem cf83:cZ Tryz.prog 83=some (om 3 79 86):=by kernel_rfl
theorem s83:DD.Spec PurP 83:=DD.ok hm cf83 s79 s86
theorem s126:JX.Spec PurP 126:=JX.ok hm (by kernel_rfl)
theorem s143:JV.Spec PurP 143:=JV.ok hm (by kernel_rfl)
theorem s125:JW.Spec PurP 125:=JW.ok hm (by kernel_rfl) s143
theorem s84:Vs.Spec PurP 84:=Vs.ok hm (by kernel_rfl) s126 s125
theorem cf85:cZ Tryz.prog 85=some (pT 3 79 86):=by kernel_rfl
theorem s85:J2.Spec PurP 85:=J2.ok hm cf85 s79 s86
theorem cf40:cZ Tryz.prog 40=some (pS 75 76 77 78 79 80 81 82 83 84 85 3 86):=by kernel_rfl
theorem s40:Hh.Spec PurP 40:=Hh.ok hm cf40 s75 s76 s77 s78 s79 s80 s81 s82 s83 s84 s85 s86
theorem cf94:iC true Tryz.prog 94=some (fZ 22 129 50 73 40 36):=by kernel_rfl
theorem s94:Kj.Spec PurP 36 94:=Kj.ok hm cf94 s22 s129 s50 s40
theorem s95:Rr.Spec PurP 95:=Xe.ok hm (by kernel_rfl)
theorem s96:Rs.Spec PurP 96:=Xf.ok hm (by kernel_rfl)
theorem s97:Rt.Spec PurP 97:=Xg.ok hm (by kernel_rfl)
theorem s98:Ru.Spec PurP 98:=Xh.ok hm (by kernel_rfl)
theorem s54:Kl.Spec PurP 36 54:=Kl.ok hm (by kernel_rfl) s20 s94 s95 s96 s97 s98 s56
theorem s55:VF.Spec PurP 36 55:=VF.ok hm (by kernel_rfl) s53 s56 s20
theorem cf21:iC true Tryz.prog 21=some (d9 51 20 52 70 53 54 73 55 77 56 79):=by kernel_rfl
theorem s21:Km.Spec PurP 36 21:=Km.ok hm cf21 s51 s20 s52 s53 s54 s55 s56
theorem s99:jc.Spec PurP 99:=jc.ok hm (by kernel_rfl)
theorem s57:wO.Spec PurP 57:=wO.ok hm (by kernel_rfl) s99
theorem s23:Bc.Spec PurP 23:=Bc.ok hm (by kernel_rfl) s57
theorem s9:nY.Spec PurP 9:=nY.ok hm (by kernel_rfl) s18 s19 s20 s21 s22 s23 s24
theorem cf87:iC true Tryz.prog 87=some (rG 5):=by kernel_rfl
theorem s87:EO.Spec PurP 87:=EO.ok hm cf87
theorem s41:xF.Spec PurP 41:=xF.ok hm (by kernel_rfl) s87
theorem cf42:cZ Tryz.prog 42=some (jO 3 41):=by kernel_rfl
theorem s42:Bf.Spec PurP 42:=Bf.ok hm cf42 s41
theorem cf43:cZ Tryz.prog 43=some (jP 3 41):=by kernel_rfl
theorem s43:Bh.Spec PurP 43:=Bh.ok hm cf43 s41
theorem s88:Dr.Spec PurP 88:=Dr.ok hm (by kernel_rfl) s87
theorem s44:Bg.Spec PurP 44:=Bg.ok hm (by kernel_rfl) s88
theorem cf14:cZ Tryz.prog 14=some (kC 40 3 41 4 42 43 71 44 23):=by kernel_rfl
theorem s14:pY.Spec PurP 14:=pY.ok hm cf14 s40 s41 s42 s43 s44 s23
theorem s8:pZ.Spec PurP 8:=pZ.ok hm (by kernel_rfl) s9 s14
theorem s27:N8.Spec PurP 27:=N8.ok hm (by kernel_rfl)
theorem s63:Cut.Spec PurP 63:=Cut.ok hm (by kernel_rfl)
theorem s64:A5.Spec PurP 64:=A5.ok hm (by kernel_rfl)
theorem s26:vt.Spec PurP 26:=vt.ok hm (by kernel_rfl) s27 s63 s64
theorem s100:zA.Spec PurP 100:=zA.ok hm (by kernel_rfl) s26
theorem s62:rU.Spec PurP 62:=rU.ok hm (by kernel_rfl) s26
theorem s58:J9.Spec PurP 58:=J9.ok hm (by kernel_rfl) s100 s62 s26
theorem cf59:cZ Tryz.prog 59=some (jk 26 3):=by kernel_rfl
theorem s59:DH.Spec PurP 59:=DH.ok hm cf59 s26
theorem s130:wC.Spec PurP 130:=wC.ok hm (by kernel_rfl) s27 s64
theorem s131:zT.Spec PurP 131:=zT.ok hm (by kernel_rfl)
theorem s146:zn.Spec PurP 146:=zn.ok hm (by kernel_rfl)
theorem s132:rS.Spec PurP 132:=rS.ok hm (by kernel_rfl) s146 s141
theorem s101:wM.Spec PurP 101:=wM.ok hm (by kernel_rfl) s130 s27 s131 s132
theorem s60:DI.Spec PurP 60:=DI.ok hm (by kernel_rfl) s26 s101 s62
theorem s61:Ka.Spec PurP 61:=Ka.ok hm (by kernel_rfl) s26 s62
theorem cf25:cZ Tryz.prog 25=some (ic 58 26 59 70 60 73 61 77 62 79):=by kernel_rfl
theorem s25:zV.Spec PurP 25:=zV.ok hm cf25 s58 s26 s59 s60 s61 s62
theorem s28:Hp.Spec PurP 28:=Hp.ok hm (by kernel_rfl)
theorem s10:sS.Spec PurP 10:=sS.ok hm (by kernel_rfl) s25 s26 s27 s28
theorem cf29:cZ Tryz.prog 29=some (pM 5 63):=by kernel_rfl
theorem s29:Jz.Spec PurP 29:=Jz.ok hm cf29 s63
theorem s11:DW.Spec PurP 11:=DW.ok hm (by kernel_rfl) s28 s29
theorem s30:DT.Spec PurP 30:=DT.ok hm (by kernel_rfl)
theorem s31:DU.Spec PurP 31:=DU.ok hm (by kernel_rfl)
theorem cf12:cZ Tryz.prog 12=some (dm 3 30 31):=by kernel_rfl
theorem s12:Bk.Spec PurP 12:=Bk.ok hm cf12 s30 s31
theorem s3:sY.Spec PurP 3:=sY.ok hm (by kernel_rfl) s8 s9 s10 s11 s12
theorem s67:At.Spec PurP 67:=At.ok hm (by kernel_rfl)
theorem s16:Place.Spec PurP 16:=Place.ok hm (by kernel_rfl)
theorem s35:from.Spec PurP 35:=from.ok hm (by kernel_rfl) s67 s16
theorem cf32:cZ Tryz.prog 32=some (ob 35 3 70):=by kernel_rfl
theorem s32:rows.Spec PurP 32:=rows.ok hm cf32 s35
theorem s33:phase.Spec PurP 33:=phase.ok hm (by kernel_rfl) s35
theorem s102:eU.Spec PurP 102 109:=eU.ok hm (by kernel_rfl)
theorem s66:where.Spec PurP 66:=where.ok hm (by kernel_rfl) s102
theorem s34:beside.Spec PurP 34:=beside.ok hm (by kernel_rfl) s66
theorem s103:ud.Spec PurP 103:=ud.ok hm (by kernel_rfl)
theorem s69:pJ.Spec PurP 69 3:=pJ.ok hm (by kernel_rfl) s103
theorem s68:zb.Spec PurP 68:=zb.ok hm (by kernel_rfl)
theorem s36:sD.Spec PurP 36:=sD.ok hm (by kernel_rfl) s69 s68
theorem s37:rI.Spec PurP 37:=rI.ok hm (by kernel_rfl) s35
theorem cf70:cZ Tryz.prog 70=some (od 3 68 34 36):=by kernel_rfl
theorem s70:with.Spec PurP 70:=with.ok hm cf70 s68 s34 s36
theorem s38:JB.Spec PurP 38:=JB.ok hm (by kernel_rfl) s35 s70
theorem cf104:cZ Tryz.prog 104=some (qZ 3 68):=by kernel_rfl
theorem s104_1:on.Spec PurP 104:=on.ok hm cf104 s68
theorem s107:Cap.Spec PurP 107:=Cap.ok hm (by kernel_rfl) s63
theorem s134:Add.Spec PurP 134:=Add.ok hm (by kernel_rfl) s107
theorem s106:vl.Spec PurP 106:=Sum.ok hm (by kernel_rfl) s134
theorem s72:vl.Spec PurP 72:=vl.ok hm (by kernel_rfl) s106
theorem s109:most.Spec PurP 109:=most.ok hm (by kernel_rfl)
theorem cf133:cZ Tryz.prog 133=some (ng 104 103 107 3 72 109):=by kernel_rfl
theorem s133:serve.Spec PurP 133:=serve.ok hm cf133 s104_1 s103 s107 s72 s109
theorem cf105:cZ Tryz.prog 105=some (og 3 102 133 72):=by kernel_rfl
theorem s105:pass.Spec PurP 105:=pass.ok hm cf105 s102 s133 s72
theorem cf71:cZ Tryz.prog 71=some (oe 66 104 103 105 3 72):=by kernel_rfl
theorem s71:free.Spec PurP 71:=free.ok hm cf71 s66 s104_1 s103 s105 s72
theorem s110:clear.Spec PurP 110:=clear.ok hm (by kernel_rfl) s104_1 s69 s72 s109
theorem cf108:cZ Tryz.prog 108=some (mZ 110 3 72):=by kernel_rfl
theorem s108:entry.Spec PurP 108:=entry.ok hm cf108 s110 s72
theorem s74:wo.Spec PurP 74:=wo.ok hm (by kernel_rfl) s108 s72 s104_1 s69 s107 s109 s110
theorem s73:Mul.Spec PurP 73:=Mul.ok hm (by kernel_rfl) s107
theorem cf39:cZ Tryz.prog 39=some (oc 71 3 72 74 73):=by kernel_rfl
theorem s39:wait.Spec PurP 39:=wait.ok hm cf39 s71 s72 s74 s73
theorem cf13:cZ Tryz.prog 13=some (mY 32 33 34 35 36 37 73 38 77 79 39):=by kernel_rfl
theorem s13:Table.Spec PurP 13:=Table.ok hm cf13 s32 s33 s34 s35 s36 s37 s38 s39
theorem s4:vO.Spec PurP 4:=vO.ok hm (by kernel_rfl) s13 s14 s9 s12 s8
theorem cf6:cZ Tryz.prog 6=some (gJ 8 13 14 16 9 5):=by kernel_rfl
theorem s6:yd.Spec PurP 6:=yd.ok hm cf6 s8 s13 s14 s16 s9
end Go.Proofs.YtkckiembbiiliaaGreat
