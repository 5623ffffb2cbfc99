/- The functions of this seat: their compiled code is what the library says of it, so that the contracts hold of them. -/
import Derived.Test.YtkckiembbiiliaaGreatChecked
import Derived.Test.YtkckiembbiiliaaGreatPk1
import Derived.Test.YtkckiembbiiliaaGreatPk2
import Derived.Test.YtkckiembbiiliaaGreatPk3
import Derived.Test.YtkckiembbiiliaaGreatPk4
import Derived.Test.YtkckiembbiiliaaGreatPk5
import Derived.Test.YtkckiembbiiliaaGreatPk6
import Derived.Test.YtkckiembbiiliaaGreatPk7
import Derived.Test.YtkckiembbiiliaaGreatPk8
import Derived.Test.YtkckiembbiiliaaGreatPk9
import Derived.Test.YtkckiembbiiliaaGreatPk10
import Derived.Test.YtkckiembbiiliaaGreatPk11
import Derived.Test.YtkckiembbiiliaaGreatPk12
import Derived.Test.YtkckiembbiiliaaGreatPk13
import Derived.Test.YtkckiembbiiliaaGreatPk14
import Derived.Test.YtkckiembbiiliaaGreatPk15
import Derived.Test.YtkckiembbiiliaaGreatPk16
import Derived.Test.YtkckiembbiiliaaGreatPk17
import Derived.Test.YtkckiembbiiliaaGreatPk18
namespace Go.Proofs.YtkckiembbiiliaaGreat
open Go.Eng
set_option maxRecDepth 100000
theorem hm:Tryz.prog.follows .mixedOrders=true:=by kernel_rfl
abbrev PurP:=Pure Tryz.prog
theorem s67:At.Spec PurP 67:=At.ok hm (by kernel_rfl)
theorem s16:Place.Spec PurP 16:=Place.ok hm (by kernel_rfl)
theorem s35:from.Spec PurP 35:=from.ok hm (by kernel_rfl) s67 s16
theorem cf32:dY Tryz.prog 32=some (nv 35 3 70):=by kernel_rfl
theorem s32:rows.Spec PurP 32:=rows.ok hm cf32 s35
theorem s33:phase.Spec PurP 33:=phase.ok hm (by kernel_rfl) s35
theorem s102:ef.Spec PurP 102 109:=ef.ok hm (by kernel_rfl)
theorem s66:where.Spec PurP 66:=where.ok hm (by kernel_rfl) s102
theorem s34:beside.Spec PurP 34:=beside.ok hm (by kernel_rfl) s66
theorem s103:sW.Spec PurP 103:=sW.ok hm (by kernel_rfl)
theorem s69:oE.Spec PurP 69 3:=oE.ok hm (by kernel_rfl) s103
theorem s68:xX.Spec PurP 68:=xX.ok hm (by kernel_rfl)
theorem s36:rm.Spec PurP 36:=rm.ok hm (by kernel_rfl) s69 s68
theorem s37:qD.Spec PurP 37:=qD.ok hm (by kernel_rfl) s35
theorem cf70:dY Tryz.prog 70=some (ny 3 68 34 36):=by kernel_rfl
theorem s70:with.Spec PurP 70:=with.ok hm cf70 s68 s34 s36
theorem s38:Is.Spec PurP 38:=Is.ok hm (by kernel_rfl) s35 s70
theorem cf104:dY Tryz.prog 104=some (qj 3 68):=by kernel_rfl
theorem s104_1:on.Spec PurP 104:=on.ok hm cf104 s68
theorem s63:Cut.Spec PurP 63:=Cut.ok hm (by kernel_rfl)
theorem s107:Cap.Spec PurP 107:=Cap.ok hm (by kernel_rfl) s63
theorem s134:Add.Spec PurP 134:=Add.ok hm (by kernel_rfl) s107
theorem s106:t9.Spec PurP 106:=Sum.ok hm (by kernel_rfl) s134
theorem s72:t9.Spec PurP 72:=t9.ok hm (by kernel_rfl) s106
theorem s109:most.Spec PurP 109:=most.ok hm (by kernel_rfl)
theorem cf133:dY Tryz.prog 133=some (mu 104 103 107 3 72 109):=by kernel_rfl
theorem s133:serve.Spec PurP 133:=serve.ok hm cf133 s104_1 s103 s107 s72 s109
theorem cf105:dY Tryz.prog 105=some (nB 3 102 133 72):=by kernel_rfl
theorem s105:pass.Spec PurP 105:=pass.ok hm cf105 s102 s133 s72
theorem cf71:dY Tryz.prog 71=some (nA 66 104 103 105 3 72):=by kernel_rfl
theorem s71:free.Spec PurP 71:=free.ok hm cf71 s66 s104_1 s103 s105 s72
theorem s110:clear.Spec PurP 110:=clear.ok hm (by kernel_rfl) s104_1 s69 s72 s109
theorem cf108:dY Tryz.prog 108=some (mq 110 3 72):=by kernel_rfl
theorem s108:entry.Spec PurP 108:=entry.ok hm cf108 s110 s72
theorem s74:AN.Spec PurP 74:=AN.ok hm (by kernel_rfl) s108 s72 s104_1 s69 s107 s109 s110
theorem s73:Mul.Spec PurP 73:=Mul.ok hm (by kernel_rfl) s107
theorem cf39:dY Tryz.prog 39=some (nw 71 3 72 74 73):=by kernel_rfl
theorem s39:wait.Spec PurP 39:=wait.ok hm cf39 s71 s72 s74 s73
theorem cf13:dY Tryz.prog 13=some (mj 32 33 34 35 36 37 73 38 77 79 39):=by kernel_rfl
theorem s13:Table.Spec PurP 13:=Table.ok hm cf13 s32 s33 s34 s35 s36 s37 s38 s39
theorem s112:ID.Spec PurP 112:=ID.ok hm (by kernel_rfl)
theorem s135:IB.Spec PurP 135:=IB.ok hm (by kernel_rfl)
theorem s111:IC.Spec PurP 111:=IC.ok hm (by kernel_rfl) s135
theorem s75:Up.Spec PurP 75:=Up.ok hm (by kernel_rfl) s112 s111
theorem s118:Cw.Spec PurP 118:=Cw.ok hm (by kernel_rfl)
theorem s138:IA.Spec PurP 138:=IA.ok hm (by kernel_rfl)
theorem s147:Iy.Spec PurP 147:=Iy.ok hm (by kernel_rfl)
theorem s137:Iz.Spec PurP 137:=Iz.ok hm (by kernel_rfl) s147
theorem s116:QW.Spec PurP 116:=QW.ok hm (by kernel_rfl) s138 s137
theorem s79:within.Spec PurP 79:=within.ok hm (by kernel_rfl) s118 s116
theorem s86:oQ.Spec PurP 86:=oQ.ok hm (by kernel_rfl) s79
theorem cf76:dY Tryz.prog 76=some (mE 3 86 79):=by kernel_rfl
theorem s76:yy.Spec PurP 76:=yy.ok hm cf76 s86 s79
theorem s114:IG.Spec PurP 114:=IG.ok hm (by kernel_rfl)
theorem s136:IE.Spec PurP 136:=IE.ok hm (by kernel_rfl)
theorem s113:IF.Spec PurP 113:=IF.ok hm (by kernel_rfl) s136
theorem s77:Uq.Spec PurP 77:=Uq.ok hm (by kernel_rfl) s114 s113
theorem cf117:dY Tryz.prog 117=some (js 3 79):=by kernel_rfl
theorem s117:IW.Spec PurP 117:=IW.ok hm cf117 s79
theorem s115:Uu.Spec PurP 115:=Uu.ok hm (by kernel_rfl) s116 s117
theorem s78:yz.Spec PurP 78:=yz.ok hm (by kernel_rfl) s115
theorem s120:IK.Spec PurP 120:=IK.ok hm (by kernel_rfl)
theorem s139:II.Spec PurP 139:=II.ok hm (by kernel_rfl)
theorem s119:IJ.Spec PurP 119:=IJ.ok hm (by kernel_rfl) s139
theorem s80:Ur.Spec PurP 80:=Ur.ok hm (by kernel_rfl) s120 s119
theorem s121:Cy.Spec PurP 121:=Cy.ok hm (by kernel_rfl)
theorem s140:x8.Spec PurP 140:=x8.ok hm (by kernel_rfl)
theorem s141:Uv.Spec PurP 141:=Uv.ok hm (by kernel_rfl)
theorem s122:Cx.Spec PurP 122:=Cx.ok hm (by kernel_rfl) s140 s141
theorem cf81:dY Tryz.prog 81=some (jQ 121 3 79 122 86):=by kernel_rfl
theorem s81:IX.Spec PurP 81:=IX.ok hm cf81 s121 s79 s122 s86
theorem s124:IN.Spec PurP 124:=IN.ok hm (by kernel_rfl)
theorem s142:IL.Spec PurP 142:=IL.ok hm (by kernel_rfl)
theorem s123:IM.Spec PurP 123:=IM.ok hm (by kernel_rfl) s142
theorem s82:Us.Spec PurP 82:=Us.ok hm (by kernel_rfl) s124 s123
theorem cf83:dY Tryz.prog 83=some (nD 3 79 86):=by kernel_rfl
theorem s83:Cz.Spec PurP 83:=Cz.ok hm cf83 s79 s86
theorem s126:IS.Spec PurP 126:=IS.ok hm (by kernel_rfl)
theorem s143:IP.Spec PurP 143:=IP.ok hm (by kernel_rfl)
theorem s125:IQ.Spec PurP 125:=IQ.ok hm (by kernel_rfl) s143
theorem s84:Ut.Spec PurP 84:=Ut.ok hm (by kernel_rfl) s126 s125
theorem cf85:dY Tryz.prog 85=some (oO 3 79 86):=by kernel_rfl
theorem s85:IY.Spec PurP 85:=IY.ok hm cf85 s79 s86
theorem cf40:dY Tryz.prog 40=some (oN 75 76 77 78 79 80 81 82 83 84 85 3 86):=by kernel_rfl
theorem s40:Ga.Spec PurP 40:=Ga.ok hm cf40 s75 s76 s77 s78 s79 s80 s81 s82 s83 s84 s85 s86
theorem cf87:gB true Tryz.prog 87=some (qB 5):=by kernel_rfl
theorem s87:DE.Spec PurP 87:=DE.ok hm cf87
theorem s41:vU.Spec PurP 41:=vU.ok hm (by kernel_rfl) s87
theorem cf42:dY Tryz.prog 42=some (jt 3 41):=by kernel_rfl
theorem s42:zX.Spec PurP 42:=zX.ok hm cf42 s41
theorem cf43:dY Tryz.prog 43=some (ju 3 41):=by kernel_rfl
theorem s43:zZ.Spec PurP 43:=zZ.ok hm cf43 s41
theorem s88:Cm.Spec PurP 88:=Cm.ok hm (by kernel_rfl) s87
theorem s44:zY.Spec PurP 44:=zY.ok hm (by kernel_rfl) s88
theorem s99:iN.Spec PurP 99:=iN.ok hm (by kernel_rfl)
theorem s57:yG.Spec PurP 57:=yG.ok hm (by kernel_rfl) s99
theorem s23:zV.Spec PurP 23:=zV.ok hm (by kernel_rfl) s57
theorem cf14:dY Tryz.prog 14=some (jT 40 3 41 4 42 43 71 44 23):=by kernel_rfl
theorem s14:oU.Spec PurP 14:=oU.ok hm cf14 s40 s41 s42 s43 s44 s23
theorem s18:CM.Spec PurP 36 18:=CM.ok hm (by kernel_rfl)
theorem cf48:dY Tryz.prog 48=some (dG 5):=by kernel_rfl
theorem s48:ye.Spec PurP 48:=ye.ok hm cf48
theorem s19:Cl.Spec PurP 19:=Cl.ok hm (by kernel_rfl) s48
theorem s89:Cj.Spec PurP 36 89:=Cj.ok hm (by kernel_rfl)
theorem s24:vP.Spec PurP 24:=vP.ok hm (by kernel_rfl)
theorem s91:uV.Spec PurP 36 91:=uV.ok hm (by kernel_rfl)
theorem s127:Ci.Spec PurP 36 127:=Ci.ok hm (by kernel_rfl) s24 s91
theorem s90:uW.Spec PurP 36 90:=uW.ok hm (by kernel_rfl) s127
theorem s49:AX.Spec PurP 49:=AX.ok hm (by kernel_rfl) s89 s90 s91
theorem s92:th.Spec PurP 92:=th.ok hm (by kernel_rfl)
theorem s50:tA.Spec PurP 36 50:=tA.ok hm (by kernel_rfl) s92
theorem s20:wj.Spec PurP 36 20:=wj.ok hm (by kernel_rfl) s49 s50
theorem s128:yd.Spec PurP 128:=yd.ok hm (by kernel_rfl) s49
theorem s93:I7.Spec PurP 36 93:=I7.ok hm (by kernel_rfl) s128 s50
theorem s56:vT.Spec PurP 36 56:=vT.ok hm (by kernel_rfl) s20
theorem s51:UF.Spec PurP 36 51:=UF.ok hm (by kernel_rfl) s93 s56 s20
theorem cf52:gB true Tryz.prog 52=some (dh 20 3):=by kernel_rfl
theorem s52:Ja.Spec PurP 36 52:=Ja.ok hm cf52 s20
theorem s53:Gf.Spec PurP 36 53:=Gf.ok hm (by kernel_rfl) s20
theorem s22:L8.Spec PurP 22:=L8.ok hm (by kernel_rfl)
theorem s144:Ck.Spec PurP 36 144:=Ck.ok hm (by kernel_rfl)
theorem s129:tj.Spec PurP 129:=tj.ok hm (by kernel_rfl) s144 s90
theorem cf94:gB true Tryz.prog 94=some (eS 22 129 50 73 40 36):=by kernel_rfl
theorem s94:I9.Spec PurP 36 94:=I9.ok hm cf94 s22 s129 s50 s40
theorem s95:Ql.Spec PurP 95:=Wl.ok hm (by kernel_rfl)
theorem s96:Qm.Spec PurP 96:=Wm.ok hm (by kernel_rfl)
theorem s97:Qn.Spec PurP 97:=Wn.ok hm (by kernel_rfl)
theorem s98:Qo.Spec PurP 98:=Wo.ok hm (by kernel_rfl)
theorem s54:Jb.Spec PurP 36 54:=Jb.ok hm (by kernel_rfl) s20 s94 s95 s96 s97 s98 s56
theorem s55:UG.Spec PurP 36 55:=UG.ok hm (by kernel_rfl) s53 s56 s20
theorem cf21:gB true Tryz.prog 21=some (dP 51 20 52 70 53 54 73 55 77 56 79):=by kernel_rfl
theorem s21:Jc.Spec PurP 36 21:=Jc.ok hm cf21 s51 s20 s52 s53 s54 s55 s56
theorem s9:oT.Spec PurP 9:=oT.ok hm (by kernel_rfl) s18 s19 s20 s21 s22 s23 s24
theorem s17:zK.Spec PurP 17:=zK.ok hm (by kernel_rfl)
theorem s8:rH.Spec PurP 8:=rH.ok hm (by kernel_rfl) s9 s14
theorem cf7:gB true Tryz.prog 7=some (iZ 13 14 5 3 16 9 17 8):=by kernel_rfl
theorem s7:oV.Spec PurP 7:=oV.ok hm cf7 s13 s14 s16 s9 s17 s8
end Go.Proofs.YtkckiembbiiliaaGreat
