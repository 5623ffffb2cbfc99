/- The functions of this seat: their compiled code is what the library says of it, so that the contracts hold of them. -/
import Derived.Test.YtkckiembbiiliaaGreatChecked
import Derived.Test.YtkckiembbiiliaaGreatPk1
import Derived.Test.YtkckiembbiiliaaGreatPk2
import Derived.Test.YtkckiembbiiliaaGreatPk3
import Derived.Test.YtkckiembbiiliaaGreatPk4
import Derived.Test.YtkckiembbiiliaaGreatPk5
import Derived.Test.YtkckiembbiiliaaGreatPk6
import Derived.Test.YtkckiembbiiliaaGreatPk7
import Derived.Test.YtkckiembbiiliaaGreatPk8
import Derived.Test.YtkckiembbiiliaaGreatPk9
import Derived.Test.YtkckiembbiiliaaGreatPk10
import Derived.Test.YtkckiembbiiliaaGreatPk11
import Derived.Test.YtkckiembbiiliaaGreatPk12
import Derived.Test.YtkckiembbiiliaaGreatPk13
import Derived.Test.YtkckiembbiiliaaGreatPk14
import Derived.Test.YtkckiembbiiliaaGreatPk15
import Derived.Test.YtkckiembbiiliaaGreatPk16
import Derived.Test.YtkckiembbiiliaaGreatPk17
import Derived.Test.YtkckiembbiiliaaGreatPk18
import Derived.Test.YtkckiembbiiliaaGreatPk19
import Derived.Test.YtkckiembbiiliaaGreatPk20
import Derived.Test.YtkckiembbiiliaaGreatPk21
namespace Go.Proofs.YtkckiembbiiliaaGreat
open Go.Eng
set_option maxRecDepth 100000
theorem hm:Tryz.prog.follows .mixedOrders=true:=by kernel_rfl
abbrev PurP:=Pure Tryz.prog
theorem s67:At.Spec PurP 67:=At.ok hm (by kernel_rfl)
theorem s16:Place.Spec PurP 16:=Place.ok hm (by kernel_rfl)
theorem s35:from.Spec PurP 35:=from.ok hm (by kernel_rfl) s67 s16
theorem cf32:de Tryz.prog 32=some (n8 35 3 70):=by kernel_rfl
theorem s32:rows.Spec PurP 32:=rows.ok hm cf32 s35
theorem s33:phase.Spec PurP 33:=phase.ok hm (by kernel_rfl) s35
theorem s102:fe.Spec PurP 102 109:=fe.ok hm (by kernel_rfl)
theorem s66:where.Spec PurP 66:=where.ok hm (by kernel_rfl) s102
theorem s34:beside.Spec PurP 34:=beside.ok hm (by kernel_rfl) s66
theorem s103:t6.Spec PurP 103:=t6.ok hm (by kernel_rfl)
theorem s69:pI.Spec PurP 69 3:=pI.ok hm (by kernel_rfl) s103
theorem s68:zc.Spec PurP 68:=zc.ok hm (by kernel_rfl)
theorem s36:sw.Spec PurP 36:=sw.ok hm (by kernel_rfl) s69 s68
theorem s37:ry.Spec PurP 37:=ry.ok hm (by kernel_rfl) s35
theorem cf70:de Tryz.prog 70=some (oa 3 68 34 36):=by kernel_rfl
theorem s70:with.Spec PurP 70:=with.ok hm cf70 s68 s34 s36
theorem s38:JC.Spec PurP 38:=JC.ok hm (by kernel_rfl) s35 s70
theorem cf104:de Tryz.prog 104=some (qS 3 68):=by kernel_rfl
theorem s104_1:on.Spec PurP 104:=on.ok hm cf104 s68
theorem s63:Cut.Spec PurP 63:=Cut.ok hm (by kernel_rfl)
theorem s107:Cap.Spec PurP 107:=Cap.ok hm (by kernel_rfl) s63
theorem s134:Add.Spec PurP 134:=Add.ok hm (by kernel_rfl) s107
theorem s106:vm.Spec PurP 106:=Sum.ok hm (by kernel_rfl) s134
theorem s72:vm.Spec PurP 72:=vm.ok hm (by kernel_rfl) s106
theorem s109:most.Spec PurP 109:=most.ok hm (by kernel_rfl)
theorem cf133:de Tryz.prog 133=some (mZ 104 103 107 3 72 109):=by kernel_rfl
theorem s133:serve.Spec PurP 133:=serve.ok hm cf133 s104_1 s103 s107 s72 s109
theorem cf105:de Tryz.prog 105=some (oc 3 102 133 72):=by kernel_rfl
theorem s105:pass.Spec PurP 105:=pass.ok hm cf105 s102 s133 s72
theorem cf71:de Tryz.prog 71=some (ob 66 104 103 105 3 72):=by kernel_rfl
theorem s71:free.Spec PurP 71:=free.ok hm cf71 s66 s104_1 s103 s105 s72
theorem s110:clear.Spec PurP 110:=clear.ok hm (by kernel_rfl) s104_1 s69 s72 s109
theorem cf108:de Tryz.prog 108=some (mY 110 3 72):=by kernel_rfl
theorem s108:entry.Spec PurP 108:=entry.ok hm cf108 s110 s72
theorem s74:BX.Spec PurP 74:=BX.ok hm (by kernel_rfl) s108 s72 s104_1 s69 s107 s109 s110
theorem s73:Mul.Spec PurP 73:=Mul.ok hm (by kernel_rfl) s107
theorem cf39:de Tryz.prog 39=some (n9 71 3 72 74 73):=by kernel_rfl
theorem s39:wait.Spec PurP 39:=wait.ok hm cf39 s71 s72 s74 s73
theorem cf13:de Tryz.prog 13=some (mX 32 33 34 35 36 37 73 38 77 79 39):=by kernel_rfl
theorem s13:Table.Spec PurP 13:=Table.ok hm cf13 s32 s33 s34 s35 s36 s37 s38 s39
theorem s45:KM.Spec PurP 45:=KM.ok hm (by kernel_rfl)
theorem cf29:de Tryz.prog 29=some (kj 5 63):=by kernel_rfl
theorem s29:B8.Spec PurP 29:=B8.ok hm cf29 s63
theorem s46:Bm.Spec PurP 46:=Bm.ok hm (by kernel_rfl) s29
theorem s29_1:D3.Spec PurP 5 29:=D3.ok hm (by kernel_rfl) s63
theorem s46_1:Ad.Spec PurP 5 46:=Ad.ok hm (by kernel_rfl) s29_1
theorem s47:A5.Spec PurP 47:=A5.ok hm (by kernel_rfl) s29
theorem cf15:de Tryz.prog 15=some (og 5 45 29 3 46 47):=by kernel_rfl
theorem s15:D4.Spec PurP 5 15:=D4.ok hm cf15 s45 s29 s46 s46_1 s47
theorem s28:Hq.Spec PurP 28:=Hq.ok hm (by kernel_rfl)
theorem s11:DX.Spec PurP 11:=DX.ok hm (by kernel_rfl) s28 s29
theorem s18:DP.Spec PurP 36 18:=DP.ok hm (by kernel_rfl)
theorem cf48:de Tryz.prog 48=some (ei 5):=by kernel_rfl
theorem s48:zA.Spec PurP 48:=zA.ok hm cf48
theorem s19:JA.Spec PurP 19:=JA.ok hm (by kernel_rfl) s48
theorem s89:Dp.Spec PurP 36 89:=Dp.ok hm (by kernel_rfl)
theorem s24:A3.Spec PurP 24:=A3.ok hm (by kernel_rfl)
theorem s91:wz.Spec PurP 36 91:=wz.ok hm (by kernel_rfl)
theorem s127:Dn.Spec PurP 36 127:=Dn.ok hm (by kernel_rfl) s24 s91
theorem s90:wA.Spec PurP 36 90:=wA.ok hm (by kernel_rfl) s127
theorem s49:G8.Spec PurP 49:=G8.ok hm (by kernel_rfl) s89 s90 s91
theorem s92:zy.Spec PurP 92:=zy.ok hm (by kernel_rfl)
theorem s50:ux.Spec PurP 36 50:=ux.ok hm (by kernel_rfl) s92
theorem s20:xQ.Spec PurP 36 20:=xQ.ok hm (by kernel_rfl) s49 s50
theorem s128:Dr.Spec PurP 128:=Dr.ok hm (by kernel_rfl) s49
theorem s93:Kb.Spec PurP 36 93:=Kb.ok hm (by kernel_rfl) s128 s50
theorem s56:xG.Spec PurP 36 56:=xG.ok hm (by kernel_rfl) s20
theorem s51:VG.Spec PurP 36 51:=VG.ok hm (by kernel_rfl) s93 s56 s20
theorem cf52:ji true Tryz.prog 52=some (dX 20 3):=by kernel_rfl
theorem s52:Kf.Spec PurP 36 52:=Kf.ok hm cf52 s20
theorem s53:Hr.Spec PurP 36 53:=Hr.ok hm (by kernel_rfl) s20
theorem s22:Sf.Spec PurP 22:=Sf.ok hm (by kernel_rfl)
theorem s144:Dq.Spec PurP 36 144:=Dq.ok hm (by kernel_rfl)
theorem s129:zz.Spec PurP 129:=zz.ok hm (by kernel_rfl) s144 s90
theorem s112:JM.Spec PurP 112:=JM.ok hm (by kernel_rfl)
theorem s135:JK.Spec PurP 135:=JK.ok hm (by kernel_rfl)
theorem s111:JL.Spec PurP 111:=JL.ok hm (by kernel_rfl) s135
theorem s75:Vq.Spec PurP 75:=Vq.ok hm (by kernel_rfl) s112 s111
theorem s118:DC.Spec PurP 118:=DC.ok hm (by kernel_rfl)
theorem s138:JJ.Spec PurP 138:=JJ.ok hm (by kernel_rfl)
theorem s147:JH.Spec PurP 147:=JH.ok hm (by kernel_rfl)
theorem s137:JI.Spec PurP 137:=JI.ok hm (by kernel_rfl) s147
theorem s116:Si.Spec PurP 116:=Si.ok hm (by kernel_rfl) s138 s137
theorem s79:within.Spec PurP 79:=within.ok hm (by kernel_rfl) s118 s116
theorem s86:pS.Spec PurP 86:=pS.ok hm (by kernel_rfl) s79
theorem cf76:de Tryz.prog 76=some (nr 3 86 79):=by kernel_rfl
theorem s76:zM.Spec PurP 76:=zM.ok hm cf76 s86 s79
theorem s114:JP.Spec PurP 114:=JP.ok hm (by kernel_rfl)
theorem s136:JN.Spec PurP 136:=JN.ok hm (by kernel_rfl)
theorem s113:JO.Spec PurP 113:=JO.ok hm (by kernel_rfl) s136
theorem s77:Vr.Spec PurP 77:=Vr.ok hm (by kernel_rfl) s114 s113
theorem cf117:de Tryz.prog 117=some (jN 3 79):=by kernel_rfl
theorem s117:JZ.Spec PurP 117:=JZ.ok hm cf117 s79
theorem s115:Vv.Spec PurP 115:=Vv.ok hm (by kernel_rfl) s116 s117
theorem s78:zN.Spec PurP 78:=zN.ok hm (by kernel_rfl) s115
theorem s120:JS.Spec PurP 120:=JS.ok hm (by kernel_rfl)
theorem s139:JQ.Spec PurP 139:=JQ.ok hm (by kernel_rfl)
theorem s119:JR.Spec PurP 119:=JR.ok hm (by kernel_rfl) s139
theorem s80:Vs.Spec PurP 80:=Vs.ok hm (by kernel_rfl) s120 s119
theorem s121:DE.Spec PurP 121:=DE.ok hm (by kernel_rfl)
theorem s140:zn.Spec PurP 140:=zn.ok hm (by kernel_rfl)
theorem s141:Sj.Spec PurP 141:=Sj.ok hm (by kernel_rfl)
theorem s122:DD.Spec PurP 122:=DD.ok hm (by kernel_rfl) s140 s141
theorem cf81:de Tryz.prog 81=some (kq 121 3 79 122 86):=by kernel_rfl
theorem s81:J0.Spec PurP 81:=J0.ok hm cf81 s121 s79 s122 s86
theorem s124:JV.Spec PurP 124:=JV.ok hm (by kernel_rfl)
theorem s142:JT.Spec PurP 142:=JT.ok hm (by kernel_rfl)
theorem s123:JU.Spec PurP 123:=JU.ok hm (by kernel_rfl) s142
theorem s82:Vt.Spec PurP 82:=Vt.ok hm (by kernel_rfl) s124 s123
theorem cf83:de Tryz.prog 83=some (oe 3 79 86):=by kernel_rfl
theorem s83:DG.Spec PurP 83:=DG.ok hm cf83 s79 s86
theorem s126:JY.Spec PurP 126:=JY.ok hm (by kernel_rfl)
theorem s143:JW.Spec PurP 143:=JW.ok hm (by kernel_rfl)
theorem s125:JX.Spec PurP 125:=JX.ok hm (by kernel_rfl) s143
theorem s84:Vu.Spec PurP 84:=Vu.ok hm (by kernel_rfl) s126 s125
theorem cf85:de Tryz.prog 85=some (pQ 3 79 86):=by kernel_rfl
theorem s85:J1.Spec PurP 85:=J1.ok hm cf85 s79 s86
theorem cf40:de Tryz.prog 40=some (pP 75 76 77 78 79 80 81 82 83 84 85 3 86):=by kernel_rfl
theorem s40:Hi.Spec PurP 40:=Hi.ok hm cf40 s75 s76 s77 s78 s79 s80 s81 s82 s83 s84 s85 s86
theorem cf94:ji true Tryz.prog 94=some (f8 22 129 50 73 40 36):=by kernel_rfl
theorem s94:Ke.Spec PurP 36 94:=Ke.ok hm cf94 s22 s129 s50 s40
theorem s95:Rv.Spec PurP 95:=Xn.ok hm (by kernel_rfl)
theorem s96:Rw.Spec PurP 96:=Xp.ok hm (by kernel_rfl)
theorem s97:Rx.Spec PurP 97:=Xq.ok hm (by kernel_rfl)
theorem s98:Ry.Spec PurP 98:=Xr.ok hm (by kernel_rfl)
theorem s54:Kg.Spec PurP 36 54:=Kg.ok hm (by kernel_rfl) s20 s94 s95 s96 s97 s98 s56
theorem s55:VH.Spec PurP 36 55:=VH.ok hm (by kernel_rfl) s53 s56 s20
theorem cf21:ji true Tryz.prog 21=some (ew 51 20 52 70 53 54 73 55 77 56 79):=by kernel_rfl
theorem s21:Kh.Spec PurP 36 21:=Kh.ok hm cf21 s51 s20 s52 s53 s54 s55 s56
theorem s99:jc.Spec PurP 99:=jc.ok hm (by kernel_rfl)
theorem s57:wO.Spec PurP 57:=wO.ok hm (by kernel_rfl) s99
theorem s23:Be.Spec PurP 23:=Be.ok hm (by kernel_rfl) s57
theorem s9:sN.Spec PurP 9:=sN.ok hm (by kernel_rfl) s18 s19 s20 s21 s22 s23 s24
theorem s27:Oa.Spec PurP 27:=Oa.ok hm (by kernel_rfl)
theorem s64:A6.Spec PurP 64:=A6.ok hm (by kernel_rfl)
theorem s26:wC.Spec PurP 26:=wC.ok hm (by kernel_rfl) s27 s63 s64
theorem s100:A7.Spec PurP 100:=A7.ok hm (by kernel_rfl) s26
theorem s62:rL.Spec PurP 62:=rL.ok hm (by kernel_rfl) s26
theorem s58:J4.Spec PurP 58:=J4.ok hm (by kernel_rfl) s100 s62 s26
theorem cf59:de Tryz.prog 59=some (jm 26 3):=by kernel_rfl
theorem s59:DJ.Spec PurP 59:=DJ.ok hm cf59 s26
theorem s130:zB.Spec PurP 130:=zB.ok hm (by kernel_rfl) s27 s64
theorem s131:zS.Spec PurP 131:=zS.ok hm (by kernel_rfl)
theorem s146:zo.Spec PurP 146:=zo.ok hm (by kernel_rfl)
theorem s132:rJ.Spec PurP 132:=rJ.ok hm (by kernel_rfl) s146 s141
theorem s101:wM.Spec PurP 101:=wM.ok hm (by kernel_rfl) s130 s27 s131 s132
theorem s60:DK.Spec PurP 60:=DK.ok hm (by kernel_rfl) s26 s101 s62
theorem s61:J5.Spec PurP 61:=J5.ok hm (by kernel_rfl) s26 s62
theorem cf25:de Tryz.prog 25=some (gZ 58 26 59 70 60 73 61 77 62 79):=by kernel_rfl
theorem s25:zU.Spec PurP 25:=zU.ok hm cf25 s58 s26 s59 s60 s61 s62
theorem s10:sL.Spec PurP 10:=sL.ok hm (by kernel_rfl) s25 s26 s27 s28
theorem cf87:ji true Tryz.prog 87=some (ru 5):=by kernel_rfl
theorem s87:G9.Spec PurP 87:=G9.ok hm cf87
theorem s41:xH.Spec PurP 41:=xH.ok hm (by kernel_rfl) s87
theorem cf42:de Tryz.prog 42=some (jP 3 41):=by kernel_rfl
theorem s42:Bh.Spec PurP 42:=Bh.ok hm cf42 s41
theorem cf43:de Tryz.prog 43=some (jQ 3 41):=by kernel_rfl
theorem s43:Bj.Spec PurP 43:=Bj.ok hm cf43 s41
theorem s88:Du.Spec PurP 88:=Du.ok hm (by kernel_rfl) s87
theorem s44:Bi.Spec PurP 44:=Bi.ok hm (by kernel_rfl) s88
theorem cf14:de Tryz.prog 14=some (kz 40 3 41 4 42 43 71 44 23):=by kernel_rfl
theorem s14:sP.Spec PurP 14:=sP.ok hm cf14 s40 s41 s42 s43 s44 s23
theorem s8:vP.Spec PurP 8:=vP.ok hm (by kernel_rfl) s9 s14
theorem s30:DT.Spec PurP 30:=DT.ok hm (by kernel_rfl)
theorem s31:DU.Spec PurP 31:=DU.ok hm (by kernel_rfl)
theorem cf12:de Tryz.prog 12=some (dI 3 30 31):=by kernel_rfl
theorem s12:DW.Spec PurP 12:=DW.ok hm cf12 s30 s31
theorem s17:Dv.Spec PurP 17:=Dv.ok hm (by kernel_rfl)
theorem s5:sR.Spec PurP 5:=sR.ok hm (by kernel_rfl) s13 s15 s16 s11 s9 s10 s8 s14 s12 s17
end Go.Proofs.YtkckiembbiiliaaGreat
