/- The engine and the library,part 18 of 18: what the proofs of this seat need of them. -/
import Derived.Test.YtkckiembbiiliaaGreatPk17
set_option linter.unnecessarySimpa false
set_option linter.unusedSimpArgs false
set_option linter.unusedVariables false
set_option linter.defProp false
set_option maxRecDepth 10000
set_option maxHeartbeats 4000000
namespace Go.Eng
open Go
def rH.Spec(C:bt) (f:Nat):Prop:=C.c f [] (B true) none
theorem Ab{v n:Int} (hn:0<n) (h2:n<100000):0<=place v n/\place v n<n:=by
 have h3:=Int.tmod_lt_of_pos v hn
 have h4:-n<v.tmod n:=by have:=Int.lt_tmod_of_pos v hn;omega
 simp only[place];split
 ·rw[gz (by omega) (by omega)];omega
 ·omega
theorem Qu:cR.Fw:=fun d hd=>by cases hd
theorem Bm(t:Tb) (c a:Int):qP (t,c,a)=.o7 [.agg t.cells,.agg [I c,I a]]:=rfl
section
variable{P:Program} (hm:P.follows .mixedOrders=true) {f:Nat}
include hm
theorem rH.ok{fD fE:Nat} (hc:dY P f=some (qM fD fE)) (hD:oT.Spec (Pure P) fD) (hE:oU.Spec (Pure P) fE):rH.Spec (Pure P) f:=by
 have z3:cq=cR.cells:=rfl
 have z0:cR.cells.length=131:=rfl
 have z1:bF cR.cells 0 (some 131)=some (.agg cR.cells):=rfl
 have z2:setCells cR.cells 0 cR.cells=cR.cells:=gu rfl
 have z4:∀x y u v:AV,setCells [u,v] 0 [x,y]=[x,y]:=fun _ _ _ _=>rfl
 have y3:∀x y:AV,bF [x,y] 0 (some 2)=some (.agg [x,y]):=fun _ _=>rfl
 have cD:=hD none (by simp) (fun x hx=>by cases hx)
 have d0:lS []=(cR,2,0):=by decide
 rw[Option.getD_none,d0,Bm]at cD
 have cE:=hE cR ⟨rfl,rfl,rfl⟩ Qu
 have m0:oP cR=true:=by decide
 unfold CS at cE;rw[if_pos m0]at cE
 have hge:=Bl cR
 have hsl:=yO (iG cR)
 obtain⟨L,hL⟩:∃L,L=j4 (iG cR):=⟨_,rfl⟩
 have hL0:L[0]? =some 88:=by rw[hL];rfl
 rw[<-hL]at hsl cE
 have hb:(0:Int)<(L.length:Int):=by omega
 have hb3:decide ((L.length:Int)>3)=true:=by simp;omega
 refine aH hm hc (by show 0<=37;decide) (ay (keep:=[]) (i:=0) ?_)
 try simp only[I,B,D,RY,↓KW,seval,qM,Z.H,z3,z0,z1,z2]
 refine aj cD ?_;try simp only[I,B,D,RY,↓KW,seval,z3,z0,z1,z2,z4,y3]
 refine aj cE ?_
 have xf:(true !=false)=true:=rfl
 try simp only[I,B,D,RY,↓KW,seval,z3,z0,z1,z2,z4,y3,Option.getD_some,hb,hb3,hL0,gP,xf]
 all_goals rfl
end
section
open Z
def mG(g0 g1 g2 g3 g4 g5 g6 g7 g8 g9:Nat):cU:=⟨100,[.tmp 6],.seq (.aF [⟨(some 6),.o (.mv (.k (.bool false))),none⟩]) (.seq (.aF [⟨(some 16),.o (.mv (.t 0)),none⟩,⟨(some 17),.call g0 [(.t 16)],none⟩,⟨(some 18),.call g1 [(.t 17)],none⟩,⟨(some 7),.o (.mv (.t 18)),none⟩]) (.join (.seq (.aF [⟨(some 8),.o (.mv (.k (.int .i64 0))),none⟩]) (.block 0 (.loop (.join (.seq (.aF [⟨(some 19),.o (.mv (.t 8)),none⟩,⟨(some 20),.o (.mv (.t 1)),none⟩,⟨(some 21),.o (.jW (.t 20)),none⟩,⟨(some 22),.o (.bin .lss (.t 19) (.t 21)),none⟩,⟨(some 23),.o (.mv (.t 22)),none⟩,⟨(some 24),.o (.mv (.t 8)),(some (23,true))⟩,⟨(some 25),.o (.mv (.t 2)),(some (23,true))⟩,⟨(some 26),.o (.jW (.t 25)),(some (23,true))⟩,⟨(some 27),.o (.bin .lss (.t 24) (.t 26)),(some (23,true))⟩,⟨(some 28),.o (.pick (.t 23) (.t 27) (.k (.bool false))),none⟩,⟨(some 29),.o (.mv (.t 28)),none⟩,⟨(some 30),.o (.mv (.t 8)),(some (29,true))⟩,⟨(some 31),.o (.bin .lss (.t 30) (.k (.int .i64 4))),(some (29,true))⟩,⟨(some 32),.o (.pick (.t 29) (.t 31) (.k (.bool false))),none⟩]) (.cond (.t 32) .skip (.exit 0))) (.join (.block 1 (.seq (.aF [⟨(some 35),.o (.mv (.t 1)),none⟩,⟨(some 36),.o (.mv (.t 8)),none⟩,⟨(some 37),.o (.wk (.t 35) (.t 36) 1),none⟩,⟨(some 38),.o (.ld (.t 37) none),none⟩,⟨(some 39),.o (.mv (.t 7)),none⟩,⟨(some 40),.o (.jW (.t 39)),none⟩,⟨(some 41),.call g2 [(.t 38),(.t 40)],none⟩,⟨(some 9),.o (.mv (.t 41)),none⟩]) (.zf [⟨(some 42),.mv (.t 7),none⟩,⟨(some 43),.mv (.t 9),none⟩,⟨(some 44),.mv (.t 7),none⟩,⟨(some 45),.mv (.t 9),none⟩,⟨(some 46),.wk (.t 44) (.t 45) 1,none⟩,⟨(some 47),.ld (.t 46) none,none⟩,⟨(some 48),.mv (.t 2),none⟩,⟨(some 49),.mv (.t 8),none⟩,⟨(some 50),.wk (.t 48) (.t 49) 1,none⟩,⟨(some 51),.ld (.t 50) none,none⟩,⟨(some 52),.bin .xor (.t 47) (.t 51),none⟩,⟨(some 53),.wk (.t 42) (.t 43) 1,none⟩,⟨none,.st (.t 53) (.t 52) 1,none⟩]))) (.aF [⟨(some 33),.o (.mv (.t 8)),none⟩,⟨(some 34),.o (.bin .add (.t 33) (.k (.int .i64 1))),none⟩,⟨(some 8),.o (.mv (.t 34)),none⟩])))))) (.seq (.aF [⟨(some 54),.o (.mv (.t 7)),none⟩,⟨(some 55),.call g3 [(.t 54)],none⟩,⟨(some 7),.o (.mv (.t 55)),none⟩]) (.seq (.aF [⟨(some 57),.o (.mv (.t 7)),none⟩,⟨(some 58),.call g4 [(.t 57)],none⟩,⟨(some 56),.o (.mv (.t 58)),none⟩,⟨(some 59),.o (.ext (.t 56) 0),none⟩,⟨(some 60),.o (.ext (.t 56) 1),none⟩,⟨(some 10),.o (.alloc cq),none⟩,⟨(some 11),.o (.alloc [(.int .i64 0),(.int .i64 0)]),none⟩,⟨none,.o (.st (.t 10) (.t 59) 131),none⟩,⟨none,.o (.st (.t 11) (.t 60) 2),none⟩]) (.seq (.aF [⟨(some 62),.o (.mv (.t 7)),none⟩,⟨(some 63),.call g5 [(.t 62)],none⟩,⟨(some 61),.o (.mv (.t 63)),none⟩,⟨(some 64),.o (.ext (.t 61) 0),none⟩,⟨(some 65),.o (.ext (.t 61) 1),none⟩,⟨(some 12),.o (.alloc cq),none⟩,⟨(some 13),.o (.alloc [(.int .i64 0),(.int .i64 0)]),none⟩,⟨none,.o (.st (.t 12) (.t 64) 131),none⟩,⟨none,.o (.st (.t 13) (.t 65) 2),none⟩]) (.join (.seq (.aF [⟨(some 66),.o (.fa (.t 11) 0),none⟩,⟨(some 67),.o (.ld (.t 66) none),none⟩,⟨(some 68),.o (.bin .neq (.t 67) (.k (.int .i64 0))),none⟩]) (.cond (.t 68) (.seq (.aF [⟨(some 69),.o (.ld (.t 11) (some 2)),none⟩,⟨(some 70),.o (.ld (.t 13) (some 2)),none⟩,⟨(some 71),.o (.eqc [.i,.i] false (.t 69) (.t 70)),none⟩,⟨(some 72),.o (.mv (.t 71)),none⟩,⟨(some 73),.call g6 [],(some (72,true))⟩,⟨(some 74),.o (.pick (.t 72) (.t 73) (.k (.bool false))),none⟩,⟨(some 6),.o (.mv (.t 74)),none⟩]) .ret) .skip)) (.seq (.aF [⟨(some 76),.o (.ld (.t 10) (some 131)),none⟩,⟨(some 77),.call g7 [(.t 76)],none⟩,⟨(some 75),.o (.mv (.t 77)),none⟩,⟨(some 78),.o (.ext (.t 75) 0),none⟩,⟨(some 79),.o (.ext (.t 75) 1),none⟩,⟨(some 14),.o (.mv (.t 78)),none⟩,⟨(some 15),.o (.mv (.t 79)),none⟩]) (.seq (.aF [⟨(some 80),.o (.fa (.t 13) 0),none⟩,⟨(some 81),.o (.ld (.t 80) none),none⟩,⟨(some 82),.o (.bin .eql (.t 81) (.k (.int .i64 0))),none⟩,⟨(some 83),.o (.mv (.t 82)),none⟩,⟨(some 84),.o (.ld (.t 10) (some 131)),(some (83,true))⟩,⟨(some 85),.o (.ld (.t 12) (some 131)),(some (83,true))⟩,⟨(some 86),.call g8 [(.t 84),(.t 85)],(some (83,true))⟩,⟨(some 87),.o (.pick (.t 83) (.t 86) (.k (.bool false))),none⟩,⟨(some 88),.o (.mv (.t 87)),none⟩,⟨(some 89),.o (.mv (.t 15)),(some (88,true))⟩,⟨(some 90),.o (.bin .eql (.t 89) (.k (.int .i64 0))),(some (88,true))⟩,⟨(some 91),.o (.pick (.t 88) (.t 90) (.k (.bool false))),none⟩,⟨(some 92),.o (.mv (.t 91)),none⟩,⟨(some 93),.o (.mv (.t 7)),(some (92,true))⟩,⟨(some 94),.o (.mv (.t 14)),(some (92,true))⟩,⟨(some 95),.call g9 [(.t 93),(.t 94)],(some (92,true))⟩,⟨(some 96),.o (.pick (.t 92) (.t 95) (.k (.bool false))),none⟩,⟨(some 97),.o (.mv (.t 96)),none⟩,⟨(some 98),.call g6 [],(some (97,true))⟩,⟨(some 99),.o (.pick (.t 97) (.t 98) (.k (.bool false))),none⟩,⟨(some 6),.o (.mv (.t 99)),none⟩]) .ret))))))))⟩
def iZ(g0 g1 g2 g3 g4 g5 g6 g7:Nat):cU:=⟨76,[.tmp 8],.seq (.aF [⟨(some 8),.o (.mv (.k (.bool false))),none⟩]) (.seq (.aF [⟨(some 18),.o (.mv (.t 0)),none⟩,⟨(some 19),.call g0 [(.t 18)],none⟩,⟨(some 20),.call g1 [(.t 19)],none⟩,⟨(some 17),.o (.mv (.t 20)),none⟩,⟨(some 21),.o (.ext (.t 17) 0),none⟩,⟨(some 22),.o (.ext (.t 17) 1),none⟩,⟨(some 9),.o (.mv (.t 21)),none⟩,⟨(some 10),.o (.mv (.t 22)),none⟩]) (.join (.seq (.aF [⟨(some 23),.o (.mv (.t 10)),none⟩,⟨(some 24),.o (.bin .neq (.t 23) (.k (.int .i64 0))),none⟩,⟨(some 25),.o (.mv (.t 24)),none⟩,⟨(some 26),.o (.mv (.t 9)),(some (25,false))⟩,⟨(some 27),.o (.jW (.t 26)),(some (25,false))⟩,⟨(some 28),.o (.bin .eql (.t 27) (.k (.int .i64 0))),(some (25,false))⟩,⟨(some 29),.o (.pick (.t 25) (.k (.bool true)) (.t 28)),none⟩]) (.cond (.t 29) (.seq (.aF [⟨(some 8),.o (.mv (.k (.bool false))),none⟩]) .ret) .skip)) (.seq (.aF [⟨(some 30),.o (.mv (.t 9)),none⟩,⟨(some 31),.MZ g2 1 1 (.t 30),none⟩,⟨(some 11),.o (.mv (.t 31)),none⟩]) (.join (.seq (.aF [⟨(some 32),.o (.mv (.t 1)),none⟩,⟨(some 33),.o (.mv (.t 2)),none⟩,⟨(some 34),.o (.mv (.t 3)),none⟩,⟨(some 35),.o (.gA g3 1 [(.t 32),(.t 33),(.t 34)]),none⟩,⟨(some 36),.o (.jW (.t 35)),none⟩,⟨(some 37),.o (.mv (.k (.int .i64 0))),none⟩]) (.block 0 (.loop (.seq (.aF [⟨(some 38),.o (.bin .lss (.t 37) (.t 36)),none⟩]) (.join (.cond (.t 38) .skip (.exit 0)) (.join (.block 1 (.seq (.aF [⟨(some 39),.o (.wk (.t 35) (.t 37) 1),none⟩,⟨(some 40),.o (.ld (.t 39) none),none⟩,⟨(some 13),.o (.mv (.t 40)),none⟩]) (.seq (.aF [⟨(some 41),.o (.mv (.t 13)),none⟩,⟨(some 42),.o (.mv (.t 11)),none⟩,⟨(some 43),.o (.jW (.t 42)),none⟩,⟨(some 44),.o (.bin .mul (.k (.int .i64 8)) (.t 43)),none⟩,⟨(some 45),.call g4 [(.t 41),(.t 44)],none⟩,⟨(some 14),.o (.mv (.t 45)),none⟩]) (.aF [⟨(some 46),.o (.mv (.t 11)),none⟩,⟨(some 47),.o (.mv (.t 14)),none⟩,⟨(some 48),.o (.bin .quo (.t 47) (.k (.int .i64 8))),none⟩,⟨(some 49),.o (.mv (.t 11)),none⟩,⟨(some 50),.o (.mv (.t 14)),none⟩,⟨(some 51),.o (.bin .quo (.t 50) (.k (.int .i64 8))),none⟩,⟨(some 52),.o (.wk (.t 49) (.t 51) 1),none⟩,⟨(some 53),.o (.ld (.t 52) none),none⟩,⟨(some 54),.o (.mv (.t 14)),none⟩,⟨(some 55),.o (.bin .rem (.t 54) (.k (.int .i64 8))),none⟩,⟨(some 56),.o (.nk .u64 (.t 55)),none⟩,⟨(some 57),.o (.bin .shl (.k (.int .u8 1)) (.t 56)),none⟩,⟨(some 58),.o (.bin .xor (.t 53) (.t 57)),none⟩,⟨(some 59),.o (.wk (.t 46) (.t 48) 1),none⟩,⟨none,.o (.st (.t 59) (.t 58) 1),none⟩])))) (.aF [⟨(some 60),.o (.bin .add (.t 37) (.k (.int .i64 1))),none⟩,⟨(some 37),.o (.mv (.t 60)),none⟩]))))))) (.seq (.aF [⟨(some 62),.o (.mv (.t 11)),none⟩,⟨(some 63),.call g5 [(.t 62)],none⟩,⟨(some 61),.o (.mv (.t 63)),none⟩,⟨(some 64),.o (.ext (.t 61) 0),none⟩,⟨(some 65),.o (.ext (.t 61) 1),none⟩,⟨(some 15),.o (.alloc cq),none⟩,⟨(some 16),.o (.alloc [(.int .i64 0),(.int .i64 0)]),none⟩,⟨none,.o (.st (.t 15) (.t 64) 131),none⟩,⟨none,.o (.st (.t 16) (.t 65) 2),none⟩]) (.seq (.zf [⟨(some 66),.fa (.t 16) 0,none⟩,⟨(some 67),.ld (.t 66) none,none⟩,⟨(some 68),.bin .eql (.t 67) (.k (.int .i64 0)),none⟩,⟨(some 69),.mv (.t 11),none⟩,⟨(some 70),.mv (.t 9),none⟩,⟨(some 71),.call g6 [(.t 69),(.t 70)],none⟩,⟨(some 72),.bb false (.t 68) (.t 71),none⟩,⟨(some 73),.mv (.t 72),none⟩,⟨(some 74),.call g7 [],(some (73,true))⟩,⟨(some 75),.pick (.t 73) (.t 74) (.k (.bool false)),none⟩,⟨(some 8),.mv (.t 75),none⟩]) .ret))))))⟩
end
def UZ.Spec(C:bt) (e f:Nat):Prop:=∀t:Tb,t.Ln->oP t=true->C.c f [.agg t.cells] (.sl ((iG t).map gP)) (some e)
def rM(x:Int):Bool:=gk x.toNat.testBit 8
def kN(l:List Int):Bool:=l.foldl (fun p x=>p^^rM x) false
theorem Ac(l:List Int):∀p,l.foldl (fun p x=>p^^rM x) p=(p^^kN l):=by
 induction l with
 |nil=>intro p;simp[kN]
 |cons x l ih=>
  intro p
  have e:kN (x::l)=((false^^rM x)^^kN l):=by show l.foldl _ (false^^rM x)=_;rw[ih]
  rw[List.foldl_cons,ih,e]
  cases p<;>cases rM x<;>cases kN l<;>rfl
theorem om(x:Int) (l:List Int):kN (x::l)=(rM x^^kN l):=by
 show l.foldl _ (false^^rM x)=_
 rw[Ac];simp
theorem yP(l m:List Int):kN (l++m)=(kN l^^kN m):=by
 unfold kN;rw[List.foldl_append];exact Ac m _
theorem mH{f g:Nat->Bool}:∀{n:Nat},(∀i,i<n->f i=g i)->gk f n=gk g n
 |0,_=>rfl
 |n+1,h=>by rw[gk,gk,h n (by omega),mH (fun i hi=>h i (by omega))]
theorem yQ(f:Nat->Bool) (m:Nat):∀n,gk f (m+n)=(gk f m^^gk (fun i=>f (m+i)) n)
 |0=>by simp[gk]
 |n+1=>by
  rw[<-Nat.add_assoc,gk,gk,yQ f m n]
  cases f (m+n)<;>cases gk f m<;>cases gk (fun i=>f (m+i)) n<;>rfl
theorem Gk(x:Nat) (h:x<256):od (BitVec.ofNat 16 x<<<8)=gk x.testBit 8:=by
 unfold od
 rw[show(16:Nat)=8+8 from rfl,yQ]
 have e1:gk (BitVec.ofNat 16 x<<<8).getLsbD 8=false:=by
  have:gk (BitVec.ofNat 16 x<<<8).getLsbD 8=gk (fun _=>false) 8:=mH fun i hi=>by
   rw[BitVec.getLsbD_shiftLeft];simp[hi]
  rw[this];rfl
 rw[e1,Bool.false_xor]
 refine mH fun i hi=>?_
 rw[BitVec.getLsbD_shiftLeft,BitVec.getLsbD_ofNat,Nat.add_sub_cancel_left]
 have h1:decide (8+i<16)=true:=by simp;omega
 have h2:decide (8+i<8)=false:=by simp
 have h3:decide (i<16)=true:=by simp;omega
 rw[h1,h2,h3];simp
theorem EY:∀(l:List Int) (c:W),nE l->od (kZ c l)=(od c^^kN l)
 |[],c,_=>by simp[kZ,kN]
 |x::l,c,h=>by
  have hx:=h x List.mem_cons_self
  have e:kZ c (x::l)=kZ (Gc c x.toNat) l:=rfl
  rw[e,EY l _ (fun y hy=>h y (List.mem_cons_of_mem _ hy)),om]
  unfold Gc
  rw[CJ,CI,Gk x.toNat (by omega)]
  unfold rM
  cases od c<;>cases gk x.toNat.testBit 8<;>cases kN l<;>rfl
theorem Ms(w:W):kN (mJ (w.toNat:Int) 2)=od w:=by
 have e:mJ (w.toNat:Int) 2=[mD w.toNat 1,mD w.toNat 0]:=rfl
 rw[e,om,om,jN,jN]
 have h1:((w.toNat:Int)/256^1%256).toNat=w.toNat/256%256:=by omega
 have h0:((w.toNat:Int)/256^0%256).toNat=w.toNat%256:=by simp;omega
 unfold rM od;rw[h1,h0]
 show _=gk w.getLsbD (8+8)
 rw[yQ]
 have a0:gk (w.toNat%256).testBit 8=gk w.getLsbD 8:=mH fun i hi=>by
  rw[show(256:Nat)=2^8 from rfl,Nat.testBit_mod_two_pow];simp[hi,BitVec.getLsbD]
 have a1:gk (w.toNat/256%256).testBit 8=gk (fun i=>w.getLsbD (8+i)) 8:=mH fun i hi=>by
  rw[show(256:Nat)=2^8 from rfl,Nat.testBit_mod_two_pow,Nat.testBit_div_two_pow];simp[hi,BitVec.getLsbD,Nat.add_comm]
 rw[a0,a1]
 have:kN []=false:=rfl
 rw[this,Bool.xor_false,Bool.xor_comm]
theorem CZ{b:List Int} (h:nE b):kN (j4 b)=false:=by
 unfold j4;rw[yP,Ms,EY b _ h]
 have:od 0xffff#16=false:=by decide
 rw[this]
 cases kN b<;>rfl
theorem U0:∀x:_root_.Fin 256,∀i:_root_.Fin 8,(qi .u8 (x.val:Int) (2^i.val)>=0/\qi .u8 (x.val:Int) (2^i.val)<256)/\rM (qi .u8 (x.val:Int) (2^i.val))=!rM (x.val:Int):=by decide+kernel
theorem Mt{x:Int} (h0:0<=x) (h:x<256) {i:Nat} (hi:i<8):(0<=qi .u8 x (2^i)/\qi .u8 x (2^i)<256)/\rM (qi .u8 x (2^i))=!rM x:=by
 have:=U0 ⟨x.toNat,by omega⟩ ⟨i,hi⟩
 simp only[Int.toNat_of_nonneg h0]at this;exact this
theorem EZ{l:List Int} (h:nE l) {k:Nat} {y:Int} (hy:0<=y/\y<256):nE (l.set k y):=fun x hx=>by
 rcases List.mem_or_eq_of_mem_set hx with h1|h1
 ·exact h x h1
 ·subst h1;exact hy
theorem Js{l:List Int} {k:Nat} {x y:Int} (hx:l[k]? =some x) (hp:rM y=!rM x):kN (l.set k y)=!kN l:=by
 have hk:=(List.getElem?_eq_some_iff.1 hx).1
 have e1:l=l.take k++x::l.drop (k+1):=wC hx
 have e2:l.set k y=l.take k++y::l.drop (k+1):=List.set_eq_take_append_cons_drop.trans (by rw[if_pos hk])
 rw[e2]
 conv=>rhs;rw[e1]
 rw[yP,yP,om,om,hp]
 cases kN (l.take k)<;>cases rM x<;>cases kN (l.drop (k+1))<;>rfl
theorem Mu{l:List Int} (hB:nE l) (hp:kN l=true):(lS l).2.1≠0:=by
 intro hc
 obtain⟨_,e⟩:=DR hB (t:=(lS l).1) (a:=(lS l).2.2) (by rw[<-hc])
 rw[e,CZ (oh _)]at hp;cases hp
def b8(n:Int):AV:=.int .u8 n
theorem yR:∀l:List Int,(l.map gP).flatten=l.map b8
 |[]=>rfl
 |x::l=>by rw[List.map_cons,List.flatten_cons,yR l];rfl
theorem Ad(l:List Int):rQ 1 (l.map gP)=true:=by
 simp only[rQ,List.all_eq_true,List.mem_map]
 rintro r ⟨x,_,rfl⟩
 rfl
theorem vh:∀l:List Int,bP 1 l.length (l.map b8)=l.map gP
 |[]=>rfl
 |x::l=>by
  have:=vh l
  simp only[List.length_cons,bP,List.map_cons,List.take_succ_cons,List.take_zero,List.drop_succ_cons,List.drop_zero,this];rfl
theorem E0{l:List Int} {k:Nat} (h:k<l.length) (v:Int):setCells (l.map b8) k [b8 v]=(l.set k v).map b8:=by
 rw[List.map_set];simp[setCells,List.set_eq_take_append_cons_drop,h]
theorem E1{C:bt} {c:aX} {Q:Exit->S->Prop} {s:S} {F:S->Prop} {α:Type} (ex:Exit) (st:α->S) (J:α->Prop) (hQ:∀s',Q ex s'=down F s') (h1:aw C c (Cut ex st J) s) (h2:∀y,J y->Vs F (st y)):aw C c Q s:=by
 refine gL ?_ h1
 rintro e s' ⟨rfl,y,hy,hle⟩
 rw[hQ];exact w7 hle (h2 y hy)
def oV.Spec(C:bt) (f:Nat):Prop:=∀(l:Option (List Int)) (p q r:Int),C.c f [aJ aG l,I p,I q,I r] (B true) none
section
variable{P:Program} (hm:P.follows .mixedOrders=true) {f:Nat}
include hm
theorem oV.ok{fT fE e eI fP fD fS fW:Nat} (hc:gB true P f=some (iZ fT fE e eI fP fD fS fW)) (hT:Table.Spec (Pure P) fT) (hE:oU.Spec (Pure P) fE) (hP:Place.Spec (Pure P) fP) (hD:oT.Spec (Pure P) fD) (hS:zK.Spec (Pure P) fS) (hW:rH.Spec (Pure P) fW):oV.Spec (Pure P) f:=by
 intro l p q r
 have z3:cq=cR.cells:=rfl
 have z0:cR.cells.length=131:=rfl
 have z4:∀x y u v:AV,setCells [u,v] 0 [x,y]=[x,y]:=fun _ _ _ _=>rfl
 have y3:∀x y:AV,bF [x,y] 0 (some 2)=some (.agg [x,y]):=fun _ _=>rfl
 have cT:=hT l
 obtain⟨t,ht⟩:∃t,t=aU l:=⟨_,rfl⟩
 have k1:=oM l
 have kf:=Jk l
 have km:=MY l
 rw[<-ht]at cT k1 kf km
 have kl:=k1.ln
 have cE:=hE t kl kf
 unfold CS at cE;rw[if_pos km]at cE
 have hbl:=CX kl km
 have hge:=Bl t
 have hsl:=yO (iG t)
 have hpar:=CZ (oh t)
 have hLB:=CY (oh t)
 obtain⟨L,hL⟩:∃L,L=j4 (iG t):=⟨_,rfl⟩
 rw[<-hL]at cE hsl hpar hLB
 have l0:((L.length:Int)==0)=false:=by rw[beq_eq_false_iff_ne];omega
 have hne:L.map gP≠[]:=by intro e;have:=congrArg List.length e;simp at this;rw[this]at hsl;simp at hsl
 have hfl:=Ad L
 have hft:=yR L
 have e0:aJ gP (some L)=.sl (L.map gP):=rfl
 have faA:=And.intro z3 (And.intro z0 (And.intro z4 (And.intro y3 (l0))))
 refine aH hm hc (by show 4<=76;decide) (ay (keep:=[1]) (i:=0) ?_)
 try simp only[I,B,D,RY,aB,aC,aE,↓KW,↓aD,seval,iZ,Z.H,MO]
 refine cA cT ?_;try simp only[I,B,D,RY,aB,aC,aE,↓KW,↓aD,seval,faA]
 refine cA cE ?_;try simp only[I,B,D,RY,aB,aC,aE,↓KW,↓aD,seval,faA,Option.getD_some,MO,e0,hne,hfl,hft,List.length_map]
 refine⟨by omega,?_⟩
 have hZ:∀v:Int,0<=place v (8*(L.length:Int))/\place v (8*(L.length:Int))<8*(L.length:Int):=fun v=>Ab (by omega) (by omega)
 have w8:IntKind.i64.wrap (8*(L.length:Int))=8*(L.length:Int):=lA (by omega) (by omega)
 refine E1 (.exit 0) (fun X:List Int=>(⟨[(11,.vs 21 0 L.length 1),(9,.dat (.sl (L.map gP)) none)],[(21,⟨X.map b8,[]⟩)],[],400⟩:S)) (fun X=>nE X/\X.length=L.length/\kN X=true) (fun _=>rfl) ?_ ?_
 ·refine aP (fun y:Nat×List Int=>(⟨[(37,.dat (I y.1) none),(36,.dat (I 3) none),(35,.dat (.sl [[I p],[I q],[I r]]) none),(11,.vs 21 0 L.length 1),(9,.dat (.sl (L.map gP)) none)],[(21,⟨y.2.map b8,[]⟩)],[],400⟩:S)) (fun y=>3-y.1) (fun y=>y.1<=3/\nE y.2/\y.2.length=L.length/\kN y.2=(y.1%2==1)) ?_ (0,L) ⟨by omega,hLB,rfl,hpar⟩ ?_
  ·rintro⟨i,X⟩ ⟨hi,hX,hXl,hXp⟩ A back
   simp only at hi hX hXl hXp
   have hwi:=aN (k:=i) (by omega)
   try simp only[I,B,D,RY,aB,aC,aE,↓KW,↓aD,seval,faA]
   refine ax (fun h2=>?_) (fun h2=>?_)<;>try simp only[I,B,D,RY,aB,aC,aE,↓KW,↓aD,seval,h2]
   ·have h3:i<3:=by have:=of_decide_eq_true h2;omega
    obtain⟨v,hv⟩:∃v,[[I p],[I q],[I r]][i]? =some [I v]:=by
     have:i=0\/i=1\/i=2:=by omega
     rcases this with rfl|rfl|rfl
     ·exact⟨p,rfl⟩
     ·exact⟨q,rfl⟩
     ·exact⟨r,rfl⟩
    simp only[I]at hv
    have hb2:(0:Int)<=(i:Int)/\(i:Int)<3:=by omega
    obtain⟨n,hn⟩:∃n:Nat,place v (8*(L.length:Int))=n:=⟨(place v (8*(L.length:Int))).toNat,by have:=hZ v;omega⟩
    have hnb:=hZ v
    rw[hn]at hnb
    have cP:=hP v (8*(L.length:Int)) (by omega)
    rw[hn]at cP;try simp only[I,B,D,RY,aB,aC,aE,↓KW,↓aD,seval,faA,hb2,hv,List.length_cons,List.length_nil,w8]
    refine cA cP ?_
    have q1:IntKind.i64.wrap ((n:Int).tdiv 8)=((n/8:Nat):Int):=by
     rw[Int.tdiv_eq_ediv_of_nonneg (by omega),lA (by omega) (by omega)];omega
    have q2:IntKind.i64.wrap ((n:Int).tmod 8)=((n%8:Nat):Int):=by
     rw[Int.tmod_eq_emod_of_nonneg (by omega),lA (by omega) (by omega)];omega
    have hk:n/8<X.length:=by omega
    have hb3:(0:Int)<=((n/8:Nat):Int)/\((n/8:Nat):Int)<(L.length:Int):=by omega
    obtain⟨x,hx⟩:∃x,X[n/8]? =some x:=⟨X[n/8],List.getElem?_eq_getElem hk⟩
    have hxb:=hX x (List.mem_of_getElem? hx)
    have tn:((n/8:Nat):Int).toNat=n/8:=Int.toNat_natCast _
    have q3:IntKind.u64.wrap ((n:Int).tmod 8)=((n%8:Nat):Int):=by
     rw[Int.tmod_eq_emod_of_nonneg (by omega),Ui (by omega) (by omega)];omega
    have q4:IntKind.u8.wrap (1*2^min (n%8) IntKind.u8.bits)=2^(n%8):=by
     have:n%8=0\/n%8=1\/n%8=2\/n%8=3\/n%8=4\/n%8=5\/n%8=6\/n%8=7:=by omega
     rcases this with e|e|e|e|e|e|e|e<;>rw[e]<;>decide
    have t8:((n%8:Nat):Int).toNat=n%8:=Int.toNat_natCast _
    have p8:(0:Int)<=((n%8:Nat):Int):=by omega
    have hbx:dI .xor (b8 x) (.int .u8 (2^(n%8)))=some (b8 (qi .u8 x (2^(n%8)))):=rfl
    obtain⟨hf1,hf2⟩:=Mt hxb.1 hxb.2 (show n%8<8 by omega)
    have hst:=E0 hk (qi .u8 x (2^(n%8)))
    have hps:=Js hx hf2
    have hby:=EZ (k:=n/8) hX hf1
    generalize qi .u8 x (2^(n%8))=y at*
    have hbs:iQ (b8 y) none=true/\(b8 y).cells=[b8 y]:=⟨rfl,rfl⟩
    have hle:n/8+1<=X.length:=by omega
    try simp only[I,B,D,RY,aB,aC,aE,↓KW,↓aD,seval,faA,w8,q1,q2,hb3,hx,tn,q3,q4,t8,p8,hbx,hbs,hst,List.length_map,Nat.zero_add,Nat.mul_one,hle]
    have hpy:kN (X.set (n/8) y)=((i+1)%2==1):=by
     rw[hps,hXp]
     have:i=0\/i=1\/i=2:=by omega
     rcases this with rfl|rfl|rfl<;>rfl
    refine back (i+1,X.set (n/8) y) _ ⟨by omega,hby,by rw[List.length_set];exact hXl,hpy⟩ (by show 3-(i+1)<3-i;omega) ?_
    refine ai (by decide) ?_ ?_ ?_ ?_<;>simp[LX,I,B,D,hwi,cK]
   ·have h3:i=3:=by have:=of_decide_eq_false h2;omega
    subst h3;refine cu X ⟨hX,hXl,hXp⟩ ?_
    refine ai (by decide) ?_ ?_ ?_ ?_<;>simp[LX,I,B,D,cK]
  ·have hb0:L.map b8=L.map b8:=rfl
   refine ai (by decide) ?_ ?_ ?_ ?_<;>simp[LX,I,B,D,cK]
 ·rintro X ⟨hX,hXl,hXp⟩
  refine⟨[21],rfl,?_⟩
  have hch:=vh X
  rw[hXl]at hch
  have hXL:(X==L)=false:=by
   rw[beq_eq_false_iff_ne];intro e;rw[e,hpar]at hXp;cases hXp
  have cD:=hD (some X) (by rw[Option.getD_some];omega) hX
  rw[Option.getD_some]at cD
  have hodd:=Mu hX hXp
  obtain⟨kX,kXn⟩:=Jr hX
  obtain⟨⟨u,c,a⟩,hu⟩:∃x,x=lS X:=⟨_,rfl⟩
  rw[<-hu]at cD hodd kX kXn;rw[Bm]at cD;simp only at hodd kX kXn
  have cS:=hS (some X) (some L) (by rw[Option.getD_some];omega)
  rw[Option.getD_some,Option.getD_some,hXL]at cS
  have lu:=Tb.len kX
  have wu:=kXn.whole
  have vu:setCells cR.cells 0 u.cells=u.cells:=gu (by rw[lu];rfl)
  have hc0:(c==0)=false:=by rw[beq_eq_false_iff_ne];exact hodd
  try simp only[I,B,D,RY,aB,aC,aE,↓KW,↓aD,seval,faA,hch,List.length_map,hXl,Bool.and_true,cond_true]
  refine cA cD ?_;try simp only[I,B,D,RY,aB,aC,aE,↓KW,↓aD,seval,faA,lu,wu,vu]
  refine aj cS ?_
  have xe:(false==false)=true:=rfl
  try simp only[I,B,D,RY,aB,aC,aE,↓KW,↓aD,seval,faA,hc0,xe]
  refine aj hW ?_;try simp only[I,B,D,RY,aB,aC,aE,↓KW,↓aD,seval,faA,hc0,xe]
  all_goals rfl
def Ae.Spec(C:bt) (f:Nat):Prop:=∀(l a b:Option (List Int)),nE (b.getD [])->C.c f [aJ aG l,aJ aG a,aJ gP b] (B true) none
theorem Ae.ok{fT fB fP fS fD fR fW fE fM fC eB:Nat} (hc:gB true P f=some (mG fT fB fP fS fD fR fW fE fM fC)) (hT:Table.Spec (Pure P) fT) (hB:UZ.Spec (Pure P) eB fB) (hP:Place.Spec (Pure P) fP) (hS:UU.Spec (Pure P) fS) (hD:oT.Spec (Pure P) fD) (hR:ER.Spec (Pure P) fR)
  (hW:rH.Spec (Pure P) fW) (hE:oU.Spec (Pure P) fE) (hM:UT.Spec (Pure P) fM) (hC:zK.Spec (Pure P) fC):Ae.Spec (Pure P) f:=by
 intro l a b hbB
 have z3:cq=cR.cells:=rfl
 have z0:cR.cells.length=131:=rfl
 have z4:∀x y u v:AV,setCells [u,v] 0 [x,y]=[x,y]:=fun _ _ _ _=>rfl
 have y3:∀x y:AV,bF [x,y] 0 (some 2)=some (.agg [x,y]):=fun _ _=>rfl
 have cT:=hT l
 obtain⟨t,ht⟩:∃t,t=aU l:=⟨_,rfl⟩
 have k1:=oM l
 have km:=MY l
 rw[<-ht]at cT k1 km
 have kl:=k1.ln
 have cB:=hB t kl km
 have hbl:=CX kl km
 have hge:=Bl t
 have hLB:=oh t
 obtain⟨L,hL⟩:∃L,L=iG t:=⟨_,rfl⟩
 rw[<-hL]at cB hbl hge hLB
 have hfl:=Ad L
 have hft:=yR L
 obtain⟨as,has⟩:∃as,as=a.getD []:=⟨_,rfl⟩
 obtain⟨bs,hbs⟩:∃bs,bs=b.getD []:=⟨_,rfl⟩
 rw[<-hbs]at hbB
 have faA:=And.intro z3 (And.intro z0 (And.intro z4 (y3)))
 refine aH hm hc (by show 3<=100;decide) (ay (keep:=[0]) (i:=0) ?_)
 try simp only[I,B,D,RY,aB,aC,aE,↓KW,↓aD,seval,mG,Z.H]
 refine cA cT ?_;try simp only[I,B,D,RY,aB,aC,aE,↓KW,↓aD,seval,faA]
 refine FX cB hfl ?_;try simp only[I,B,D,RY,aB,aC,aE,↓KW,↓aD,seval,faA,hft,List.length_map]
 refine E1 (.exit 0) (fun X:List Int=>(⟨[(7,.vs 7 0 L.length 1)],[(7,⟨X.map b8,[]⟩)],[],400⟩:S)) (fun X=>nE X/\X.length=L.length) (fun _=>rfl) ?_ ?_
 ·refine aP (fun y:Nat×List Int=>(⟨[(8,.dat (I y.1) none),(7,.vs 7 0 L.length 1),(1,.dat (aJ aG a) none),(2,.dat (aJ gP b) none)],[(7,⟨y.2.map b8,[]⟩)],[],400⟩:S)) (fun y=>4-y.1) (fun y=>y.1<=4/\nE y.2/\y.2.length=L.length) ?_ (0,L) ⟨by omega,hLB,rfl⟩ ?_
  ·rintro⟨i,X⟩ ⟨hi,hX,hXl⟩ A back
   simp only at hi hX hXl
   have hwi:=aN (k:=i) (by omega)
   have stop:∀s,Le s (⟨[(7,.vs 7 0 L.length 1)],[(7,⟨X.map b8,[]⟩)],[],400⟩:S)->Cut (.exit 0) (fun X:List Int=>(⟨[(7,.vs 7 0 L.length 1)],[(7,⟨X.map b8,[]⟩)],[],400⟩:S)) (fun X=>nE X/\X.length=L.length) (.exit 0) s:=fun s hs=>cu X ⟨hX,hXl⟩ hs
   rcases Wt (decide ((i:Int)<(as.length:Int)))with h1|h1
   ·try simp only[I,B,D,RY,aB,aC,aE,↓KW,↓aD,seval,faA,<-has,<-hbs,h1]
    refine stop _ ?_
    refine ai (by decide) ?_ ?_ ?_ ?_<;>simp[LX,I,B,D,cK]
   rcases Wt (decide ((i:Int)<(bs.length:Int)))with h2|h2
   ·try simp only[I,B,D,RY,aB,aC,aE,↓KW,↓aD,seval,faA,<-has,<-hbs,h1,h2]
    refine stop _ ?_
    refine ai (by decide) ?_ ?_ ?_ ?_<;>simp[LX,I,B,D,cK]
   rcases Wt (decide ((i:Int)<4))with h4|h4
   ·try simp only[I,B,D,RY,aB,aC,aE,↓KW,↓aD,seval,faA,<-has,<-hbs,h1,h2,h4]
    refine stop _ ?_
    refine ai (by decide) ?_ ?_ ?_ ?_<;>simp[LX,I,B,D,cK]
   have hi4:i<4:=by have:=of_decide_eq_true h4;omega
   have ha:i<as.length:=by have:=of_decide_eq_true h1;omega
   have hb':i<bs.length:=by have:=of_decide_eq_true h2;omega
   obtain⟨v,hv⟩:∃v,as[i]? =some v:=⟨as[i],List.getElem?_eq_getElem ha⟩
   obtain⟨y,hy⟩:∃y,bs[i]? =some y:=⟨bs[i],List.getElem?_eq_getElem hb'⟩
   have hyb:=hbB y (List.mem_of_getElem? hy)
   have hp1:(0:Int)<=(i:Int)/\(i:Int)<(as.length:Int):=by omega
   have hp2:(0:Int)<=(i:Int)/\(i:Int)<(bs.length:Int):=by omega
   have hnb:=Ab (v:=v) (n:=(L.length:Int)) (by omega) (by omega)
   obtain⟨n,hn⟩:∃n:Nat,place v (L.length:Int)=n:=⟨(place v (L.length:Int)).toNat,by omega⟩
   have cP:=hP v (L.length:Int) (by omega)
   rw[hn]at hnb cP
   obtain⟨x,hx⟩:∃x,X[n]? =some x:=⟨X[n]'(by omega),List.getElem?_eq_getElem _⟩
   have hst:=E0 (l:=X) (k:=n) (by omega) (qi .u8 x y)
   have hby:nE (X.set n (qi .u8 x y)):=EZ hX (by
    show 0<=IntKind.u8.wrap _/\IntKind.u8.wrap _<256
    rw[EE];omega)
   have hbx:dI .xor (b8 x) (.int .u8 y)=some (b8 (qi .u8 x y)):=rfl
   have hbs':∀z,iQ (b8 z) none=true/\(b8 z).cells=[b8 z]:=fun _=>⟨rfl,rfl⟩
   have hle:n+1<=X.length:=by omega
   try simp only[I,B,D,RY,aB,aC,aE,↓KW,↓aD,seval,faA,<-has,<-hbs,h1,h2,h4,hp1,hp2,hv,hy,aG,gP]
   refine cA cP ?_;try simp only[I,B,D,RY,aB,aC,aE,↓KW,↓aD,seval,faA,<-has,<-hbs,h1,h2,h4,hp1,hp2,hv,hy,aG,gP,hnb,hx,hbx,hbs',hst,List.length_map,Nat.zero_add,Nat.mul_one,hle,Int.toNat_natCast]
   refine back (i+1,X.set n (qi .u8 x y)) _ ⟨by omega,hby,by rw[List.length_set];exact hXl⟩ (by show 4-(i+1)<4-i;omega) ?_
   refine ai (by decide) ?_ ?_ ?_ ?_<;>simp[LX,I,B,D,hwi,cK]
  ·refine ai (by decide) ?_ ?_ ?_ ?_<;>simp[LX,I,B,D,cK]
 ·rintro X ⟨hX,hXl⟩
  refine⟨[7],rfl,?_⟩
  have hch:=vh X
  rw[hXl]at hch
  have cS:=hS (some X) (by rw[Option.getD_some];omega) hX
  rw[Option.getD_some]at cS
  have hSB:=CY hX
  have hsl:=yO X
  have c1:=hD (some (j4 X)) (by rw[Option.getD_some];omega) hSB
  have c2:=hR (some (j4 X)) (by rw[Option.getD_some];omega) hSB
  rw[Option.getD_some]at c1 c2;obtain⟨kX,kXn⟩:=Jr hSB
  obtain⟨⟨u,c,d⟩,hu⟩:∃x,x=lS (j4 X):=⟨_,rfl⟩
  rw[<-hu]at c1 c2 kX kXn;rw[Bm]at c1 c2;simp only at kX kXn
  have lu:=Tb.len kX
  have wu:=kXn.whole
  have vu:setCells cR.cells 0 u.cells=u.cells:=gu (by rw[lu];rfl)
  have ii:=rB c d
  have xf:(true !=false)=true:=rfl
  try simp only[I,B,D,RY,aB,aC,aE,↓KW,↓aD,seval,faA,hch,List.length_map,hXl,Bool.and_true,cond_true]
  refine cA cS ?_;try simp only[I,B,D,RY,aB,aC,aE,↓KW,↓aD,seval,faA]
  refine cA c1 ?_;try simp only[I,B,D,RY,aB,aC,aE,↓KW,↓aD,seval,faA,lu,wu,vu]
  refine cA c2 ?_;try simp only[I,B,D,RY,aB,aC,aE,↓KW,↓aD,seval,faA,lu,wu,vu]
  by_cases hc0:c=0
  ·subst hc0
   obtain⟨hv,hse⟩:=DR hSB (t:=u) (a:=d) hu.symm
   obtain⟨ul,uf,um⟩:=I0 hv
   have cE:=hE u ul uf
   unfold CS at cE;rw[if_pos um,<-hse]at cE
   have cM:=hM u u kX ul
   have e1:Jh u u=true:=by unfold Jh;simp
   rw[e1]at cM
   have cC:=hC (some (j4 X)) (some (j4 X)) (by rw[Option.getD_some];omega)
   rw[Option.getD_some,beq_self_eq_true]at cC
   have x0:((0:Int) !=0)=false:=rfl
   try simp only[I,B,D,RY,aB,aC,aE,↓KW,↓aD,seval,faA,lu,wu,vu,x0,xf]
   refine cA cE ?_;try simp only[I,B,D,RY,aB,aC,aE,↓KW,↓aD,seval,faA,lu,wu,vu,x0,xf]
   refine cA cM ?_;try simp only[I,B,D,RY,aB,aC,aE,↓KW,↓aD,seval,faA,lu,wu,vu,x0,xf]
   refine cA cC ?_;try simp only[I,B,D,RY,aB,aC,aE,↓KW,↓aD,seval,faA,lu,wu,vu,x0,xf]
   refine cA hW ?_;try simp only[I,B,D,RY,aB,aC,aE,↓KW,↓aD,seval,faA]
   all_goals rfl
  ·have hc1:(c !=0)=true:=by rw[bne_iff_ne];exact hc0
   try simp only[I,B,D,RY,aB,aC,aE,↓KW,↓aD,seval,faA,lu,wu,vu,hc1,ii,xf]
   refine cA hW ?_;try simp only[I,B,D,RY,aB,aC,aE,↓KW,↓aD,seval,faA]
   all_goals rfl
end
def Al{α β:Type} (R:α->β->Prop):List α->List β->Prop
 |[],[]=>True
 |a::l,b::m=>R a b/\Al R l m
 |_,_=>False
theorem Al.len{α β:Type} {R:α->β->Prop}:∀{l:List α} {m:List β},Al R l m->l.length=m.length
 |[],[],_=>rfl
 |a::l,b::m,h=>by simp[Al.len h.2]
 |[],b::m,h=>h.elim
 |a::l,[],h=>h.elim
theorem Al.get{α β:Type} {R:α->β->Prop}:∀{l:List α} {m:List β},Al R l m->∀(i:Nat) (a:α) (b:β),l[i]? =some a->m[i]? =some b->R a b
 |a::l,b::m,h,0,x,y,hx,hy=>by simp at hx hy;subst hx;subst hy;exact h.1
 |a::l,b::m,h,i+1,x,y,hx,hy=>Al.get h.2 i x y (by simpa using hx) (by simpa using hy)
 |[],_,_,i,_,_,hx,_=>by simp at hx
theorem Al.mk{α β:Type} {R:α->β->Prop}:∀{l:List α} {m:List β},l.length=m.length->(∀(i:Nat) (a:α) (b:β),l[i]? =some a->m[i]? =some b->R a b)->Al R l m
 |[],[],_,_=>trivial
 |a::l,b::m,h,f=>⟨f 0 a b rfl rfl,Al.mk (by simpa using h) fun i x y hx hy=>f (i+1) x y (by simpa using hx) (by simpa using hy)⟩
theorem Al.append{α β:Type} {R:α->β->Prop}:∀{l:List α} {m:List β} {l':List α} {m':List β},Al R l m->Al R l' m'->Al R (l++l') (m++m')
 |[],[],_,_,_,h=>h
 |a::l,b::m,_,_,h,h'=>⟨h.1,Al.append h.2 h'⟩
theorem Al.n{α β:Type} {R:α->β->Prop}:Al R ([]:List α) ([]:List β):=trivial
theorem Al.c{α β:Type} {R:α->β->Prop} {a:α} {b:β} {l:List α} {m:List β} (h:R a b) (t:Al R l m):Al R (a::l) (b::m):=⟨h,t⟩
theorem Al.Bn{α β:Type} {R:α->β->Prop} {m:List β} (h:Al R [] m):m=[]:=by
 cases m with
 |nil=>rfl
 |cons b m=>exact h.elim
theorem Al.cons_inv{α β:Type} {R:α->β->Prop} {a:α} {l:List α} {m:List β} (h:Al R (a::l) m):∃b m',m=b::m'/\R a b/\Al R l m':=by
 cases m with
 |nil=>exact h.elim
 |cons b m=>exact⟨b,m,rfl,h.1,h.2⟩
inductive Z' where
 |bool
 |int (k:IntKind)
 |WM (k:FloatKind)
 |str
inductive Ty where
 |sc (s:Z')
 |sl (l:List Ty)
def rI(sz:TypeId->Nat) (F:TypeId->Option (List Ty)):Nat->List (Nat×TypeId)->Option (List Ty)
 |_,[]=>some []
 |o,f::r=>if f.1=o then match F f.2 with
   |some l=>if sz f.2=l.length then match rI sz F (o+l.length) r with
    |some m=>some (l++m)
    |none=>none
    else none
   |none=>none
  else none
def DS(P:Program):Nat->TypeId->Option (List Ty)
 |0,_=>none
 |n+1,t=>match P.underlying t with
  |some .bool=>some [.sc .bool]
  |some (.int k)=>some [.sc (.int k)]
  |some (.float k)=>some [.sc (.WM k)]
  |some .string=>some [.sc .str]
  |some (.slice e)=>match DS P n e with
   |some l=>if P.cellsOf e=l.length/\0<l.length then some [.sl l]else none
   |none=>none
  |some (.struct fs)=>match rI P.cellsOf (DS P n) 0 (fs.toList.map fun f=>(f.offset,f.type))with
   |some l=>if P.cellsOf t=l.length then some l else none
   |none=>none
  |some (.array k e)=>match rI P.cellsOf (DS P n) 0 ((List.range k).map fun i=>(i*P.cellsOf e,e))with
   |some l=>if P.cellsOf t=l.length then some l else none
   |none=>none
  |_=>none
def U1:Z'->AV->Prop
 | .bool,.bool _=>True
 | .int k,.int k' n=>k'=k/\(Lit.int k n).wf=true
 | .WM k,.float k' b=>k'=k/\(Lit.float k b).wf=true
 | .str,.str s=>s.size<=maxLen
 |_,_=>False
mutual
def vk:Ty->AV->Prop
 | .sc s,a=>U1 s a
 | .sl _,.bI=>True
 | .sl l,.sl xs=>xs.length<=maxLen/\∀r∈xs,C0 l r
 |_,_=>False
def C0:List Ty->List AV->Prop
 |[],[]=>True
 |t::l,a::r=>vk t a/\C0 l r
 |_,_=>False
end
theorem Bo:∀{l:List Ty} {as:List AV},C0 l as↔Al vk l as
 |[],[]=>by simp[C0,Al]
 |t::l,a::r=>by simp only[C0,Al];rw[Bo (l:=l) (as:=r)]
 |[],a::r=>by simp[C0,Al]
 |t::l,[]=>by simp[C0,Al]
def yS(W:World):Nat->Nat->Prop:=fun b _=>b<W.heap.size
theorem Mv{W:World} {a:Addr} {v:Value} (h:W.cell? a=some v):a.block<W.heap.size:=by
 unfold World.cell? at h;split at h
 ·rename_i hh;exact mQ hh
 ·cases h
theorem U1.scalar{s:Z'} {a:AV} (h:U1 s a):a.scalar=true:=by cases s<;>cases a<;>first|exact h.elim|rfl
theorem vk.scalar{s:Ty} {a:AV} (h:vk s a):a.scalar=true:=by
 cases s with
 |sc s=>exact U1.scalar (by simpa[vk]using h)
 |sl l=>cases a<;>first|rfl|(simp[vk]at h)
section
variable{H:Type} {enc:TypeId×Value->H} {P:Program} {W:World} {base:Nat}
open Go.ChangeShapes Go.WideShapes Go.ChangeAt Go.RowKit
theorem DT{sp:Nat->Bool} {held:Bool} {b0 fuel:Nat} {t:TypeId} {cs:List Value} {x:DataW H×List MemPlace} {k:FloatKind} (ht:P.underlying t=some (.float k)) (h:DataW.trod enc P W b0 sp held fuel t cs=some x):∃n,cs=[.float k n]/\(Lit.float k n).wf=true:=by
 cases fuel with
 |zero=>simp[DataW.trod]at h
 |succ n=>
  unfold DataW.trod at h;rw[ht]at h
  split at h<;>simp_all
theorem tB{sp:TypeId->Nat} {G:TypeId->Option (List Ty)} {Tr:TypeId->List Value->Prop}
  (each:∀t l cs,G t=some l->Tr t cs->∃as,Al vk l as/\Al (DV W (yS W)) as cs):∀(ps:List (Nat×TypeId)) (o:Nat) (l:List Ty) (cs:List Value),rI sp G o ps=some l->cs.length=o+l.length->
   (∀(i:Nat) (f:Nat×TypeId),ps[i]? =some f->Tr f.2 ((cs.drop f.1).take (sp f.2)))->∃as,Al vk l as/\Al (DV W (yS W)) as (cs.drop o)
 |[],o,l,cs,h,hl,_=>by
  simp only[rI,Option.some.injEq]at h;subst h;refine⟨[],trivial,?_⟩
  rw[List.drop_of_length_le (by simp at hl;omega)];trivial
 |f::ps,o,l,cs,h,hl,htr=>by
  simp only[rI]at h
  split at h<;>try(cases h;done)
  rename_i ho
  split at h<;>try(cases h;done)
  rename_i l1 hl1
  split at h<;>try(cases h;done)
  rename_i hsz
  split at h<;>try(cases h;done)
  rename_i m hm;cases h
  have h0:=htr 0 f rfl
  rw[ho,hsz]at h0;obtain⟨as1,ht1,hd1⟩:=each f.2 l1 _ hl1 h0
  obtain⟨as2,ht2,hd2⟩:=tB each ps (o+l1.length) m cs hm (by rw[hl];simp;omega) (fun i g hg=>htr (i+1) g (by simpa using hg))
  refine⟨as1++as2,ht1.append ht2,?_⟩
  have:=hd1.append hd2
  rw[<-List.drop_drop,List.take_append_drop]at this;exact this
omit H enc P W base in
theorem DU{w:World} {b o:Nat} {sp:Option Nat} {v:Value} (h:w.cell? ⟨b,o,sp⟩=some v):sp=none:=by
 cases sp with
 |none=>rfl
 |some x=>unfold World.cell? at h;split at h<;>simp at h
theorem Bp{a:Addr} {n:Nat} (h:a.spot=none):a.add n=⟨a.block,a.off+n,none⟩:=by
 obtain⟨b,o,s⟩:=a;simp only at h;subst h;unfold Addr.add;split
 ·rename_i hh;subst hh;rfl
 ·rfl
theorem wR:∀(n:Nat) (t:TypeId) (l:List Ty),DS P n t=some l->∀(cs:List Value) (x:DataW H×List MemPlace) (fuel:Nat),
  DataW.trod enc P W 0 (fun _=>true) true fuel t cs=some x->∃as,Al vk l as/\Al (DV W (yS W)) as cs
 |0,t,l,h,cs,x,fuel,hx=>by cases h
 |n+1,t,l,h,cs,x,fuel,hx=>by
  simp only[DS]at h;split at h
  ·rename_i ht;cases h
   obtain⟨b,rfl,_⟩:=DataW.trod_bool ht hx
   exact⟨[.bool b],⟨by simp[vk,U1],trivial⟩,⟨.bool b,trivial⟩⟩
  ·rename_i k ht;cases h
   obtain⟨m,rfl,_,hw⟩:=DataW.trod_int ht hx
   exact⟨[.int k m],⟨by simp only[vk];exact⟨rfl,hw⟩,trivial⟩,⟨.int k m,trivial⟩⟩
  ·rename_i k ht;cases h
   obtain⟨m,rfl,hw⟩:=DT ht hx
   exact⟨[.float k m],⟨by simp only[vk];exact⟨rfl,hw⟩,trivial⟩,⟨.float k m,trivial⟩⟩
  ·rename_i ht;cases h
   obtain⟨s,rfl,_,hw⟩:=DataW.trod_string ht hx
   exact⟨[.str s],⟨by simp only[vk];exact hw,trivial⟩,⟨.str s,trivial⟩⟩
  ·rename_i e ht
   split at h<;>try(cases h;done)
   rename_i le hle
   split at h<;>try(cases h;done)
   rename_i hsz;cases h;obtain⟨hsz,hpos⟩:=hsz
   rcases DataW.trod_slice ht hx with⟨rfl,_⟩|⟨a,len,cap,elems,rest,k,_,rfl,_,_,hlc,hmx,hlen,hel,hrest,_⟩
   ·exact⟨[.bI],⟨by simp[vk],trivial⟩,⟨.bI,trivial⟩⟩
   have spotOf:∀(y:DataW H×List MemPlace),(W.cells? 0 (a.add (0*P.cellsOf e)) (P.cellsOf e)).bind (DataW.trod enc P W 0 (fun _=>true) true k e)=some y->a.spot=none:=by
    intro y hy;rw[Option.bind_eq_some_iff]at hy;obtain⟨cs,hcs,_⟩:=hy
    obtain⟨_,hcl,hcell⟩:=World.cells?_some hcs
    have h0:=hcell 0 (by omega)
    obtain⟨v,hv⟩:∃v,cs[0]? =some v:=⟨_,List.getElem?_eq_getElem (by omega)⟩
    rw[hv]at h0;obtain⟨b,o,sp⟩:=a;simp only[Nat.zero_mul,Addr.add,if_true]at h0;exact DU h0
   have hspot:cap=0\/a.spot=none:=by
    rcases Nat.eq_zero_or_pos cap with h|h
    ·exact .inl h
    right
    rcases Nat.eq_zero_or_pos len with h'|h'
    ·obtain⟨hr1,hr2⟩:=hrest rfl
     have:=hr2 0 (by omega)
     obtain⟨y,hy⟩:∃y,rest[0]? =some y:=⟨_,List.getElem?_eq_getElem (by omega)⟩
     rw[hy,h',Nat.zero_add]at this;exact spotOf y this
    ·have:=hel 0 h'
     obtain⟨y,hy⟩:∃y,elems[0]? =some y:=⟨_,List.getElem?_eq_getElem (by omega)⟩
     rw[hy]at this;exact spotOf y this
   rcases hspot with rfl|hspot
   ·have:len=0:=by omega
    subst this
    exact⟨[.sl []],⟨by simp[vk],trivial⟩,⟨.Gp a,trivial⟩⟩
   have each:∀i,i<len->∃as cs,Al vk le as/\Al (DV W (yS W)) as cs/\∀j,j<le.length->W.cell? ⟨a.block,a.off+i*le.length+j,none⟩=cs[j]?:=by
    intro i hi
    have he:=hel i hi
    have:elems[i]?≠none:=by simp;omega
    obtain⟨y,hy⟩:=Option.ne_none_iff_exists'.1 this;rw[hy,Option.bind_eq_some_iff]at he;obtain⟨cs,hcs,htr⟩:=he
    obtain⟨_,hcl,hcell⟩:=World.cells?_some hcs
    obtain⟨as,hta,hda⟩:=wR n e le hle cs y k htr
    refine⟨as,cs,hta,hda,fun j hj=>?_⟩
    have:=hcell j (by omega)
    rw[<-this,Bp (a:=a.add _) (by rw[Bp hspot]),Bp hspot,hsz]
   obtain⟨rows,hrl,hrt,hr⟩:∃rows:List (List AV),rows.length=len/\(∀r∈rows,Al vk le r)/\∀i r,rows[i]? =some r->∃cs,Al (DV W (yS W)) r cs/\∀j,j<le.length->W.cell? ⟨a.block,a.off+i*le.length+j,none⟩=cs[j]?:=by
    refine⟨(List.range len).map fun i=>if h:i<len then(each i h).choose else[],by simp,?_,?_⟩
    ·intro r hr
     obtain⟨i,hi,rfl⟩:=List.mem_map.1 hr;rw[List.mem_range]at hi;rw[dif_pos hi];exact(each i hi).choose_spec.choose_spec.1
    ·intro i r hr
     rw[List.getElem?_map,Option.map_eq_some_iff]at hr;obtain⟨k,hk,rfl⟩:=hr
     have hi:=(List.getElem?_eq_some_iff.1 hk).1
     simp at hi;rw[List.getElem?_range hi]at hk;cases hk;rw[dif_pos hi];exact⟨_,(each i hi).choose_spec.choose_spec.2⟩
   obtain⟨b,off,spot⟩:=a;simp only at hspot hr;subst hspot
   refine⟨[.sl rows],⟨by simp only[vk];exact⟨by omega,fun r hr=>Bo.2 (hrt r hr)⟩,trivial⟩,?_,trivial⟩
   have hz:∀(i:Nat) (r:List AV),rows[i]? =some r->r.length=le.length:=fun i r h=>(hrt r (List.mem_of_getElem? h)).len.symm
   have at_:∀(i j:Nat) (r:List AV) (x:AV),rows[i]? =some r->r[j]? =some x->∃v,W.cell? ⟨b,off+i*le.length+j,none⟩=some v/\DV W (yS W) x v:=by
    intro i j r x h1 h2;obtain⟨cs,hd,hc⟩:=hr i r h1
    have hj:j<le.length:=by have:=(List.getElem?_eq_some_iff.1 h2).1;have:=hz i r h1;omega
    obtain⟨v,hv⟩:∃v,cs[j]? =some v:=⟨_,List.getElem?_eq_getElem (by have:=hd.len;have:=hz i r h1;omega)⟩
    exact⟨v,(hc j hj).trans hv,hd.get j x v h2 hv⟩
   have key:=DV.sl (w:=W) (π:=yS W) rows b off cap le.length (fun i j=>(W.cell? ⟨b,off+i*le.length+j,none⟩).getD default) (by omega) hz
    (fun i j r x h1 h2=>by
     obtain⟨t,ht⟩:∃t,le[j]? =some t:=⟨_,List.getElem?_eq_getElem (by have:=(List.getElem?_eq_some_iff.1 h2).1;have:=hz i r h1;omega)⟩
     exact vk.scalar ((hrt r (List.mem_of_getElem? h1)).get j t x ht h2))
    (fun i j r x h1 h2=>by obtain⟨v,hv,_⟩:=at_ i j r x h1 h2;exact Mv hv)
    (fun i j r x h1 h2=>by obtain⟨v,hv,_⟩:=at_ i j r x h1 h2;rw[hv];rfl)
    (fun i j r x h1 h2=>by obtain⟨v,hv,hd⟩:=at_ i j r x h1 h2;rw[hv];exact hd)
   rw[hrl]at key;exact key
  ·rename_i fs ht
   split at h<;>try(cases h;done)
   rename_i l' hl'
   split at h<;>try(cases h;done)
   rename_i hsz;cases h;obtain⟨xs,k,_,_,hcl,hxl,hf⟩:=DataW.trod_struct ht hx
   have:=tB (W:=W) (Tr:=fun t cs=>∃x fuel,DataW.trod enc P W 0 (fun _=>true) true fuel t cs=some x) (fun t l cs h1 ⟨x,fuel,h3⟩=>wR n t l h1 cs x fuel h3) _ 0 l cs hl' (by omega) (fun i f hif=>by
    rw[List.getElem?_map,Option.map_eq_some_iff]at hif;obtain⟨f,hif,rfl⟩:=hif
    have h1:=hf i f (by simpa using hif)
    have:xs[i]?≠none:=by
     have:=(List.getElem?_eq_some_iff.1 hif).1
     simp at this⊢;omega
    obtain⟨y,hy⟩:=Option.ne_none_iff_exists'.1 this
    exact⟨y,k,h1.trans hy⟩)
   simpa using this
  ·rename_i q e ht
   split at h<;>try(cases h;done)
   rename_i l' hl'
   split at h<;>try(cases h;done)
   rename_i hsz;cases h;obtain⟨xs,k,_,_,hcl,hxl,hf⟩:=DataW.trod_array ht hx
   have:=tB (W:=W) (Tr:=fun t cs=>∃x fuel,DataW.trod enc P W 0 (fun _=>true) true fuel t cs=some x) (fun t l cs h1 ⟨x,fuel,h3⟩=>wR n t l h1 cs x fuel h3) _ 0 l cs hl' (by omega) (fun i f hif=>by
    rw[List.getElem?_map,Option.map_eq_some_iff]at hif;obtain⟨f,hif,rfl⟩:=hif
    have hi:=(List.getElem?_eq_some_iff.1 hif).1
    simp at hi;rw[List.getElem?_range hi]at hif;cases hif
    have h1:=hf i hi
    have:xs[i]?≠none:=by simp;omega
    obtain⟨y,hy⟩:=Option.ne_none_iff_exists'.1 this
    exact⟨y,k,h1.trans hy⟩)
   simpa using this
  ·cases h
def isAgg(P:Program) (t:TypeId):Bool:=match P.underlying t with
 |some (.struct _)|some (.array _ _)=>true
 |_=>false
theorem Gl{n:Nat} {t:TypeId} {k:Ty} {v:Value} {d:DataW H} {p:List MemPlace} (hl:DS P n t=some [k]) (ha:isAgg P t=false) (hval:Value.okWide P W .any base t v)
  (h:DataW.Trod enc P W 0 (fun _=>true) true t v d p):∃a,vk k a/\DV W (yS W) a v:=by
 obtain⟨fuel,hf⟩:=h
 obtain⟨as,ht,hd⟩:=wR n t [k] hl _ _ _ hf
 obtain⟨a,as',rfl,hk,ht'⟩:=ht.cons_inv;cases ht'.Bn;obtain⟨u,us,e,hdu,_⟩:=hd.cons_inv
 have hne:∀cs,v≠.agg cs:=by
  rintro cs rfl
  unfold isAgg at ha;unfold Value.okWide at hval;split at hval
  ·rename_i e;rw[e]at ha;cases ha
  ·rename_i e;rw[e]at ha;cases ha
  ·unfold Cell.okWide at hval
   split at hval<;>simp_all [Cell.ok]
 refine⟨a,hk,?_⟩
 cases v<;>simp[Value.cells]at e
 case agg cs=>exact absurd rfl (hne cs)
 all_goals(obtain⟨rfl,rfl⟩:=e;exact hdu)
theorem wS{k:IntKind} {a:AV} (h:vk (.sc (.int k)) a):∃n,a=.int k n/\(Lit.int k n).wf=true:=by
 simp only[vk]at h
 cases a<;>first|exact h.elim|(obtain⟨rfl,hw⟩:=h;exact⟨_,rfl,hw⟩)
theorem Qv{α:Type} {f:α->List AV} {Q:α->Prop} {l:List Ty} (row:∀r,Al vk l r->∃x,r=f x/\Q x) {a:AV} (h:vk (.sl l) a):∃xs:Option (List α),a=aJ f xs/\(xs.getD []).length<=maxLen/\∀x∈xs.getD [],Q x:=by
 cases a<;>simp only[vk]at h
 ·exact⟨none,rfl,by simp,by simp⟩
 rename_i xs
 have:∀(xs:List (List AV)),(∀r∈xs,C0 l r)->∃m:List α,xs=m.map f/\∀x∈m,Q x:=by
  intro xs
  induction xs with
  |nil=>intro _;exact⟨[],rfl,by simp⟩
  |cons r xs ih=>
   intro h
   obtain⟨m,rfl,hm⟩:=ih (fun r hr=>h r (List.mem_cons_of_mem _ hr))
   obtain⟨x,rfl,hx⟩:=row _ (Bo.1 (h _ List.mem_cons_self))
   exact⟨x::m,rfl,by simpa using⟨hx,hm⟩⟩
 obtain⟨m,rfl,hm⟩:=this xs h.2
 exact⟨some m,rfl,by simpa using h.1,hm⟩
theorem Jt{k:IntKind} {a:AV} (h:vk (.sl [.sc (.int k)]) a):∃l:Option (List Int),a=aJ (fun n=>[.int k n]) l/\(l.getD []).length<=maxLen/\∀n∈l.getD [],(Lit.int k n).wf=true:=
 Qv (fun r hr=>by
  obtain⟨a,as,rfl,h1,h2⟩:=hr.cons_inv;cases h2.Bn;obtain⟨n,rfl,hn⟩:=wS h1
  exact⟨n,rfl,hn⟩) h
theorem Ju{P:Program} {f:Nat} {args:List AV} {W:World} {vs:List Value} (h:(Pure P).c f args (.bool true) none) (hd:Al (DV W (yS W)) args vs):
  Calls P f vs.toArray W fun e w'=>e=.returned (.bool true)/\Go.RowKit.Below W.heap.size W w':=by
 refine(h.2 W (yS W) vs (fun _ _ h=>h) ⟨hd.len,hd.get⟩).mono fun e w' ⟨v,π',he,hb,_,_,_,hdv,_⟩=>?_
 cases hdv;exact⟨he,hb⟩
end
section
variable{H:Type} {enc:TypeId×Value->H} {P:Program} {W:World} {base:Nat}
open Go.ChangeShapes Go.WideShapes Go.ChangeAt Go.RowKit
def U2(enc:TypeId×Value->H) (P:Program) (W:World) (base:Nat) (t:TypeId) (v:Value):Prop:=
 Value.okWide P W .any base t v/\∃d p,DataW.Trod enc P W 0 (fun _=>true) true t v d p
theorem Af:∀{ts:List TypeId} {vs:List Value} {ds:List (DataW H)} {ps:List MemPlace},DataW.TrodAll enc P W 0 (fun _=>true) true ts vs ds ps->
  (∀(j:Nat) t v,ts[j]? =some t->vs[j]? =some v->Value.okWide P W .any base t v)->Al (U2 enc P W base) ts vs
 |[],vs,ds,ps,h,_=>by obtain⟨rfl,_,_⟩:=trodAll_nil h;trivial
 |t::ts,vs,ds,ps,h,hv=>by
  obtain⟨v,vs',d,ds',p,q,rfl,rfl,rfl,h0,h1⟩:=trodAll_cons h
  exact⟨⟨hv 0 t v rfl rfl,d,p,h0⟩,Af h1 fun j t v h1 h2=>hv (j+1) t v (by simpa using h1) (by simpa using h2)⟩
theorem yT{W':World} (hl:laidOutB P=true):∀{ts:List TypeId} {vs:List Value} {ds:List (DataW H)} {ps:List MemPlace},(ts.all fun t=>P.readableRec t&&decide (t<P.types.size))=true->
  DataW.TrodAll enc P W 0 (fun _=>true) true ts vs ds ps->Below W.heap.size W W'->DataW.TrodAll enc P W' 0 (fun b=>decide (b<W.heap.size)) true ts vs ds ps
 |[],vs,ds,ps,_,h,_=>by obtain⟨rfl,rfl,rfl⟩:=trodAll_nil h;exact trodAll_mk0
 |t::ts,vs,ds,ps,hr,h,hb=>by
  have hlt:=DataW.TrodAll.lt h
  obtain⟨v,vs',d,ds',p,q,rfl,rfl,rfl,h0,h1⟩:=trodAll_cons h;simp only[List.all_cons,Bool.and_eq_true,decide_eq_true_eq]at hr
  exact trodAll_cons_mk (Below.trod hl hr.1.1 hr.1.2 h0 hb fun x hx=>hlt x (by simp[hx])) (yT hl hr.2 h1 hb)
theorem uA{n:Nat} {t:TypeId} {k:Ty} {v:Value} (hl:DS P n t=some [k]) (ha:isAgg P t=false) (h:U2 enc P W base t v):∃a,vk k a/\DV W (yS W) a v:=by
 obtain⟨h1,d,p,h2⟩:=h;exact Gl hl ha h1 h2
theorem uB{sp:Nat->Bool} {held:Bool} {b0:Nat}:∀{ts:List TypeId} {vs:List Value} {ds:List (DataW H)} {ps:List MemPlace},DataW.TrodAll enc P W b0 sp held ts vs ds ps->ds.length=ts.length
 |[],vs,ds,ps,h=>by obtain⟨_,rfl,_⟩:=trodAll_nil h;rfl
 |t::ts,vs,ds,ps,h=>by
  obtain⟨v,vs',d,ds',p,q,rfl,rfl,rfl,h0,h1⟩:=trodAll_cons h;simp[uB h1]
end
theorem E2{α:Type} {l:List α} {n:Nat} (h:l.length=n+1):∃a m,l=a::m/\m.length=n:=by
 cases l with
 |nil=>cases h
 |cons a m=>exact⟨a,m,rfl,by simpa using h⟩
theorem U3{α:Type} {l:List α} (h:l.length=1):∃a,l=[a]:=by obtain⟨a,m,rfl,h2⟩:=E2 h;exact⟨a,by rw[List.length_eq_zero_iff.1 h2]⟩
theorem U4{α:Type} {l:List α} (h:l.length=2):∃a b,l=[a,b]:=by obtain⟨a,m,rfl,h2⟩:=E2 h;obtain⟨b,rfl⟩:=U3 h2;exact⟨a,b,rfl⟩
theorem U5{α:Type} {l:List α} (h:l.length=3):∃a b c,l=[a,b,c]:=by obtain⟨a,m,rfl,h2⟩:=E2 h;obtain⟨b,c,rfl⟩:=U4 h2;exact⟨a,b,c,rfl⟩
theorem U6{α:Type} {l:List α} (h:l.length=4):∃a b c d,l=[a,b,c,d]:=by obtain⟨a,m,rfl,h2⟩:=E2 h;obtain⟨b,c,d,rfl⟩:=U5 h2;exact⟨a,b,c,d,rfl⟩
end Go.Eng
