/- The engine and the library,part 16 of 20: what the proofs of this seat need of them. -/
import Derived.Test.YtkckiembbiiliaaGreatPk15
set_option linter.unnecessarySimpa false
set_option linter.unusedSimpArgs false
set_option linter.unusedVariables false
set_option linter.defProp false
set_option maxRecDepth 10000
set_option maxHeartbeats 4000000
namespace Go.Eng
open Go
theorem zQ(n:Int):IntKind.i64.wrap n%18446744073709551616=n%18446744073709551616:=by
 simp only[IntKind.wrap,IntKind.bits,IntKind.signed];simp;omega
def EX(b:Bool):Int:=if b then 1 else 0
def Cb:Cd Bool:=(oV 1 1 (by decide) (by decide)).map (fun n=>n==1) EX (fun x hx=>by
 have:x=0\/x=1:=by have:=hx.1;have:=hx.2;omega
 rcases this with rfl|rfl<;>rfl)
theorem Ri(b:Bool):Cb.v b:=by cases b<;>exact⟨by show _/\_;simp[EX],rfl⟩
def Nu(lv:Bool) (x:Nat):Bool:=if lv then lvl x else eo x
def gM(lv:Bool) (r:aU):Nat×aU:=
 if(gl r).2.code=0 then
  if Nu lv (gl r).1=true then gl r else(0,{(gl r).2 with code:=4,Eb:=r.dD,dD:=r.dD})
 else(0,(gl r).2)
theorem EY(r:aU):(gl r).2.b=r.b:=by
 unfold gl;split
 ·unfold aU.fail;split<;>rfl
 ·rfl
def vC(lv:Bool):Cd Nat where
 m r:=gM lv r
 e x:=gV (IntKind.i64.wrap (x:Int)) 8
 v x:=x<2^64/\Nu lv x=true
 ok r h:=by
  have h2:=(sH h).1
  have h3:=(sH h).2
  unfold gM;split
  ·split
   ·exact h2
   ·refine⟨h.1,?_,?_⟩
    ·show r.dD<=(gl r).2.len
     unfold aU.len;rw[h3];exact h.2.1
    ·exact h2.2.2
  ·exact h2
 keep r:=by
  unfold gM;split
  ·split
   ·exact EY r
   ·exact EY r
  ·exact EY r
 stay r h:=by
  have:gl r=(0,r):=by simp[gl,h,aU.fail]
  simp[gM,this,h]
 back r x tl hr h0 hv he:=by
  have hl:=oT hr
  rw[he,List.length_append,dz]at hl
  have hpt:r.part (8:Int)=gV (IntKind.i64.wrap (x:Int)) 8:=by
   have:=oU r hr 8
   rw[he]at this
   rw[show(8:Int)=((8:Nat):Int)from rfl,this];exact List.take_left' (dz _ 8)
  have hn:(eH (gV (IntKind.i64.wrap (x:Int)) 8)).toNat=x:=by
   rw[Dw _ 8 (by omega)]
   have:=zQ (x:Int)
   show(IntKind.i64.wrap (x:Int)%18446744073709551616).toNat=x
   rw[this]
   have:=hv.1
   omega
  have hf:gl r=(x,r.go 8):=by
   unfold gl
   rw[if_neg (by omega),hpt,hn];rfl
  have h1:(gl r).2.code=0:=by rw[hf];exact h0
  unfold gM;rw[if_pos h1,hf];simp only[hv.2,if_true,dz]
 wrote r hr hb h0 hc:=by
  have hl:=oT hr
  by_cases h1:(8:Int)<=r.len-r.dD
  ·have hf:gl r=((eH (r.part 8)).toNat,r.go 8):=by
    unfold gl
    rw[if_neg (by omega)];rfl
   have hcd:(gl r).2.code=0:=by rw[hf];exact h0
   have hpl:((r.rest').take 8).length=8:=by rw[List.length_take];omega
   have hbp:sM ((r.rest').take 8):=fun x hx=>hb x (List.mem_of_mem_drop (List.mem_of_mem_take hx))
   have hpr:r.part (8:Int)=(r.rest').take 8:=oU r hr 8
   have hin:=x7 hbp (by omega)
   have hbn:=rQ _ hbp (by omega)
   rw[hpl]at hin hbn
   have h256:(256:Int)^8=18446744073709551616:=by decide
   rw[h256]at hin
   have e8:gV (IntKind.i64.wrap (((eH ((r.rest').take 8)).toNat:Nat):Int)) 8=(r.rest').take 8:=by
    refine Eq.trans (Ca (m:=eH ((r.rest').take 8)) 8 ?_) hbn
    rw[Int.toNat_of_nonneg hin.1,h256];exact zQ _
   rw[hpr]at hf
   obtain⟨L,hL⟩:∃L,L=(r.rest').take 8:=⟨_,rfl⟩
   rw[<-hL]at hf hin e8 hbn
   by_cases h2:Nu lv (eH L).toNat=true
   ·have hs:gM lv r=((eH L).toNat,r.go 8):=by unfold gM;rw[if_pos hcd,hf];simp only[h2,if_true]
    rw[hs]
    refine⟨⟨by show(eH L).toNat<2^64;omega,h2⟩,(r.rest').drop 8,?_,?_⟩
    ·show r.rest'=gV _ 8++_
     rw[e8,hL,List.take_append_drop]
    ·show r.go 8=r.go (gV _ 8).length
     rw[dz]
   ·exfalso
    unfold gM at hc;rw[if_pos hcd,hf]at hc;simp only[h2,if_false]at hc;simp at hc
  ·exfalso
   have hf:gl r=(0,r.fail 2 r.len):=by
    unfold gl
    rw[if_pos (by omega)]
   unfold gM at hc;rw[hf]at hc;simp[aU.fail,h0]at hc
 cut r n tl hr h0 hv he ht:=by
  have hl:=oT hr
  have:(r.rest').length<8:=by
   have:=congrArg List.length he
   rw[dz,List.length_append]at this
   have:0<tl.length:=List.length_pos_iff.2 ht
   omega
  have hf:gl r=(0,r.fail 2 r.len):=by
   unfold gl
   rw[if_pos (by omega)]
  unfold gM;rw[hf];simp[aU.fail,h0]
 Nt n:=x8 _ 8
def aT:Cd Int:=oV 2 9999 (by decide) (by decide)
def jN:Cd Int:=oV 1 255 (by decide) (by decide)
def dB:Cd Int:=oV 4 2147483647 (by decide) (by decide)
def cu(hi:Int) (h:hi<256):Cd Int:=oV 1 hi (by decide) (by simpa using h)
def xO:Cd Ph:=(Cb.seq fun _=>aT.seq fun _=>aT.seq fun _=>aT.seq fun _=>aT.seq fun _=>aT.seq fun _=>aT.seq fun _=>aT.seq fun _=>aT.seq fun _=>aT.seq fun _=>
  (cu 3 (by decide)).seq fun _=>Cb.seq fun _=>Cb).map
 (fun(a,b,c,d,e,f,g,h,i,j,k,l,m)=>⟨a,b,c,d,e,f,g,h,i,j,k,l,m⟩)
 (fun p=>(p.on,p.min,p.C7,p.max,p.top,p.step,p.eO,p.red,p.walk,p.fc,p.iH,p.lock,p.rest)) (fun _ _=>rfl)
def lJ:Cd (List Int):=Cd.many (cu 8 (by decide)) (cu 7 (by decide)) (fun _ h=>h.1)
def wK:Cd Gr:=(lJ.seq fun _=>lJ).map (fun(a,b)=>⟨bf a,bf b⟩) (fun g=>(g.a.getD [],g.b.getD [])) (fun x _=>by simp only[bL])
def nF:Cd gu:=((cu 7 (by decide)).seq fun _=>(vC true).seq fun _=>(vC true).seq fun _=>(vC false).seq fun _=>(vC false).seq fun _=>aT.seq fun _=>aT).map
 (fun(a,b,c,d,e,f,g)=>⟨a,b,c,d,e,f,g⟩) (fun d=>(d.phase,d.on,d.off,d.delay,d.extend,d.maxOn,d.kg)) (fun _ _=>rfl)
def Ag:Cd Rl:=(jN.seq fun _=>jN.seq fun _=>jN.seq fun _=>jN.seq fun _=>aT.seq fun _=>aT.seq fun _=>aT.seq fun _=>aT.seq fun _=>aT.seq fun _=>aT.seq fun _=>dB).map
 (fun(a,b,c,d,e,f,g,h,i,j,k)=>⟨a,b,c,d,e,f,g,h,i,j,k⟩) (fun r=>(r.bars,r.clear,r.ki,r.exit,r.delay,r.green,r.lU,r.hold,r.stay,r.most,r.limit)) (fun _ _=>rfl)
def zR:Cd Bs:=(jN.seq fun _=>aT).map (fun(a,b)=>⟨a,b⟩) (fun b=>(b.set,b.lock)) (fun _ _=>rfl)
def zS:Cd (List Gr):=Cd.many (cu 4 (by decide)) wK (fun _ h=>h.1)
def nw:Cd (List gu):=Cd.many (cu 16 (by decide)) nF (fun _ h=>h.1)
def rR:Cd (List Rl):=Cd.many (cu 4 (by decide)) Ag (fun _ h=>h.1)
def pW:Cd (List Bs):=Cd.many (cu 4 (by decide)) zR (fun _ h=>h.1)
def jY:Cd Tb:=((xO.rep 8).seq fun _=>zS.seq fun _=>(jN.rep 8).seq fun _=>nw.seq fun _=>rR.seq fun _=>pW.seq fun _=>
  aT.seq fun _=>aT.seq fun _=>aT.seq fun _=>aT.seq fun _=>aT.seq fun _=>((cu 2 (by decide)).rep 8).seq fun _=>dB.seq fun _=>dB).map
 (fun(a,b,c,d,e,f,g,h,i,j,k,l,m,n)=>⟨a,bf b,c,bf d,bf e,bf f,g,h,i,j,k,l,m,n⟩)
 (fun t=>(t.phases,t.groups.getD [],t.conflict,t.aA.getD [],t.aV.getD [],t.bl.getD [],t.extend,t.cV,t.start,t.revert,t.least,t.bq,t.dw,t.share))
 (fun x _=>by simp only[bL])
theorem wL{m n:Int}:wI m n=true↔0<=n/\n<=m:=by simp[wI]
theorem Vv(p:Ph):xO.v p↔rP p=true:=by
 have e:xO.v p↔((Cb.v p.on/\aT.v p.min/\aT.v p.C7/\aT.v p.max/\aT.v p.top/\aT.v p.step/\aT.v p.eO/\aT.v p.red/\aT.v p.walk/\aT.v p.fc/\(cu 3 (by decide)).v p.iH/\Cb.v p.lock/\Cb.v p.rest)/\p=p):=Iff.rfl
 rw[e];simp only[Ri,aT,cu,oV,rP];simp[wL,and_assoc]
theorem J3(l:List Int):lJ.v l↔lW (some l)=true:=by
 unfold lJ;rw[zO];simp only[cu,oV,lW];simp[wL]
theorem sN(l:Option (List Int)):lW l=lW (some (l.getD [])):=rfl
theorem Rj(d:gu):nF.v d↔d.Fw/\gI d=true:=by
 have e:nF.v d↔(((cu 7 (by decide)).v d.phase/\(vC true).v d.on/\(vC true).v d.off/\(vC false).v d.delay/\(vC false).v d.extend/\aT.v d.maxOn/\aT.v d.kg)/\d=d):=Iff.rfl
 rw[e];simp only[aT,cu,oV,vC,gI,Nu,gu.Fw];simp[wL];constructor
 ·rintro⟨h1,⟨h2,h3⟩,⟨h4,h5⟩,⟨h6,h7⟩,⟨h8,h9⟩,h10,h11⟩
  exact⟨⟨h2,h4,h6,h8⟩,⟨⟨⟨⟨⟨h1,h3⟩,h5⟩,h7⟩,h9⟩,h10,h11⟩⟩
 ·rintro⟨⟨h2,h4,h6,h8⟩,⟨⟨⟨⟨⟨h1,h3⟩,h5⟩,h7⟩,h9⟩,h10,h11⟩⟩
  exact⟨h1,⟨h2,h3⟩,⟨h4,h5⟩,⟨h6,h7⟩,⟨h8,h9⟩,h10,h11⟩
theorem Vw(r:Rl):Ag.v r↔tN r=true:=by
 have e:Ag.v r↔((jN.v r.bars/\jN.v r.clear/\jN.v r.ki/\jN.v r.exit/\aT.v r.delay/\aT.v r.green/\aT.v r.lU/\aT.v r.hold/\aT.v r.stay/\aT.v r.most/\dB.v r.limit)/\r=r):=Iff.rfl
 rw[e];simp only[jN,aT,dB,oV,tN];simp[wL,and_assoc]
theorem Vx(b:Bs):zR.v b↔tO b=true:=by
 have e:zR.v b↔((jN.v b.set/\aT.v b.lock)/\b=b):=Iff.rfl
 rw[e];simp only[jN,aT,oV,tO];simp[wL,and_assoc]
def vD(g:Gr):Gr:=⟨bf (g.a.getD []),bf (g.b.getD [])⟩
def qt(t:Tb):Tb:={t with groups:=bf ((t.groups.getD []).map vD),aA:=bf (t.aA.getD []),aV:=bf (t.aV.getD []),bl:=bf (t.bl.getD [])}
theorem Vy(g:Gr):wK.v g↔lI g=true/\vD g=g:=by
 have e:wK.v g↔((lJ.v (g.a.getD [])/\lJ.v (g.b.getD []))/\vD g=g):=Iff.rfl
 rw[e,J3,J3,lI,sN g.a,sN g.b,Bool.and_eq_true]
theorem J4(g:Gr):vD (vD g)=vD g:=by simp[vD,bL]
theorem Hi(g:Gr):lI (vD g)=lI g:=by
 simp only[lI,vD,sN (bf _),bL,<-sN]
theorem J5(l:List Gr):zS.v l↔(l.length:Int)<=4/\∀g∈l,lI g=true/\vD g=g:=by
 unfold zS;rw[zO];simp only[Vy,cu,oV];simp
theorem FV(l:List gu):nw.v l↔(l.length:Int)<=16/\∀g∈l,g.Fw/\gI g=true:=by
 unfold nw;rw[zO];simp only[Rj,cu,oV];simp
theorem J6(l:List Rl):rR.v l↔(l.length:Int)<=4/\∀g∈l,tN g=true:=by
 unfold rR;rw[zO];simp only[Vw,cu,oV];simp
theorem J7(l:List Bs):pW.v l↔(l.length:Int)<=4/\∀g∈l,tO g=true:=by
 unfold pW;rw[zO];simp only[Vx,cu,oV];simp
theorem Ba(t:Tb):jY.v t↔(((t.phases.length=8/\∀p∈t.phases,rP p=true)/\zS.v (t.groups.getD [])/\(t.conflict.length=8/\∀n∈t.conflict,wI 255 n=true)/\
  nw.v (t.aA.getD [])/\rR.v (t.aV.getD [])/\pW.v (t.bl.getD [])/\wI 9999 t.extend=true/\wI 9999 t.cV=true/\wI 9999 t.start=true/\wI 9999 t.revert=true/\wI 9999 t.least=true/\
  (t.bq.length=8/\∀n∈t.bq,wI 2 n=true)/\wI 2147483647 t.dw=true/\wI 2147483647 t.share=true)/\
  ({t with groups:=bf (t.groups.getD []),aA:=bf (t.aA.getD []),aV:=bf (t.aV.getD []),bl:=bf (t.bl.getD [])}:Tb)=t):=by
 have e:jY.v t↔(((xO.rep 8).v t.phases/\zS.v (t.groups.getD [])/\(jN.rep 8).v t.conflict/\nw.v (t.aA.getD [])/\rR.v (t.aV.getD [])/\pW.v (t.bl.getD [])/\
  aT.v t.extend/\aT.v t.cV/\aT.v t.start/\aT.v t.revert/\aT.v t.least/\((cu 2 (by decide)).rep 8).v t.bq/\dB.v t.dw/\dB.v t.share)/\
  ({t with groups:=bf (t.groups.getD []),aA:=bf (t.aA.getD []),aV:=bf (t.aV.getD []),bl:=bf (t.bl.getD [])}:Tb)=t):=Iff.rfl
 rw[e];simp only[FU,Vv,wL];rfl
theorem Rk{t:Tb} (h:jY.v t):t.Ln/\t.Fw/\mH t=true:=by
 rw[Ba,J5,FV,J6,J7]at h;obtain⟨⟨⟨h1,h2⟩,⟨h3,h4⟩,⟨h5,h6⟩,⟨h7,h8⟩,⟨h9,h10⟩,⟨h11,h12⟩,h13,h14,h15,h16,h17,⟨h18,h19⟩,h20,h21⟩,_⟩:=h
 refine⟨⟨h1,h5,h18⟩,fun d hd=>(h8 d hd).1,?_⟩
 simp only[mH,Bool.and_eq_true,List.all_eq_true,decide_eq_true_eq,List.mem_cons,List.not_mem_nil,or_false,forall_eq_or_imp,forall_eq]
 exact⟨⟨⟨⟨⟨⟨⟨⟨h2,h3,fun g hg=>(h4 g hg).1⟩,h6⟩,h7,fun d hd=>(h8 d hd).2⟩,h9,h10⟩,h11,h12⟩,h13,h14,h15,h16,h17⟩,h19⟩,h20,h21⟩
theorem J8{t:Tb} (hl:t.Ln) (hf:t.Fw) (hm:mH t=true):jY.v (qt t):=by
 simp only[mH,Bool.and_eq_true,List.all_eq_true,decide_eq_true_eq,List.mem_cons,List.not_mem_nil,or_false,forall_eq_or_imp,forall_eq]at hm;obtain⟨⟨⟨⟨⟨⟨⟨⟨h2,h3,h4⟩,h6⟩,h7,h8⟩,h9,h10⟩,h11,h12⟩,h13,h14,h15,h16,h17⟩,h19⟩,h20,h21⟩:=hm;rw[Ba,J5,FV,J6,J7];simp only[qt,bL]
 refine⟨⟨⟨hl.phases,h2⟩,⟨by simpa using h3,fun g hg=>?_⟩,⟨hl.conflict,h6⟩,⟨h7,fun d hd=>⟨hf d hd,h8 d hd⟩⟩,⟨h9,h10⟩,⟨h11,h12⟩,h13,h14,h15,h16,h17,⟨hl.bq,h19⟩,h20,h21⟩,trivial⟩
 obtain⟨x,hx,rfl⟩:=List.mem_map.1 hg
 exact⟨by rw[Hi];exact h4 x hx,J4 x⟩
def zT.Spec(C:bz) (f:Nat):Prop:=∀x:Nat,C.c f [Fl x] (B (lvl x)) none
def rS.Spec(C:bz) (f:Nat):Prop:=∀x:Nat,x<2^64->C.c f [Fl x] (B (eo x)) none
section
variable{P:Program} (hm:P.follows .mixedOrders=true) {f:Nat}
include hm
theorem rS.ok{fT fS:Nat} (hc:cZ P f=some (oR fT fS)) (hT:zn.Spec (Pure P) fT) (hS:Sc.Spec (Pure P) fS):rS.Spec (Pure P) f:=by
 intro x hx
 have ht:=hT x hx
 rw[xL]at ht;rw[eo]
 have hs:=hS x
 generalize GZ x=b1 at*;generalize Ns x=b2 at*
 refine aC hm hc (by show 1<=16;decide) (ay (keep:=[]) (i:=0) ?_)
 try simp only[I,B,D,RX,↓KW,Nat.reduceBEq,Nat.reduceAdd,Nat.reduceLeDiff,Int.reduceNe,Int.reduceBEq,Int.reduceEq,reduceCtorEq,Nat.reduceMul,Int.reduceLT,Int.reduceLE,Int.reduceToNat,oR,Z.H]
 refine ai ht ?_;cases b1
 ·try simp only[I,B,D,RX,↓KW,Nat.reduceBEq,Nat.reduceAdd,Nat.reduceLeDiff,Int.reduceNe,Int.reduceBEq,Int.reduceEq,reduceCtorEq,Nat.reduceMul,Int.reduceLT,Int.reduceLE,Int.reduceToNat]
  rfl
 ·try simp only[I,B,D,RX,↓KW,Nat.reduceBEq,Nat.reduceAdd,Nat.reduceLeDiff,Int.reduceNe,Int.reduceBEq,Int.reduceEq,reduceCtorEq,Nat.reduceMul,Int.reduceLT,Int.reduceLE,Int.reduceToNat]
  refine ai hs ?_;try simp only[I,B,D,RX,↓KW,Nat.reduceBEq,Nat.reduceAdd,Nat.reduceLeDiff,Int.reduceNe,Int.reduceBEq,Int.reduceEq,reduceCtorEq,Nat.reduceMul,Int.reduceLT,Int.reduceLE,Int.reduceToNat]
  rfl
theorem zT.ok(hc:cZ P f=some rO):zT.Spec (Pure P) f:=by
 intro x
 refine aC hm hc (by show 1<=9;decide) (ay (keep:=[]) (i:=0) ?_)
 try simp only[I,B,D,RX,↓KW,Nat.reduceBEq,Nat.reduceAdd,Nat.reduceLeDiff,Int.reduceNe,Int.reduceBEq,Int.reduceEq,reduceCtorEq,Nat.reduceMul,Int.reduceLT,Int.reduceLE,Int.reduceToNat,rO,Z.H,Dj]
 rw[lvl];generalize Jj x 0=b1 at*;cases b1
 ·try simp only[I,B,D,RX,↓KW,Nat.reduceBEq,Nat.reduceAdd,Nat.reduceLeDiff,Int.reduceNe,Int.reduceBEq,Int.reduceEq,reduceCtorEq,Nat.reduceMul,Int.reduceLT,Int.reduceLE,Int.reduceToNat]
  rfl
 ·try simp only[I,B,D,RX,↓KW,Nat.reduceBEq,Nat.reduceAdd,Nat.reduceLeDiff,Int.reduceNe,Int.reduceBEq,Int.reduceEq,reduceCtorEq,Nat.reduceMul,Int.reduceLT,Int.reduceLE,Int.reduceToNat,Dj]
  rfl
end
section
open Z
def mL:List AV:=[.int .u16 0,.int .u16 0,.int .u16 0,.int .u16 0,.int .u16 0,.int .u16 0,.int .u16 0,.int .u16 0,.int .u16 0,.int .u16 0,.int .u16 0,.int .u16 0,.int .u16 0,.int .u16 0,.int .u16 0,.int .u16 0]
def ny(g0 g1 g2 g3 g4:Nat):cR:=⟨59,[.tmp 2],r [V 2 (F)] (j (r [M 12 0,o 13 (h 12),o 14 (bb .gtr 13 (i 2100))] (c 14 (r [o 15 (.call g0 []),M 2 15] y) z)) (r [M 17 0,o 18 (.call g1 [t 17]),M 16 18,o 19 (e 16 0),o 20 (e 16 1),o 3 (.alloc aY),o 4 (.alloc [i 0,i 0]),n (s 3 19 131),n (s 4 20 2)] (r [M 22 0,o 23 (.call g2 [t 22]),M 21 23,o 24 (e 21 0),o 25 (e 21 1),o 5 (.alloc aY),o 6 (.alloc [i 0,i 0]),n (s 5 24 131),n (s 6 25 2)] (r [M 26 0,o 27 (.call g3 [t 26]),M 7 27] (r [M 29 7,o 30 (.call g1 [t 29]),M 28 30,o 31 (e 28 0),o 32 (e 28 1),o 8 (.alloc aY),o 9 (.alloc [i 0,i 0]),n (s 8 31 131),n (s 9 32 2)] (r [M 34 7,o 35 (.call g2 [t 34]),M 33 35,o 36 (e 33 0),o 37 (e 33 1),o 10 (.alloc aY),o 11 (.alloc [i 0,i 0]),n (s 10 36 131),n (s 11 37 2)] (r [o 38 (L 4 2),o 39 (L 6 2),o 40 (.eqc [.i,.i] false (t 38) (t 39)),M 41 40,p 42 (L 3 131) 41,p 43 (L 5 131) 41,p 44 (.call g4 [t 42,t 43]) 41,o 45 (P 41 44),M 46 45,p 47 (L 9 2) 46,p 48 (L 11 2) 46,p 49 (.eqc [.i,.i] false (t 47) (t 48)) 46,o 50 (P 46 49),M 51 50,p 52 (L 8 131) 51,p 53 (L 10 131) 51,p 54 (.call g4 [t 52,t 53]) 51,o 55 (P 51 54),M 56 55,p 57 (.call g0 []) 56,o 58 (P 56 57),M 2 58] y)))))))⟩
def nX(g0 g1 g2 g3 g4:Nat):cR:=⟨40,[.tmp 2],r [V 2 (F)] (r [M 8 0,o 9 (.call g0 [t 8]),o 3 (.alloc aY),n (s 3 9 131)] (r [o 11 (L 3 131),o 12 (.call g1 [t 11]),M 10 12,o 13 (e 10 0),o 14 (e 10 1),M 4 13,M 5 14] (r [M 16 4,o 17 (.call g2 [t 16]),M 15 17,o 18 (e 15 0),o 19 (e 15 1),o 6 (.alloc aY),o 7 (.alloc [i 0,i 0]),n (s 6 18 131),n (s 7 19 2)] (r [M 20 5,o 21 (bb .eql 20 (i 0)),M 22 21,p 23 (f 7 0) 22,p 24 (l 23) 22,p 25 (bb .eql 24 (i 0)) 22,o 26 (P 22 25),M 27 26,p 28 (L 3 131) 27,p 29 (L 6 131) 27,p 30 (.call g3 [t 28,t 29]) 27,o 31 (P 27 30),M 32 31,p 33 (m 4) 32,p 34 (h 33) 32,p 35 (bb .leq 34 (i 2048)) 32,o 36 (P 32 35),M 37 36,p 38 (.call g4 []) 37,o 39 (P 37 38),M 2 39] y))))⟩
def gJ(g0 g1 g2 g3 g4 g5:Nat):cR:=⟨69,[.tmp 6],r [V 6 (F)] (j (r [M 14 2,o 15 (h 14),o 16 (bb .eql 15 (i 0)),M 17 16,q 18 (m 2) 17,q 19 (h 18) 17,q 20 (bb .gtr 19 (i 50)) 17,o 21 (Q 17 20)] (c 21 (r [o 22 (.call g0 []),M 6 22] y) z)) (r [M 24 0,o 25 (.call g1 [t 24]),o 26 (.call g2 [t 25]),M 23 26,o 27 (e 23 0),o 28 (e 23 1),M 7 27,M 8 28] (j (r [M 29 8,o 30 (bb .neq 29 (i 0)),M 31 30,q 32 (m 7) 31,q 33 (h 32) 31,q 34 (bb .eql 33 (i 0)) 31,o 35 (Q 31 34)] (c 35 (r [V 6 (F)] y) z)) (r [M 36 1,M 37 7,o 38 (h 37),o 39 (.call g3 [t 36,t 38]),M 9 39] (r [M 41 7,M 42 9,o 43 (.HD 1 (t 41) none (some (t 42))),o 44 (.call g4 [t 43]),M 40 44,o 45 (e 40 0),o 46 (e 40 1),o 10 (.alloc aY),o 11 (.alloc [i 0,i 0]),n (s 10 45 131),n (s 11 46 2)] (r [M 48 7,o 49 (.app g5 1 1 (k .bM) (t 48)),M 50 2,o 51 (.app g5 1 1 (t 49) (t 50)),o 52 (.call g4 [t 51]),M 47 52,o 53 (e 47 0),o 54 (e 47 1),o 12 (.alloc aY),o 13 (.alloc [i 0,i 0]),n (s 12 53 131),n (s 13 54 2)] (r [o 55 (L 11 2),M 56 9,o 57 (.build [i 0,i 0] [(0,1,k (i 2)),(1,1,t 56)]),o 58 (.eqc [.i,.i] false (t 55) (t 57)),M 59 58,p 60 (L 13 2) 59,p 61 (m 7) 59,p 62 (h 61) 59,p 63 (.build [i 0,i 0] [(0,1,k (i 6)),(1,1,t 62)]) 59,p 64 (.eqc [.i,.i] false (t 60) (t 63)) 59,o 65 (P 59 64),M 66 65,p 67 (.call g0 []) 66,o 68 (P 66 67),M 6 68] y)))))))⟩
def rT(g0 g1:Nat):cR:=⟨37,[.tmp 0],r [V 0 (F)] (r [o 6 (.call g0 [k .bM]),M 5 6,o 7 (e 5 0),o 8 (e 5 1),o 1 (.alloc aY),o 2 (.alloc [i 0,i 0]),n (s 1 7 131),n (s 2 8 2)] (r [o 10 (.build aY []),o 11 (.call g1 [t 10]),M 9 11,o 12 (e 9 0),o 13 (e 9 1),M 3 12,M 4 13] (r [o 14 (f 2 0),o 15 (l 14),o 16 (bb .eql 15 (i 2)),M 17 16,p 18 (f 2 1) 17,p 19 (l 18) 17,p 20 (bb .eql 19 (i 0)) 17,o 21 (P 17 20),M 22 21,p 23 (m 4) 22,p 24 (bb .eql 23 (i 0)) 22,o 25 (P 22 24),M 26 25,p 27 (m 3) 26,p 28 (h 27) 26,p 29 (bb .gtr 28 (i 3)) 26,o 30 (P 26 29),M 31 30,p 32 (m 3) 31,p 33 (.Bl (t 32) (k (i 0)) 1) 31,p 34 (l 33) 31,p 35 (bb .eql 34 (.int .u8 88)) 31,o 36 (P 31 35),M 0 36] y)))⟩
def fK (f_code_Decode_1 e_api_Fault f_wire_New f_code_reading_num f_code_reading_table f_wire_Reader_At f_crc_Of f_wire_Reader_Left:Nat):zw:=⟨47,[.cell 2 (some 131),.cell 3 (some 2)],
  .aO [
    ⟨(some 2),.o (.alloc aY),none⟩,
    ⟨(some 3),.o (.alloc [(.int .i64 0),(.int .i64 0)]),none⟩],f_code_Decode_1,[(.t 2),(.t 3)],6,
  .join (.seq (.aO [
     ⟨(some 7),.o (.mv (.t 0)),none⟩,
     ⟨(some 8),.o (.nC (.t 7)),none⟩,
     ⟨(some 9),.o (.bin .gtr (.t 8) (.k (.int .i64 2048))),none⟩])
   (.cond (.t 9) (.aO [
      ⟨(some 10),.o (.build [(.int .i64 0),(.int .i64 0)] [(0,1,(.k (.int .i64 1)))]),none⟩,
      ⟨(some 11),.Hy e_api_Fault (.t 10),none⟩,
      ⟨none,.Hx (.t 11),none⟩])
    (.skip)))
  (.seq (.aO [
    ⟨(some 12),.o (.mv (.t 0)),none⟩,
    ⟨(some 13),.call f_wire_New [(.t 12)],none⟩,
    ⟨(some 14),.Ge (.t 13),none⟩,
    ⟨(some 4),.o (.alloc [.mj]),none⟩,
    ⟨none,.RG (.t 4) (.t 14),none⟩])
  (.join (.seq (.aO [
     ⟨(some 15),.o (.jX (.t 4) (some 1)),none⟩,
     ⟨(some 16),.aB f_code_reading_num [(.t 15),(.k (.int .i64 3)),(.k (.int .i64 0)),(.k (.int .i64 16777215))],none⟩,
     ⟨(some 17),.o (.bin .neq (.t 16) (.k (.int .i64 5784065))),none⟩])
   (.cond (.t 17) (.aO [
      ⟨(some 18),.o (.build [(.int .i64 0),(.int .i64 0)] [(0,1,(.k (.int .i64 3)))]),none⟩,
      ⟨(some 19),.Hy e_api_Fault (.t 18),none⟩,
      ⟨none,.Hx (.t 19),none⟩])
    (.skip)))
  (.seq (.aO [
    ⟨(some 20),.o (.jX (.t 4) (some 1)),none⟩,
    ⟨(some 21),.aB f_code_reading_table [(.t 20)],none⟩,
    ⟨none,.o (.st (.t 2) (.t 21) 131),none⟩])
  (.seq (.aO [
    ⟨(some 22),.o (.fa (.t 4) 0),none⟩,
    ⟨(some 23),.o (.jX (.t 22) none),none⟩,
    ⟨(some 24),.aB f_wire_Reader_At [(.t 23)],none⟩,
    ⟨(some 5),.o (.mv (.t 24)),none⟩])
  (.join (.seq (.xH [
     ⟨(some 25),.jX (.t 4) (some 1),none⟩,
     ⟨(some 26),.aB f_code_reading_num [(.t 25),(.k (.int .i64 2)),(.k (.int .i64 0)),(.k (.int .i64 65535))],none⟩,
     ⟨(some 27),.mv (.t 0),none⟩,
     ⟨(some 28),.mv (.t 5),none⟩,
     ⟨(some 29),.HD 1 (.t 27) none (some (.t 28)),none⟩,
     ⟨(some 30),.call f_crc_Of [(.t 29)],none⟩,
     ⟨(some 31),.kF .i64 (.t 30),none⟩,
     ⟨(some 32),.bin .neq (.t 26) (.t 31),none⟩] [] 1 [5,6,7])
   (.cond (.t 32) (.aO [
      ⟨(some 33),.o (.mv (.t 5)),none⟩,
      ⟨(some 34),.o (.build [(.int .i64 0),(.int .i64 0)] [(0,1,(.k (.int .i64 5))),(1,1,(.t 33))]),none⟩,
      ⟨(some 35),.Hy e_api_Fault (.t 34),none⟩,
      ⟨none,.Hx (.t 35),none⟩])
    (.skip)))
  (.join (.seq (.aO [
     ⟨(some 36),.o (.fa (.t 4) 0),none⟩,
     ⟨(some 37),.o (.jX (.t 36) none),none⟩,
     ⟨(some 38),.aB f_wire_Reader_Left [(.t 37)],none⟩,
     ⟨(some 39),.o (.bin .gtr (.t 38) (.k (.int .i64 0))),none⟩])
   (.cond (.t 39) (.aO [
      ⟨(some 40),.o (.fa (.t 4) 0),none⟩,
      ⟨(some 41),.o (.jX (.t 40) none),none⟩,
      ⟨(some 42),.aB f_wire_Reader_At [(.t 41)],none⟩,
      ⟨(some 43),.o (.build [(.int .i64 0),(.int .i64 0)] [(0,1,(.k (.int .i64 6))),(1,1,(.t 42))]),none⟩,
      ⟨(some 44),.Hy e_api_Fault (.t 43),none⟩,
      ⟨none,.Hx (.t 44),none⟩])
    (.skip)))
  (.seq (.aO [
    ⟨(some 45),.o (.ld (.t 2) (some 131)),none⟩,
    ⟨(some 46),.o (.build [(.int .i64 0),(.int .i64 0)] []),none⟩,
    ⟨none,.o (.st (.t 2) (.t 45) 131),none⟩,
    ⟨none,.o (.st (.t 3) (.t 46) 2),none⟩])
  (.ret))))))))⟩
def gZ(g0 g1 g2 g3:Nat):cR:=⟨82,[.cell 2 (some 131),.cell 3 (some 2)],r [o 2 (.alloc aY),o 3 (.alloc [i 0,i 0])] (j (r [M 8 0,o 9 (h 8),o 10 (bb .gtr 9 (i 2048))] (c 10 (r [o 11 (.build aY []),o 12 (.build [i 0,i 0] [(0,1,k (i 1))]),n (s 2 11 131),n (s 3 12 2)] y) z)) (j (r [M 13 0,o 14 (h 13),o 15 (bb .lss 14 (i 3))] (c 15 (r [o 16 (.build aY []),M 17 0,o 18 (h 17),o 19 (.build [i 0,i 0] [(0,1,k (i 2)),(1,1,t 18)]),n (s 2 16 131),n (s 3 19 2)] y) z)) (j (r [M 20 0,o 21 (.Bl (t 20) (k (i 0)) 1),o 22 (l 21),o 23 (bb .neq 22 (.int .u8 88)),M 24 23,q 25 (m 0) 24,q 26 (.Bl (t 25) (k (i 1)) 1) 24,q 27 (l 26) 24,q 28 (bb .neq 27 (.int .u8 66)) 24,o 29 (Q 24 28),M 30 29,q 31 (m 0) 30,q 32 (.Bl (t 31) (k (i 2)) 1) 30,q 33 (l 32) 30,q 34 (bb .neq 33 (.int .u8 1)) 30,o 35 (Q 30 34)] (c 35 (r [o 36 (.build aY []),o 37 (.build [i 0,i 0] [(0,1,k (i 3))]),n (s 2 36 131),n (s 3 37 2)] y) z)) (r [M 38 0,o 39 (.build [.bM,i 0,i 0,i 0] [(0,1,t 38),(1,1,k (i 3))]),o 40 (w 39),M 4 40] (r [M 41 4,o 42 (.aB g0 [t 41]),o 5 (.alloc aY),n (s 5 42 131)] (r [M 43 4,o 44 (.nc (t 43)),o 45 (f 44 1),o 46 (l 45),M 6 46] (r [M 47 4,o 48 (.aB g1 [t 47,k (i 2),k (i 0),k (i 65535)]),M 7 48] (j (r [M 49 4,o 50 (.aB g2 [t 49]),o 51 (.un .not (t 50))] (c 51 (.seq (.qm [o 52 (.build aY []),M 53 4,o 54 (.nc (t 53)),o 55 (f 54 2),o 56 (L 55 2),n (s 2 52 131),n (s 3 56 2)] [(4,5)]) y) z)) (j (r [M 57 7,M 58 0,M 59 6,o 60 (.HD 1 (t 58) none (some (t 59))),o 61 (.call g3 [k (.int .u16 65535),t 60]),o 62 (.kF .i64 (t 61)),o 63 (b .neq 57 62)] (c 63 (r [o 64 (.build aY []),M 65 6,o 66 (.build [i 0,i 0] [(0,1,k (i 5)),(1,1,t 65)]),n (s 2 64 131),n (s 3 66 2)] y) z)) (j (r [M 67 4,o 68 (.nc (t 67)),o 69 (f 68 1),o 70 (l 69),M 71 0,o 72 (h 71),o 73 (b .lss 70 72)] (c 73 (.seq (.qm [o 74 (.build aY []),M 75 4,o 76 (.nc (t 75)),o 77 (f 76 1),o 78 (l 77),o 79 (.build [i 0,i 0] [(0,1,k (i 6)),(1,1,t 78)]),n (s 2 74 131),n (s 3 79 2)] [(4,6)]) y) z)) (r [o 80 (L 5 131),o 81 (.build [i 0,i 0] []),n (s 2 80 131),n (s 3 81 2)] y)))))))))))⟩
def tP(g0 g1:Nat):cR:=⟨8,[.tmp 2],r [V 2 .bM] (r [M 3 0,M 4 0,o 5 (.call g0 [k (.int .u16 65535),t 4]),o 6 (.kF .i64 (t 5)),o 7 (.call g1 [t 3,k (i 2),t 6]),M 2 7] y)⟩
def kC(g0 g1 g2 g3 g4 g5 g6 g7 g8:Nat):cR:=⟨236,[.tmp 2,.tmp 3],r [o 1 (w 0),V 2 .bM,V 3 (i 0)] (j (r [o 15 (L 1 131),o 16 (.call g0 [t 15]),o 17 (.un .not (t 16))] (c 17 (r [V 2 .bM,V 3 (i 4)] y) z)) (r [o 18 (.build [.bM] []),o 19 (w 18),M 4 19] (r [M 20 4,o 21 (.gw g1 1 [k (i 5784065)]),o 22 (.aB g2 [t 20,k (i 3),t 21])] (j (r [o 23 (f 1 0),o 24 (L 23 104),V 25 (i 0)] (u 0 (.loop (r [o 26 (bb .lss 25 (i 8))] (j (c 26 z (.exit 0)) (j (u 1 (r [o 27 (.K1 (t 24) (t 25) 8 13 (some 13)),o 6 (.alloc dN),n (s 6 27 13)] (r [M 28 4,o 29 (f 6 0),o 30 (l 29),o 31 (.gw g3 1 [t 30]),o 32 (.aB g4 [t 28,t 31])] (r [M 33 4,o 34 (f 6 1),o 35 (l 34),o 36 (f 6 2),o 37 (l 36),o 38 (f 6 3),o 39 (l 38),o 40 (f 6 4),o 41 (l 40),o 42 (f 6 5),o 43 (l 42),o 44 (f 6 6),o 45 (l 44),o 46 (f 6 7),o 47 (l 46),o 48 (f 6 8),o 49 (l 48),o 50 (f 6 9),o 51 (l 50),o 52 (.gw g1 1 [t 35,t 37,t 39,t 41,t 43,t 45,t 47,t 49,t 51]),o 53 (.aB g2 [t 33,k (i 2),t 52])] (r [M 54 4,o 55 (f 6 10),o 56 (l 55),o 57 (.gw g1 1 [t 56]),o 58 (.aB g2 [t 54,k (i 1),t 57])] (R [M 59 4,o 60 (f 6 11),o 61 (l 60),o 62 (f 6 12),o 63 (l 62),o 64 (.gw g3 1 [t 61,t 63]),o 65 (.aB g4 [t 59,t 64])])))))) (R [o 66 (bb .add 25 (i 1)),M 25 66]))))))) (r [M 67 4,o 68 (f 1 104),o 69 (l 68),o 70 (h 69),o 71 (.gw g1 1 [t 70]),o 72 (.aB g2 [t 67,k (i 1),t 71])] (j (r [o 73 (f 1 104),o 74 (l 73),o 75 (h 74),V 76 (i 0)] (u 2 (.loop (r [o 77 (b .lss 76 75)] (j (c 77 z (.exit 2)) (j (u 3 (r [o 78 (a 74 76 2),o 79 (L 78 2),o 8 (.alloc [.bM,.bM]),n (s 8 79 2)] (r [M 80 4,o 81 (.Ay (t 8) (k (i 0)) 2 1),o 82 (l 81),o 83 (.aB g5 [t 80,t 82])] (R [M 84 4,o 85 (.Ay (t 8) (k (i 1)) 2 1),o 86 (l 85),o 87 (.aB g5 [t 84,t 86])])))) (R [o 88 (bb .add 76 (i 1)),M 76 88]))))))) (r [M 89 4,o 90 (f 1 105),o 91 (.Gd (t 90) 8 1),o 92 (.aB g2 [t 89,k (i 1),t 91])] (r [M 93 4,o 94 (f 1 113),o 95 (l 94),o 96 (h 95),o 97 (.gw g1 1 [t 96]),o 98 (.aB g2 [t 93,k (i 1),t 97])] (j (r [o 99 (f 1 113),o 100 (l 99),o 101 (h 100),V 102 (i 0)] (u 4 (.loop (r [o 103 (b .lss 102 101)] (j (c 103 z (.exit 4)) (j (u 5 (r [o 104 (a 100 102 7),o 105 (L 104 7),o 10 (.alloc [i 0,.float .f64 0,.float .f64 0,.float .f64 0,.float .f64 0,i 0,i 0]),n (s 10 105 7)] (r [M 106 4,o 107 (f 10 0),o 108 (l 107),o 109 (.gw g1 1 [t 108]),o 110 (.aB g2 [t 106,k (i 1),t 109])] (r [M 111 4,o 112 (f 10 1),o 113 (l 112),o 114 (f 10 2),o 115 (l 114),o 116 (f 10 3),o 117 (l 116),o 118 (f 10 4),o 119 (l 118),o 120 (.gw g6 1 [t 113,t 115,t 117,t 119]),o 121 (.aB g7 [t 111,t 120])] (R [M 122 4,o 123 (f 10 5),o 124 (l 123),o 125 (f 10 6),o 126 (l 125),o 127 (.gw g1 1 [t 124,t 126]),o 128 (.aB g2 [t 122,k (i 2),t 127])]))))) (R [o 129 (bb .add 102 (i 1)),M 102 129]))))))) (r [M 130 4,o 131 (f 1 114),o 132 (l 131),o 133 (h 132),o 134 (.gw g1 1 [t 133]),o 135 (.aB g2 [t 130,k (i 1),t 134])] (j (r [o 136 (f 1 114),o 137 (l 136),o 138 (h 137),V 139 (i 0)] (u 6 (.loop (r [o 140 (b .lss 139 138)] (j (c 140 z (.exit 6)) (j (u 7 (r [o 141 (a 137 139 11),o 142 (L 141 11),o 12 (.alloc ei),n (s 12 142 11)] (r [M 143 4,o 144 (f 12 0),o 145 (l 144),o 146 (f 12 1),o 147 (l 146),o 148 (f 12 2),o 149 (l 148),o 150 (f 12 3),o 151 (l 150),o 152 (.gw g1 1 [t 145,t 147,t 149,t 151]),o 153 (.aB g2 [t 143,k (i 1),t 152])] (r [M 154 4,o 155 (f 12 4),o 156 (l 155),o 157 (f 12 5),o 158 (l 157),o 159 (f 12 6),o 160 (l 159),o 161 (f 12 7),o 162 (l 161),o 163 (f 12 8),o 164 (l 163),o 165 (f 12 9),o 166 (l 165),o 167 (.gw g1 1 [t 156,t 158,t 160,t 162,t 164,t 166]),o 168 (.aB g2 [t 154,k (i 2),t 167])] (R [M 169 4,o 170 (f 12 10),o 171 (l 170),o 172 (.gw g1 1 [t 171]),o 173 (.aB g2 [t 169,k (i 4),t 172])]))))) (R [o 174 (bb .add 139 (i 1)),M 139 174]))))))) (r [M 175 4,o 176 (f 1 115),o 177 (l 176),o 178 (h 177),o 179 (.gw g1 1 [t 178]),o 180 (.aB g2 [t 175,k (i 1),t 179])] (j (r [o 181 (f 1 115),o 182 (l 181),o 183 (h 182),V 184 (i 0)] (u 8 (.loop (r [o 185 (b .lss 184 183)] (j (c 185 z (.exit 8)) (j (u 9 (r [o 186 (a 182 184 2),o 187 (L 186 2),o 14 (.alloc [i 0,i 0]),n (s 14 187 2)] (r [M 188 4,o 189 (f 14 0),o 190 (l 189),o 191 (.gw g1 1 [t 190]),o 192 (.aB g2 [t 188,k (i 1),t 191])] (R [M 193 4,o 194 (f 14 1),o 195 (l 194),o 196 (.gw g1 1 [t 195]),o 197 (.aB g2 [t 193,k (i 2),t 196])])))) (R [o 198 (bb .add 184 (i 1)),M 184 198]))))))) (r [M 199 4,o 200 (f 1 116),o 201 (l 200),o 202 (f 1 117),o 203 (l 202),o 204 (f 1 118),o 205 (l 204),o 206 (f 1 119),o 207 (l 206),o 208 (f 1 120),o 209 (l 208),o 210 (.gw g1 1 [t 201,t 203,t 205,t 207,t 209]),o 211 (.aB g2 [t 199,k (i 2),t 210])] (r [M 212 4,o 213 (f 1 121),o 214 (.Gd (t 213) 8 1),o 215 (.aB g2 [t 212,k (i 1),t 214])] (r [M 216 4,o 217 (f 1 129),o 218 (l 217),o 219 (f 1 130),o 220 (l 219),o 221 (.gw g1 1 [t 218,t 220]),o 222 (.aB g2 [t 216,k (i 4),t 221])] (r [M 223 4,M 224 4,o 225 (.nc (t 224)),o 226 (f 225 0),o 227 (l 226),o 228 (.call g8 [t 227]),o 229 (.kF .i64 (t 228)),o 230 (.gw g1 1 [t 229]),o 231 (.aB g2 [t 223,k (i 2),t 230])] (r [M 232 4,o 233 (.nc (t 232)),o 234 (f 233 0),o 235 (l 234),M 2 235,V 3 (i 0)] y))))))))))))))))))⟩
def kV (e_api_Fault:Nat):G3:=⟨12,5,[
    ⟨(some 6),.NL e_api_Fault (.agg [(.int .i64 0),(.int .i64 0)]) (.t 5),none⟩,
    ⟨(some 4),.o (.mv (.t 6)),none⟩,
    ⟨(some 7),.o (.ext (.t 4) 0),none⟩,
    ⟨(some 8),.o (.ext (.t 4) 1),none⟩,
    ⟨(some 2),.o (.alloc [(.int .i64 0),(.int .i64 0)]),none⟩,
    ⟨none,.o (.st (.t 2) (.t 7) 2),none⟩,
    ⟨(some 3),.o (.mv (.t 8)),none⟩],
  .seq (.aO [
    ⟨(some 9),.o (.mv (.t 3)),none⟩])
  (.cond (.t 9) (.qm [
     ⟨(some 10),.build aY [],none⟩,
     ⟨(some 11),.ld (.t 2) (some 2),none⟩,
     ⟨none,.st (.t 0) (.t 10) 131,none⟩,
     ⟨none,.st (.t 1) (.t 11) 2,none⟩] [(1,2)])
   (.skip))⟩
def ji(f_wire_Reader_Num f_code_reading_right:Nat):cR:=⟨19,[.tmp 8],
 .seq (.aO [
  ⟨(some 4),.tc (.t 0),none⟩,
  ⟨(some 8),.o (.mv (.k (.int .i64 0))),none⟩])
 (.seq (.aO [
  ⟨(some 10),.o (.fa (.t 4) 0),none⟩,
  ⟨(some 11),.o (.jX (.t 10) none),none⟩,
  ⟨(some 12),.o (.mv (.t 1)),none⟩,
  ⟨(some 13),.o (.mv (.t 2)),none⟩,
  ⟨(some 14),.o (.mv (.t 3)),none⟩,
  ⟨(some 15),.aB f_wire_Reader_Num [(.t 11),(.t 12),(.t 13),(.t 14)],none⟩,
  ⟨(some 9),.o (.mv (.t 15)),none⟩])
 (.seq (.aO [
  ⟨(some 16),.o (.jX (.t 4) (some 1)),none⟩,
  ⟨(some 17),.aB f_code_reading_right [(.t 16)],none⟩])
 (.seq (.aO [
  ⟨(some 18),.o (.mv (.t 9)),none⟩,
  ⟨(some 8),.o (.mv (.t 18)),none⟩])
 (.ret))))⟩
def d9 (f_code_reading_phase f_code_reading_num f_code_reading_row e_2_int f_code_reading_set f_code_reading_detector e_api_Detector f_code_reading_rail e_api_Rail f_code_reading_time e_api_Bus:Nat):cR:=⟨118,[.cell 2 (some 131)],
  .seq (.aO [
    ⟨(some 1),.tc (.t 0),none⟩,
    ⟨(some 2),.o (.alloc aY),none⟩])
  (.seq (.aO [
    ⟨(some 3),.o (.alloc aY),none⟩])
  (.join (.seq (.aO [
     ⟨(some 11),.o (.mv (.k (.int .i64 0))),none⟩])
   (.block 0 (.loop (.seq (.aO [
       ⟨(some 12),.o (.bin .lss (.t 11) (.k (.int .i64 8))),none⟩])
     (.join (.cond (.t 12) (.skip)
       (.exit 0))
     (.join (.block 1 (.seq (.aO [
         ⟨(some 13),.o (.mv (.t 11)),none⟩,
         ⟨(some 4),.o (.mv (.t 13)),none⟩])
       (.aO [
         ⟨(some 14),.o (.mv (.t 4)),none⟩,
         ⟨(some 15),.o (.jX (.t 1) (some 1)),none⟩,
         ⟨(some 16),.aB f_code_reading_phase [(.t 15)],none⟩,
         ⟨(some 17),.o (.fa (.t 3) 0),none⟩,
         ⟨(some 18),.o (.Ay (.t 17) (.t 14) 8 13),none⟩,
         ⟨none,.o (.st (.t 18) (.t 16) 13),none⟩])))
     (.aO [
       ⟨(some 19),.o (.bin .add (.t 11) (.k (.int .i64 1))),none⟩,
       ⟨(some 11),.o (.mv (.t 19)),none⟩])))))))
  (.join (.seq (.aO [
     ⟨(some 20),.o (.jX (.t 1) (some 1)),none⟩,
     ⟨(some 21),.aB f_code_reading_num [(.t 20),(.k (.int .i64 1)),(.k (.int .i64 0)),(.k (.int .i64 4))],none⟩,
     ⟨(some 22),.o (.mv (.k (.int .i64 0))),none⟩])
   (.block 2 (.loop (.seq (.aO [
       ⟨(some 23),.o (.bin .lss (.t 22) (.t 21)),none⟩])
     (.join (.cond (.t 23) (.skip)
       (.exit 2))
     (.join (.block 3 (.seq (.aO [
         ⟨(some 24),.o (.jX (.t 1) (some 1)),none⟩,
         ⟨(some 25),.aB f_code_reading_row [(.t 24)],none⟩,
         ⟨(some 5),.o (.mv (.t 25)),none⟩])
       (.xH [
         ⟨(some 26),.fa (.t 3) 104,none⟩,
         ⟨(some 27),.ld (.t 26) none,none⟩,
         ⟨(some 28),.mv (.t 5),none⟩,
         ⟨(some 29),.jX (.t 1) (some 1),none⟩,
         ⟨(some 30),.aB f_code_reading_row [(.t 29)],none⟩,
         ⟨(some 31),.build [.bM,.bM] [(0,1,(.t 28)),(1,1,(.t 30))],none⟩,
         ⟨(some 32),.gw e_2_int 2 [(.t 31)],none⟩,
         ⟨(some 33),.app e_2_int 2 48 (.t 27) (.t 32),none⟩,
         ⟨(some 34),.fa (.t 3) 104,none⟩,
         ⟨none,.st (.t 34) (.t 33) 1,none⟩] [(1,4)] 4 [5,6,7,8,9])))
     (.aO [
       ⟨(some 35),.o (.bin .add (.t 22) (.k (.int .i64 1))),none⟩,
       ⟨(some 22),.o (.mv (.t 35)),none⟩])))))))
  (.join (.seq (.aO [
     ⟨(some 36),.o (.mv (.k (.int .i64 0))),none⟩])
   (.block 4 (.loop (.seq (.aO [
       ⟨(some 37),.o (.bin .lss (.t 36) (.k (.int .i64 8))),none⟩])
     (.join (.cond (.t 37) (.skip)
       (.exit 4))
     (.join (.block 5 (.seq (.aO [
         ⟨(some 38),.o (.mv (.t 36)),none⟩,
         ⟨(some 6),.o (.mv (.t 38)),none⟩])
       (.aO [
         ⟨(some 39),.o (.mv (.t 6)),none⟩,
         ⟨(some 40),.o (.jX (.t 1) (some 1)),none⟩,
         ⟨(some 41),.aB f_code_reading_set [(.t 40)],none⟩,
         ⟨(some 42),.o (.fa (.t 3) 105),none⟩,
         ⟨(some 43),.o (.Ay (.t 42) (.t 39) 8 1),none⟩,
         ⟨none,.o (.st (.t 43) (.t 41) 1),none⟩])))
     (.aO [
       ⟨(some 44),.o (.bin .add (.t 36) (.k (.int .i64 1))),none⟩,
       ⟨(some 36),.o (.mv (.t 44)),none⟩])))))))
  (.join (.seq (.aO [
     ⟨(some 45),.o (.jX (.t 1) (some 1)),none⟩,
     ⟨(some 46),.aB f_code_reading_num [(.t 45),(.k (.int .i64 1)),(.k (.int .i64 0)),(.k (.int .i64 16))],none⟩,
     ⟨(some 47),.o (.mv (.k (.int .i64 0))),none⟩])
   (.block 6 (.loop (.seq (.aO [
       ⟨(some 48),.o (.bin .lss (.t 47) (.t 46)),none⟩])
     (.join (.cond (.t 48) (.skip)
       (.exit 6))
     (.join (.block 7 (.xH [
         ⟨(some 49),.fa (.t 3) 113,none⟩,
         ⟨(some 50),.ld (.t 49) none,none⟩,
         ⟨(some 51),.jX (.t 1) (some 1),none⟩,
         ⟨(some 52),.aB f_code_reading_detector [(.t 51)],none⟩,
         ⟨(some 53),.gw e_api_Detector 7 [(.t 52)],none⟩,
         ⟨(some 54),.app e_api_Detector 7 56 (.t 50) (.t 53),none⟩,
         ⟨(some 55),.fa (.t 3) 113,none⟩,
         ⟨none,.st (.t 55) (.t 54) 1,none⟩] [(1,3)] 3 [4,5,6,7]))
     (.aO [
       ⟨(some 56),.o (.bin .add (.t 47) (.k (.int .i64 1))),none⟩,
       ⟨(some 47),.o (.mv (.t 56)),none⟩])))))))
  (.join (.seq (.aO [
     ⟨(some 57),.o (.jX (.t 1) (some 1)),none⟩,
     ⟨(some 58),.aB f_code_reading_num [(.t 57),(.k (.int .i64 1)),(.k (.int .i64 0)),(.k (.int .i64 4))],none⟩,
     ⟨(some 59),.o (.mv (.k (.int .i64 0))),none⟩])
   (.block 8 (.loop (.seq (.aO [
       ⟨(some 60),.o (.bin .lss (.t 59) (.t 58)),none⟩])
     (.join (.cond (.t 60) (.skip)
       (.exit 8))
     (.join (.block 9 (.xH [
         ⟨(some 61),.fa (.t 3) 114,none⟩,
         ⟨(some 62),.ld (.t 61) none,none⟩,
         ⟨(some 63),.jX (.t 1) (some 1),none⟩,
         ⟨(some 64),.aB f_code_reading_rail [(.t 63)],none⟩,
         ⟨(some 65),.gw e_api_Rail 11 [(.t 64)],none⟩,
         ⟨(some 66),.app e_api_Rail 11 88 (.t 62) (.t 65),none⟩,
         ⟨(some 67),.fa (.t 3) 114,none⟩,
         ⟨none,.st (.t 67) (.t 66) 1,none⟩] [(1,3)] 3 [4,5,6,7]))
     (.aO [
       ⟨(some 68),.o (.bin .add (.t 59) (.k (.int .i64 1))),none⟩,
       ⟨(some 59),.o (.mv (.t 68)),none⟩])))))))
  (.join (.seq (.aO [
     ⟨(some 69),.o (.jX (.t 1) (some 1)),none⟩,
     ⟨(some 70),.aB f_code_reading_num [(.t 69),(.k (.int .i64 1)),(.k (.int .i64 0)),(.k (.int .i64 4))],none⟩,
     ⟨(some 71),.o (.mv (.k (.int .i64 0))),none⟩])
   (.block 10 (.loop (.seq (.aO [
       ⟨(some 72),.o (.bin .lss (.t 71) (.t 70)),none⟩])
     (.join (.cond (.t 72) (.skip)
       (.exit 10))
     (.join (.block 11 (.seq (.aO [
         ⟨(some 73),.o (.jX (.t 1) (some 1)),none⟩,
         ⟨(some 74),.aB f_code_reading_set [(.t 73)],none⟩,
         ⟨(some 75),.o (.build [(.int .i64 0),(.int .i64 0)] [(0,1,(.t 74))]),none⟩,
         ⟨(some 7),.o (.alloc [(.int .i64 0),(.int .i64 0)]),none⟩,
         ⟨none,.o (.st (.t 7) (.t 75) 2),none⟩])
       (.seq (.aO [
         ⟨(some 76),.o (.jX (.t 1) (some 1)),none⟩,
         ⟨(some 77),.aB f_code_reading_time [(.t 76)],none⟩,
         ⟨(some 78),.o (.fa (.t 7) 1),none⟩,
         ⟨none,.o (.st (.t 78) (.t 77) 1),none⟩])
       (.aO [
         ⟨(some 79),.o (.fa (.t 3) 115),none⟩,
         ⟨(some 80),.o (.ld (.t 79) none),none⟩,
         ⟨(some 81),.o (.ld (.t 7) (some 2)),none⟩,
         ⟨(some 82),.o (.gw e_api_Bus 2 [(.t 81)]),none⟩,
         ⟨(some 83),.o (.app e_api_Bus 2 16 (.t 80) (.t 82)),none⟩,
         ⟨(some 84),.o (.fa (.t 3) 115),none⟩,
         ⟨none,.o (.st (.t 84) (.t 83) 1),none⟩]))))
     (.aO [
       ⟨(some 85),.o (.bin .add (.t 71) (.k (.int .i64 1))),none⟩,
       ⟨(some 71),.o (.mv (.t 85)),none⟩])))))))
  (.join (.seq (.aO [
     ⟨(some 86),.o (.fa (.t 3) 116),none⟩,
     ⟨(some 87),.o (.fa (.t 3) 117),none⟩,
     ⟨(some 88),.o (.fa (.t 3) 118),none⟩,
     ⟨(some 89),.o (.fa (.t 3) 119),none⟩,
     ⟨(some 90),.o (.fa (.t 3) 120),none⟩,
     ⟨(some 91),.Bq [(.t 86),(.t 87),(.t 88),(.t 89),(.t 90)],none⟩,
     ⟨(some 92),.K4 (.t 91),none⟩,
     ⟨(some 93),.o (.mv (.k (.int .i64 0))),none⟩])
   (.block 12 (.loop (.seq (.aO [
       ⟨(some 94),.o (.bin .lss (.t 93) (.t 92)),none⟩])
     (.join (.cond (.t 94) (.skip)
       (.exit 12))
     (.join (.block 13 (.seq (.aO [
         ⟨(some 95),.K3 (.t 91) (.t 93),none⟩,
         ⟨(some 96),.o (.jX (.t 95) none),none⟩,
         ⟨(some 9),.o (.mv (.t 96)),none⟩])
       (.aO [
         ⟨(some 97),.o (.mv (.t 9)),none⟩,
         ⟨(some 98),.o (.jX (.t 1) (some 1)),none⟩,
         ⟨(some 99),.aB f_code_reading_time [(.t 98)],none⟩,
         ⟨(some 100),.o (.nc (.t 97)),none⟩,
         ⟨none,.o (.st (.t 100) (.t 99) 1),none⟩])))
     (.aO [
       ⟨(some 101),.o (.bin .add (.t 93) (.k (.int .i64 1))),none⟩,
       ⟨(some 93),.o (.mv (.t 101)),none⟩])))))))
  (.join (.seq (.aO [
     ⟨(some 102),.o (.mv (.k (.int .i64 0))),none⟩])
   (.block 14 (.loop (.seq (.aO [
       ⟨(some 103),.o (.bin .lss (.t 102) (.k (.int .i64 8))),none⟩])
     (.join (.cond (.t 103) (.skip)
       (.exit 14))
     (.join (.block 15 (.seq (.aO [
         ⟨(some 104),.o (.mv (.t 102)),none⟩,
         ⟨(some 10),.o (.mv (.t 104)),none⟩])
       (.aO [
         ⟨(some 105),.o (.mv (.t 10)),none⟩,
         ⟨(some 106),.o (.jX (.t 1) (some 1)),none⟩,
         ⟨(some 107),.aB f_code_reading_num [(.t 106),(.k (.int .i64 1)),(.k (.int .i64 0)),(.k (.int .i64 2))],none⟩,
         ⟨(some 108),.o (.fa (.t 3) 121),none⟩,
         ⟨(some 109),.o (.Ay (.t 108) (.t 105) 8 1),none⟩,
         ⟨none,.o (.st (.t 109) (.t 107) 1),none⟩])))
     (.aO [
       ⟨(some 110),.o (.bin .add (.t 102) (.k (.int .i64 1))),none⟩,
       ⟨(some 102),.o (.mv (.t 110)),none⟩])))))))
  (.seq (.aO [
    ⟨(some 111),.o (.jX (.t 1) (some 1)),none⟩,
    ⟨(some 112),.aB f_code_reading_num [(.t 111),(.k (.int .i64 4)),(.k (.int .i64 0)),(.k (.int .i64 2147483647))],none⟩,
    ⟨(some 113),.o (.fa (.t 3) 129),none⟩,
    ⟨none,.o (.st (.t 113) (.t 112) 1),none⟩])
  (.seq (.aO [
    ⟨(some 114),.o (.jX (.t 1) (some 1)),none⟩,
    ⟨(some 115),.aB f_code_reading_num [(.t 114),(.k (.int .i64 4)),(.k (.int .i64 0)),(.k (.int .i64 2147483647))],none⟩,
    ⟨(some 116),.o (.fa (.t 3) 130),none⟩,
    ⟨none,.o (.st (.t 116) (.t 115) 1),none⟩])
  (.seq (.aO [
    ⟨(some 117),.o (.ld (.t 3) (some 131)),none⟩,
    ⟨none,.o (.st (.t 2) (.t 117) 131),none⟩])
  (.ret)))))))))))))⟩
def Bb(g0:Nat):cR:=⟨5,[.tmp 2],r [V 2 (.int .u16 0)] (r [M 3 0,o 4 (.call g0 [k (.int .u16 65535),t 3]),M 2 4] y)⟩
def ic(g0 g1 g2 g3 g4 g5 g6 g7 g8 g9:Nat):cR:=⟨130,[.cell 2 (some 131)],r [o 2 (.alloc aY)] (r [o 3 (.alloc aY)] (j (r [V 4 (i 0)] (u 0 (.loop (j (r [M 15 4,o 16 (bb .lss 15 (i 8))] (c 16 z (.exit 0))) (j (u 1 (R [M 19 4,M 20 0,o 21 (.aB g0 [t 20]),o 22 (f 3 0),o 23 (A 22 19 8 13),n (s 23 21 13)])) (R [M 17 4,o 18 (bb .add 17 (i 1)),M 4 18])))))) (r [M 24 0,o 25 (.aB g1 [t 24,k (i 1),k (i 0),k (i 4)]),M 5 25] (j (r [V 6 (i 0)] (u 2 (.loop (j (r [M 26 6,M 27 5,o 28 (b .lss 26 27)] (c 28 z (.exit 2))) (j (u 3 (r [M 31 0,o 32 (.aB g2 [t 31]),M 7 32] (r [M 33 0,o 34 (.aB g2 [t 33]),M 8 34] (R [o 35 (f 3 104),o 36 (l 35),M 37 7,M 38 8,o 39 (.build [.bM,.bM] [(0,1,t 37),(1,1,t 38)]),o 40 (.gw g3 2 [t 39]),o 41 (.app g3 2 48 (t 36) (t 40)),o 42 (f 3 104),n (s 42 41 1)])))) (R [M 29 6,o 30 (bb .add 29 (i 1)),M 6 30])))))) (j (r [V 9 (i 0)] (u 4 (.loop (j (r [M 43 9,o 44 (bb .lss 43 (i 8))] (c 44 z (.exit 4))) (j (u 5 (R [M 47 9,M 48 0,o 49 (.aB g1 [t 48,k (i 1),k (i 0),k (i 255)]),o 50 (f 3 105),o 51 (A 50 47 8 1),n (s 51 49 1)])) (R [M 45 9,o 46 (bb .add 45 (i 1)),M 9 46])))))) (r [M 52 0,o 53 (.aB g1 [t 52,k (i 1),k (i 0),k (i 16)]),M 5 53] (j (r [V 10 (i 0)] (u 6 (.loop (j (r [M 54 10,M 55 5,o 56 (b .lss 54 55)] (c 56 z (.exit 6))) (j (u 7 (.qm [o 59 (f 3 113),o 60 (l 59),M 61 0,o 62 (.aB g4 [t 61]),o 63 (.gw g5 7 [t 62]),o 64 (.app g5 7 56 (t 60) (t 63)),o 65 (f 3 113),n (s 65 64 1)] [(1,3)])) (R [M 57 10,o 58 (bb .add 57 (i 1)),M 10 58])))))) (r [M 66 0,o 67 (.aB g1 [t 66,k (i 1),k (i 0),k (i 4)]),M 5 67] (j (r [V 11 (i 0)] (u 8 (.loop (j (r [M 68 11,M 69 5,o 70 (b .lss 68 69)] (c 70 z (.exit 8))) (j (u 9 (.qm [o 73 (f 3 114),o 74 (l 73),M 75 0,o 76 (.aB g6 [t 75]),o 77 (.gw g7 11 [t 76]),o 78 (.app g7 11 88 (t 74) (t 77)),o 79 (f 3 114),n (s 79 78 1)] [(1,3)])) (R [M 71 11,o 72 (bb .add 71 (i 1)),M 11 72])))))) (r [M 80 0,o 81 (.aB g1 [t 80,k (i 1),k (i 0),k (i 4)]),M 5 81] (j (r [V 12 (i 0)] (u 10 (.loop (j (r [M 82 12,M 83 5,o 84 (b .lss 82 83)] (c 84 z (.exit 10))) (j (u 11 (r [o 13 (.alloc [i 0,i 0])] (r [M 87 0,o 88 (.aB g1 [t 87,k (i 1),k (i 0),k (i 255)]),o 89 (f 13 0),n (s 89 88 1)] (r [M 90 0,o 91 (.aB g8 [t 90]),o 92 (f 13 1),n (s 92 91 1)] (R [o 93 (f 3 115),o 94 (l 93),o 95 (L 13 2),o 96 (.gw g9 2 [t 95]),o 97 (.app g9 2 16 (t 94) (t 96)),o 98 (f 3 115),n (s 98 97 1)]))))) (R [M 85 12,o 86 (bb .add 85 (i 1)),M 12 86])))))) (r [M 99 0,o 100 (.aB g8 [t 99]),o 101 (f 3 116),n (s 101 100 1)] (r [M 102 0,o 103 (.aB g8 [t 102]),o 104 (f 3 117),n (s 104 103 1)] (r [M 105 0,o 106 (.aB g8 [t 105]),o 107 (f 3 118),n (s 107 106 1)] (r [M 108 0,o 109 (.aB g8 [t 108]),o 110 (f 3 119),n (s 110 109 1)] (r [M 111 0,o 112 (.aB g8 [t 111]),o 113 (f 3 120),n (s 113 112 1)] (j (r [V 14 (i 0)] (u 12 (.loop (j (r [M 114 14,o 115 (bb .lss 114 (i 8))] (c 115 z (.exit 12))) (j (u 13 (R [M 118 14,M 119 0,o 120 (.aB g1 [t 119,k (i 1),k (i 0),k (i 2)]),o 121 (f 3 121),o 122 (A 121 118 8 1),n (s 122 120 1)])) (R [M 116 14,o 117 (bb .add 116 (i 1)),M 14 117])))))) (r [M 123 0,o 124 (.aB g1 [t 123,k (i 4),k (i 0),k (i 2147483647)]),o 125 (f 3 129),n (s 125 124 1)] (r [M 126 0,o 127 (.aB g1 [t 126,k (i 4),k (i 0),k (i 2147483647)]),o 128 (f 3 130),n (s 128 127 1)] (r [o 129 (L 3 131),n (s 2 129 131)] y))))))))))))))))))))⟩
def vE:cR:=⟨36,[.tmp 4],r [V 4 (.int .u16 0)] (j (r [V 5 (i 0)] (u 0 (.loop (j (r [M 8 5,M 9 1,o 10 (h 9),o 11 (b .lss 8 10)] (c 11 z (.exit 0))) (j (u 1 (r [V 6 (i 7)] (u 2 (.loop (j (r [M 14 6,o 15 (bb .geq 14 (i 0))] (c 15 z (.exit 2))) (j (u 3 (r [M 18 0,o 19 (bb .shr 18 (.int .u64 15)),M 20 1,M 21 5,o 22 (a 20 21 1),o 23 (l 22),M 24 6,o 25 (.kF .u64 (t 24)),o 26 (b .shr 23 25),o 27 (bb .and 26 (.int .u8 1)),o 28 (.kF .u16 (t 27)),o 29 (b .neq 19 28),M 7 29] (r [M 30 0,o 31 (bb .shl 30 (.int .u64 1)),M 0 31] (r [M 32 7] (c 32 (R [M 33 0,o 34 (bb .xor 33 (.int .u16 4129)),M 0 34]) z))))) (R [M 16 6,o 17 (bb .sub 16 (i 1)),M 6 17]))))))) (R [M 12 5,o 13 (bb .add 12 (i 1)),M 5 13])))))) (r [M 35 0,M 4 35] y))⟩
def mg(g0:Nat):cR:=⟨25,[],r [M 8 2,o 9 (h 8),V 10 (i 0)] (u 0 (.loop (r [o 11 (b .lss 10 9)] (j (c 11 z (.exit 0)) (j (u 1 (r [o 12 (a 8 10 1),o 13 (l 12),M 7 13] (R [M 14 0,M 15 0,o 16 (.nc (t 15)),o 17 (f 16 0),o 18 (l 17),M 19 1,M 20 7,o 21 (.call g0 [t 18,t 19,t 20]),o 22 (.nc (t 14)),o 23 (f 22 0),n (s 23 21 1)]))) (R [o 24 (bb .add 10 (i 1)),M 10 24]))))))⟩
def jO(g0 g1:Nat):cR:=⟨19,[],r [M 7 1,o 8 (h 7),V 9 (i 0)] (u 0 (.loop (r [o 10 (b .lss 9 8)] (j (c 10 z (.exit 0)) (j (u 1 (r [o 11 (a 7 9 1),o 12 (l 11),M 5 12] (r [V 6 (i 0)] (j (r [M 13 5] (c 13 (R [V 6 (i 1)]) z)) (R [M 14 0,M 15 6,o 16 (.gw g0 1 [t 15]),o 17 (.aB g1 [t 14,k (i 1),t 16])]))))) (R [o 18 (bb .add 9 (i 1)),M 9 18]))))))⟩
def jP(g0 g1:Nat):cR:=⟨12,[],r [M 4 0,M 5 1,o 6 (h 5),o 7 (.gw g0 1 [t 6]),o 8 (.aB g1 [t 4,k (i 1),t 7])] (R [M 9 0,M 10 1,o 11 (.aB g1 [t 9,k (i 1),t 10])])⟩
def kI(g0:Nat):cR:=⟨22,[],r [M 6 1,o 7 (h 6),V 8 (i 0)] (u 0 (.loop (r [o 9 (b .lss 8 7)] (j (c 9 z (.exit 0)) (j (u 1 (r [o 10 (a 6 8 1),o 11 (l 10),M 5 11] (R [M 12 0,M 13 0,o 14 (.nc (t 13)),o 15 (f 14 0),o 16 (l 15),M 17 5,o 18 (.call g0 [t 16,t 17]),o 19 (.nc (t 12)),o 20 (f 19 0),n (s 20 18 1)]))) (R [o 21 (bb .add 8 (i 1)),M 8 21]))))))⟩
def ie (f_wire_Reader_Fault e_api_Fault:Nat):cR:=⟨11,[],
  .seq (.aO [
    ⟨(some 1),.tc (.t 0),none⟩])
  (.seq (.aO [
    ⟨(some 3),.o (.fa (.t 1) 0),none⟩,
    ⟨(some 4),.o (.jX (.t 3) none),none⟩,
    ⟨(some 5),.aB f_wire_Reader_Fault [(.t 4)],none⟩,
    ⟨(some 2),.o (.alloc [(.int .i64 0),(.int .i64 0)]),none⟩,
    ⟨none,.o (.st (.t 2) (.t 5) 2),none⟩])
  (.seq (.aO [
    ⟨(some 6),.o (.fa (.t 2) 0),none⟩,
    ⟨(some 7),.o (.ld (.t 6) none),none⟩,
    ⟨(some 8),.o (.bin .neq (.t 7) (.k (.int .i64 0))),none⟩])
  (.cond (.t 8) (.aO [
     ⟨(some 9),.o (.ld (.t 2) (some 2)),none⟩,
     ⟨(some 10),.Hy e_api_Fault (.t 9),none⟩,
     ⟨none,.Hx (.t 10),none⟩])
   (.skip))))⟩
def ig (f_code_reading_yes f_code_reading_time f_code_reading_num:Nat):cR:=⟨39,[.cell 2 (some 13)],
  .seq (.aO [
    ⟨(some 1),.tc (.t 0),none⟩,
    ⟨(some 2),.o (.alloc dN),none⟩])
  (.seq (.aO [
    ⟨(some 6),.o (.jX (.t 1) (some 1)),none⟩,
    ⟨(some 7),.aB f_code_reading_yes [(.t 6)],none⟩,
    ⟨(some 8),.o (.build dN [(0,1,(.t 7))]),none⟩,
    ⟨(some 3),.o (.alloc dN),none⟩,
    ⟨none,.o (.st (.t 3) (.t 8) 13),none⟩])
  (.join (.seq (.aO [
     ⟨(some 9),.o (.fa (.t 3) 1),none⟩,
     ⟨(some 10),.o (.fa (.t 3) 2),none⟩,
     ⟨(some 11),.o (.fa (.t 3) 3),none⟩,
     ⟨(some 12),.o (.fa (.t 3) 4),none⟩,
     ⟨(some 13),.o (.fa (.t 3) 5),none⟩,
     ⟨(some 14),.o (.fa (.t 3) 6),none⟩,
     ⟨(some 15),.o (.fa (.t 3) 7),none⟩,
     ⟨(some 16),.o (.fa (.t 3) 8),none⟩,
     ⟨(some 17),.o (.fa (.t 3) 9),none⟩,
     ⟨(some 18),.Bq [(.t 9),(.t 10),(.t 11),(.t 12),(.t 13),(.t 14),(.t 15),(.t 16),(.t 17)],none⟩,
     ⟨(some 19),.K4 (.t 18),none⟩,
     ⟨(some 20),.o (.mv (.k (.int .i64 0))),none⟩])
   (.block 0 (.loop (.seq (.aO [
       ⟨(some 21),.o (.bin .lss (.t 20) (.t 19)),none⟩])
     (.join (.cond (.t 21) (.skip)
       (.exit 0))
     (.join (.block 1 (.seq (.aO [
         ⟨(some 22),.K3 (.t 18) (.t 20),none⟩,
         ⟨(some 23),.o (.jX (.t 22) none),none⟩,
         ⟨(some 5),.o (.mv (.t 23)),none⟩])
       (.aO [
         ⟨(some 24),.o (.mv (.t 5)),none⟩,
         ⟨(some 25),.o (.jX (.t 1) (some 1)),none⟩,
         ⟨(some 26),.aB f_code_reading_time [(.t 25)],none⟩,
         ⟨(some 27),.o (.nc (.t 24)),none⟩,
         ⟨none,.o (.st (.t 27) (.t 26) 1),none⟩])))
     (.aO [
       ⟨(some 28),.o (.bin .add (.t 20) (.k (.int .i64 1))),none⟩,
       ⟨(some 20),.o (.mv (.t 28)),none⟩])))))))
  (.seq (.aO [
    ⟨(some 29),.o (.jX (.t 1) (some 1)),none⟩,
    ⟨(some 30),.aB f_code_reading_num [(.t 29),(.k (.int .i64 1)),(.k (.int .i64 0)),(.k (.int .i64 3))],none⟩,
    ⟨(some 31),.o (.fa (.t 3) 10),none⟩,
    ⟨none,.o (.st (.t 31) (.t 30) 1),none⟩])
  (.seq (.aO [
    ⟨(some 32),.o (.jX (.t 1) (some 1)),none⟩,
    ⟨(some 33),.aB f_code_reading_yes [(.t 32)],none⟩,
    ⟨(some 34),.o (.fa (.t 3) 11),none⟩,
    ⟨none,.o (.st (.t 34) (.t 33) 1),none⟩])
  (.seq (.aO [
    ⟨(some 35),.o (.jX (.t 1) (some 1)),none⟩,
    ⟨(some 36),.aB f_code_reading_yes [(.t 35)],none⟩,
    ⟨(some 37),.o (.fa (.t 3) 12),none⟩,
    ⟨none,.o (.st (.t 37) (.t 36) 1),none⟩])
  (.seq (.aO [
    ⟨(some 38),.o (.ld (.t 3) (some 13)),none⟩,
    ⟨none,.o (.st (.t 2) (.t 38) 13),none⟩])
  (.ret)))))))⟩
def dO (f_code_reading_num e_int:Nat):cR:=⟨15,[.tmp 2],
  .seq (.aO [
    ⟨(some 1),.tc (.t 0),none⟩,
    ⟨(some 2),.o (.mv (.k .bM)),none⟩])
  (.seq (.aO [
    ⟨(some 3),.o (.mv (.k .bM)),none⟩])
  (.join (.seq (.aO [
     ⟨(some 4),.o (.jX (.t 1) (some 1)),none⟩,
     ⟨(some 5),.aB f_code_reading_num [(.t 4),(.k (.int .i64 1)),(.k (.int .i64 0)),(.k (.int .i64 8))],none⟩,
     ⟨(some 6),.o (.mv (.k (.int .i64 0))),none⟩])
   (.block 0 (.loop (.seq (.aO [
       ⟨(some 7),.o (.bin .lss (.t 6) (.t 5)),none⟩])
     (.join (.cond (.t 7) (.skip)
       (.exit 0))
     (.join (.block 1 (.aO [
         ⟨(some 8),.o (.mv (.t 3)),none⟩,
         ⟨(some 9),.o (.jX (.t 1) (some 1)),none⟩,
         ⟨(some 10),.aB f_code_reading_num [(.t 9),(.k (.int .i64 1)),(.k (.int .i64 0)),(.k (.int .i64 7))],none⟩,
         ⟨(some 11),.o (.gw e_int 1 [(.t 10)]),none⟩,
         ⟨(some 12),.o (.app e_int 1 8 (.t 8) (.t 11)),none⟩,
         ⟨(some 3),.o (.mv (.t 12)),none⟩]))
     (.aO [
       ⟨(some 13),.o (.bin .add (.t 6) (.k (.int .i64 1))),none⟩,
       ⟨(some 6),.o (.mv (.t 13)),none⟩])))))))
  (.seq (.aO [
    ⟨(some 14),.o (.mv (.t 3)),none⟩,
    ⟨(some 2),.o (.mv (.t 14)),none⟩])
  (.ret))))⟩
def jj(f_code_reading_num:Nat):cR:=⟨5,[.tmp 2],
 .seq (.aO [
  ⟨(some 1),.tc (.t 0),none⟩,
  ⟨(some 2),.o (.mv (.k (.int .i64 0))),none⟩])
 (.seq (.aO [
  ⟨(some 3),.o (.jX (.t 1) (some 1)),none⟩,
  ⟨(some 4),.aB f_code_reading_num [(.t 3),(.k (.int .i64 1)),(.k (.int .i64 0)),(.k (.int .i64 255))],none⟩,
  ⟨(some 2),.o (.mv (.t 4)),none⟩])
 (.ret))⟩
def gq(f_code_reading_num f_code_reading_float f_code_reading_detector_1 f_code_reading_detector_2 f_code_reading_detector_3 f_code_reading_detector_4 f_code_reading_time:Nat):cR:=⟨26,[.cell 2 (some 7)],
 .seq (.aO [
  ⟨(some 1),.tc (.t 0),none⟩,
  ⟨(some 2),.o (.alloc [(.int .i64 0),(.float .f64 0),(.float .f64 0),(.float .f64 0),(.float .f64 0),(.int .i64 0),(.int .i64 0)]),none⟩])
 (.seq (.aO [
  ⟨(some 4),.o (.jX (.t 1) (some 1)),none⟩,
  ⟨(some 5),.aB f_code_reading_num [(.t 4),(.k (.int .i64 1)),(.k (.int .i64 0)),(.k (.int .i64 7))],none⟩,
  ⟨(some 6),.o (.build [(.int .i64 0),(.float .f64 0),(.float .f64 0),(.float .f64 0),(.float .f64 0),(.int .i64 0),(.int .i64 0)] [(0,1,(.t 5))]),none⟩,
  ⟨(some 3),.o (.alloc [(.int .i64 0),(.float .f64 0),(.float .f64 0),(.float .f64 0),(.float .f64 0),(.int .i64 0),(.int .i64 0)]),none⟩,
  ⟨none,.o (.st (.t 3) (.t 6) 7),none⟩])
 (.seq (.aO [
  ⟨(some 7),.o (.jX (.t 1) (some 1)),none⟩,
  ⟨(some 8),.aB f_code_reading_float [(.t 7),(.k (.fn (.func f_code_reading_detector_1) [] []))],none⟩,
  ⟨(some 9),.o (.fa (.t 3) 1),none⟩,
  ⟨none,.o (.st (.t 9) (.t 8) 1),none⟩])
 (.seq (.aO [
  ⟨(some 10),.o (.jX (.t 1) (some 1)),none⟩,
  ⟨(some 11),.aB f_code_reading_float [(.t 10),(.k (.fn (.func f_code_reading_detector_2) [] []))],none⟩,
  ⟨(some 12),.o (.fa (.t 3) 2),none⟩,
  ⟨none,.o (.st (.t 12) (.t 11) 1),none⟩])
 (.seq (.aO [
  ⟨(some 13),.o (.jX (.t 1) (some 1)),none⟩,
  ⟨(some 14),.aB f_code_reading_float [(.t 13),(.k (.fn (.func f_code_reading_detector_3) [] []))],none⟩,
  ⟨(some 15),.o (.fa (.t 3) 3),none⟩,
  ⟨none,.o (.st (.t 15) (.t 14) 1),none⟩])
 (.seq (.aO [
  ⟨(some 16),.o (.jX (.t 1) (some 1)),none⟩,
  ⟨(some 17),.aB f_code_reading_float [(.t 16),(.k (.fn (.func f_code_reading_detector_4) [] []))],none⟩,
  ⟨(some 18),.o (.fa (.t 3) 4),none⟩,
  ⟨none,.o (.st (.t 18) (.t 17) 1),none⟩])
 (.seq (.aO [
  ⟨(some 19),.o (.jX (.t 1) (some 1)),none⟩,
  ⟨(some 20),.aB f_code_reading_time [(.t 19)],none⟩,
  ⟨(some 21),.o (.fa (.t 3) 5),none⟩,
  ⟨none,.o (.st (.t 21) (.t 20) 1),none⟩])
 (.seq (.aO [
  ⟨(some 22),.o (.jX (.t 1) (some 1)),none⟩,
  ⟨(some 23),.aB f_code_reading_time [(.t 22)],none⟩,
  ⟨(some 24),.o (.fa (.t 3) 6),none⟩,
  ⟨none,.o (.st (.t 24) (.t 23) 1),none⟩])
 (.seq (.aO [
  ⟨(some 25),.o (.ld (.t 3) (some 7)),none⟩,
  ⟨none,.o (.st (.t 2) (.t 25) 7),none⟩])
 (.ret)))))))))⟩
def iS (f_code_reading_set f_code_reading_time f_code_reading_num:Nat):cR:=⟨44,[.cell 2 (some 11)],
  .seq (.aO [
    ⟨(some 1),.tc (.t 0),none⟩,
    ⟨(some 2),.o (.alloc ei),none⟩])
  (.seq (.aO [
    ⟨(some 3),.o (.alloc ei),none⟩])
  (.join (.seq (.aO [
     ⟨(some 8),.o (.fa (.t 3) 0),none⟩,
     ⟨(some 9),.o (.fa (.t 3) 1),none⟩,
     ⟨(some 10),.o (.fa (.t 3) 2),none⟩,
     ⟨(some 11),.o (.fa (.t 3) 3),none⟩,
     ⟨(some 12),.Bq [(.t 8),(.t 9),(.t 10),(.t 11)],none⟩,
     ⟨(some 13),.K4 (.t 12),none⟩,
     ⟨(some 14),.o (.mv (.k (.int .i64 0))),none⟩])
   (.block 0 (.loop (.seq (.aO [
       ⟨(some 15),.o (.bin .lss (.t 14) (.t 13)),none⟩])
     (.join (.cond (.t 15) (.skip)
       (.exit 0))
     (.join (.block 1 (.seq (.aO [
         ⟨(some 16),.K3 (.t 12) (.t 14),none⟩,
         ⟨(some 17),.o (.jX (.t 16) none),none⟩,
         ⟨(some 5),.o (.mv (.t 17)),none⟩])
       (.aO [
         ⟨(some 18),.o (.mv (.t 5)),none⟩,
         ⟨(some 19),.o (.jX (.t 1) (some 1)),none⟩,
         ⟨(some 20),.aB f_code_reading_set [(.t 19)],none⟩,
         ⟨(some 21),.o (.nc (.t 18)),none⟩,
         ⟨none,.o (.st (.t 21) (.t 20) 1),none⟩])))
     (.aO [
       ⟨(some 22),.o (.bin .add (.t 14) (.k (.int .i64 1))),none⟩,
       ⟨(some 14),.o (.mv (.t 22)),none⟩])))))))
  (.join (.seq (.aO [
     ⟨(some 23),.o (.fa (.t 3) 4),none⟩,
     ⟨(some 24),.o (.fa (.t 3) 5),none⟩,
     ⟨(some 25),.o (.fa (.t 3) 6),none⟩,
     ⟨(some 26),.o (.fa (.t 3) 7),none⟩,
     ⟨(some 27),.o (.fa (.t 3) 8),none⟩,
     ⟨(some 28),.o (.fa (.t 3) 9),none⟩,
     ⟨(some 29),.Bq [(.t 23),(.t 24),(.t 25),(.t 26),(.t 27),(.t 28)],none⟩,
     ⟨(some 30),.K4 (.t 29),none⟩,
     ⟨(some 31),.o (.mv (.k (.int .i64 0))),none⟩])
   (.block 2 (.loop (.seq (.aO [
       ⟨(some 32),.o (.bin .lss (.t 31) (.t 30)),none⟩])
     (.join (.cond (.t 32) (.skip)
       (.exit 2))
     (.join (.block 3 (.seq (.aO [
         ⟨(some 33),.K3 (.t 29) (.t 31),none⟩,
         ⟨(some 34),.o (.jX (.t 33) none),none⟩,
         ⟨(some 7),.o (.mv (.t 34)),none⟩])
       (.aO [
         ⟨(some 35),.o (.mv (.t 7)),none⟩,
         ⟨(some 36),.o (.jX (.t 1) (some 1)),none⟩,
         ⟨(some 37),.aB f_code_reading_time [(.t 36)],none⟩,
         ⟨(some 38),.o (.nc (.t 35)),none⟩,
         ⟨none,.o (.st (.t 38) (.t 37) 1),none⟩])))
     (.aO [
       ⟨(some 39),.o (.bin .add (.t 31) (.k (.int .i64 1))),none⟩,
       ⟨(some 31),.o (.mv (.t 39)),none⟩])))))))
  (.seq (.aO [
    ⟨(some 40),.o (.jX (.t 1) (some 1)),none⟩,
    ⟨(some 41),.aB f_code_reading_num [(.t 40),(.k (.int .i64 4)),(.k (.int .i64 0)),(.k (.int .i64 2147483647))],none⟩,
    ⟨(some 42),.o (.fa (.t 3) 10),none⟩,
    ⟨none,.o (.st (.t 42) (.t 41) 1),none⟩])
  (.seq (.aO [
    ⟨(some 43),.o (.ld (.t 3) (some 11)),none⟩,
    ⟨none,.o (.st (.t 2) (.t 43) 11),none⟩])
  (.ret))))))⟩
def iT(f_code_reading_num:Nat):cR:=⟨5,[.tmp 2],
 .seq (.aO [
  ⟨(some 1),.tc (.t 0),none⟩,
  ⟨(some 2),.o (.mv (.k (.int .i64 0))),none⟩])
 (.seq (.aO [
  ⟨(some 3),.o (.jX (.t 1) (some 1)),none⟩,
  ⟨(some 4),.aB f_code_reading_num [(.t 3),(.k (.int .i64 2)),(.k (.int .i64 0)),(.k (.int .i64 9999))],none⟩,
  ⟨(some 2),.o (.mv (.t 4)),none⟩])
 (.ret))⟩
def zU(g0:Nat):cR:=⟨36,[.tmp 4],r [V 4 (.int .u16 0)] (r [o 8 (.call g0 []),o 5 (.alloc mL),n (s 5 8 16)] (j (r [M 9 1,o 10 (h 9),V 11 (i 0)] (u 0 (.loop (r [o 12 (b .lss 11 10)] (j (c 12 z (.exit 0)) (j (u 1 (r [o 13 (a 9 11 1),o 14 (l 13),M 7 14] (r [M 15 0,M 16 7,o 17 (.kF .u16 (t 16)),o 18 (bb .shl 17 (.int .u64 8)),o 19 (b .xor 15 18),M 0 19] (r [M 20 0,o 21 (bb .shl 20 (.int .u64 4)),M 22 0,o 23 (bb .shr 22 (.int .u64 12)),o 24 (A 5 23 16 1),o 25 (l 24),o 26 (b .xor 21 25),M 0 26] (R [M 27 0,o 28 (bb .shl 27 (.int .u64 4)),M 29 0,o 30 (bb .shr 29 (.int .u64 12)),o 31 (A 5 30 16 1),o 32 (l 31),o 33 (b .xor 28 32),M 0 33]))))) (R [o 34 (bb .add 11 (i 1)),M 11 34]))))))) (r [M 35 0,M 4 35] y)))⟩
def kJ(g0 g1 g2:Nat):cR:=⟨44,[.cell 2 (some 13)],r [o 2 (.alloc dN)] (r [o 3 (.alloc dN)] (r [M 4 0,o 5 (.aB g0 [t 4]),o 6 (f 3 0),n (s 6 5 1)] (r [M 7 0,o 8 (.aB g1 [t 7]),o 9 (f 3 1),n (s 9 8 1)] (r [M 10 0,o 11 (.aB g1 [t 10]),o 12 (f 3 2),n (s 12 11 1)] (r [M 13 0,o 14 (.aB g1 [t 13]),o 15 (f 3 3),n (s 15 14 1)] (r [M 16 0,o 17 (.aB g1 [t 16]),o 18 (f 3 4),n (s 18 17 1)] (r [M 19 0,o 20 (.aB g1 [t 19]),o 21 (f 3 5),n (s 21 20 1)] (r [M 22 0,o 23 (.aB g1 [t 22]),o 24 (f 3 6),n (s 24 23 1)] (r [M 25 0,o 26 (.aB g1 [t 25]),o 27 (f 3 7),n (s 27 26 1)] (r [M 28 0,o 29 (.aB g1 [t 28]),o 30 (f 3 8),n (s 30 29 1)] (r [M 31 0,o 32 (.aB g1 [t 31]),o 33 (f 3 9),n (s 33 32 1)] (r [M 34 0,o 35 (.aB g2 [t 34,k (i 1),k (i 0),k (i 3)]),o 36 (f 3 10),n (s 36 35 1)] (r [M 37 0,o 38 (.aB g0 [t 37]),o 39 (f 3 11),n (s 39 38 1)] (r [M 40 0,o 41 (.aB g0 [t 40]),o 42 (f 3 12),n (s 42 41 1)] (r [o 43 (L 3 13),n (s 2 43 13)] y)))))))))))))))⟩
def jk(g0 g1:Nat):cR:=⟨19,[.tmp 2],r [V 2 .bM] (r [V 3 .bM] (r [M 6 0,o 7 (.aB g0 [t 6,k (i 1),k (i 0),k (i 8)]),M 4 7] (j (r [V 5 (i 0)] (u 0 (.loop (j (r [M 8 5,M 9 4,o 10 (b .lss 8 9)] (c 10 z (.exit 0))) (j (u 1 (R [M 13 3,M 14 0,o 15 (.aB g0 [t 14,k (i 1),k (i 0),k (i 7)]),o 16 (.gw g1 1 [t 15]),o 17 (.app g1 1 8 (t 13) (t 16)),M 3 17])) (R [M 11 5,o 12 (bb .add 11 (i 1)),M 5 12])))))) (r [M 18 3,M 2 18] y))))⟩
def jz(g0 g1 g2:Nat):cR:=⟨26,[.cell 2 (some 7)],r [o 2 (.alloc [i 0,.float .f64 0,.float .f64 0,.float .f64 0,.float .f64 0,i 0,i 0])] (r [o 3 (.alloc [i 0,.float .f64 0,.float .f64 0,.float .f64 0,.float .f64 0,i 0,i 0])] (r [M 4 0,o 5 (.aB g0 [t 4,k (i 1),k (i 0),k (i 7)]),o 6 (f 3 0),n (s 6 5 1)] (r [M 7 0,o 8 (.aB g1 [t 7,k (T)]),o 9 (f 3 1),n (s 9 8 1)] (r [M 10 0,o 11 (.aB g1 [t 10,k (T)]),o 12 (f 3 2),n (s 12 11 1)] (r [M 13 0,o 14 (.aB g1 [t 13,k (F)]),o 15 (f 3 3),n (s 15 14 1)] (r [M 16 0,o 17 (.aB g1 [t 16,k (F)]),o 18 (f 3 4),n (s 18 17 1)] (r [M 19 0,o 20 (.aB g2 [t 19]),o 21 (f 3 5),n (s 21 20 1)] (r [M 22 0,o 23 (.aB g2 [t 22]),o 24 (f 3 6),n (s 24 23 1)] (r [o 25 (L 3 7),n (s 2 25 7)] y)))))))))⟩
def lK(g0 g1:Nat):cR:=⟨38,[.cell 2 (some 11)],r [o 2 (.alloc ei)] (r [o 3 (.alloc ei)] (r [M 4 0,o 5 (.aB g0 [t 4,k (i 1),k (i 0),k (i 255)]),o 6 (f 3 0),n (s 6 5 1)] (r [M 7 0,o 8 (.aB g0 [t 7,k (i 1),k (i 0),k (i 255)]),o 9 (f 3 1),n (s 9 8 1)] (r [M 10 0,o 11 (.aB g0 [t 10,k (i 1),k (i 0),k (i 255)]),o 12 (f 3 2),n (s 12 11 1)] (r [M 13 0,o 14 (.aB g0 [t 13,k (i 1),k (i 0),k (i 255)]),o 15 (f 3 3),n (s 15 14 1)] (r [M 16 0,o 17 (.aB g1 [t 16]),o 18 (f 3 4),n (s 18 17 1)] (r [M 19 0,o 20 (.aB g1 [t 19]),o 21 (f 3 5),n (s 21 20 1)] (r [M 22 0,o 23 (.aB g1 [t 22]),o 24 (f 3 6),n (s 24 23 1)] (r [M 25 0,o 26 (.aB g1 [t 25]),o 27 (f 3 7),n (s 27 26 1)] (r [M 28 0,o 29 (.aB g1 [t 28]),o 30 (f 3 8),n (s 30 29 1)] (r [M 31 0,o 32 (.aB g1 [t 31]),o 33 (f 3 9),n (s 33 32 1)] (r [M 34 0,o 35 (.aB g0 [t 34,k (i 4),k (i 0),k (i 2147483647)]),o 36 (f 3 10),n (s 36 35 1)] (r [o 37 (L 3 11),n (s 2 37 11)] y)))))))))))))⟩
def lM(g0:Nat):cR:=⟨5,[.tmp 2],r [V 2 (i 0)] (r [M 3 0,o 4 (.aB g0 [t 3,k (i 2),k (i 0),k (i 9999)]),M 2 4] y)⟩
def jl(f_wire_Reader_Bool f_code_reading_right:Nat):cR:=⟨10,[.tmp 2],
 .seq (.aO [
  ⟨(some 1),.tc (.t 0),none⟩,
  ⟨(some 2),.o (.mv (.k (.bool false))),none⟩])
 (.seq (.aO [
  ⟨(some 4),.o (.fa (.t 1) 0),none⟩,
  ⟨(some 5),.o (.jX (.t 4) none),none⟩,
  ⟨(some 6),.aB f_wire_Reader_Bool [(.t 5)],none⟩,
  ⟨(some 3),.o (.mv (.t 6)),none⟩])
 (.seq (.aO [
  ⟨(some 7),.o (.jX (.t 1) (some 1)),none⟩,
  ⟨(some 8),.aB f_code_reading_right [(.t 7)],none⟩])
 (.seq (.aO [
  ⟨(some 9),.o (.mv (.t 3)),none⟩,
  ⟨(some 2),.o (.mv (.t 9)),none⟩])
 (.ret))))⟩
def fZ (f_wire_Reader_At f_wire_Reader_Float f_code_reading_right e_api_Detector f_table_May e_api_Fault:Nat):cR:=⟨30,[.tmp 4],
  .seq (.aO [
    ⟨(some 2),.tc (.t 0),none⟩,
    ⟨(some 4),.o (.mv (.k (.float .f64 0))),none⟩])
  (.seq (.aO [
    ⟨(some 8),.o (.fa (.t 2) 0),none⟩,
    ⟨(some 9),.o (.jX (.t 8) none),none⟩,
    ⟨(some 10),.aB f_wire_Reader_At [(.t 9)],none⟩,
    ⟨(some 5),.o (.mv (.t 10)),none⟩])
  (.seq (.aO [
    ⟨(some 11),.o (.fa (.t 2) 0),none⟩,
    ⟨(some 12),.o (.jX (.t 11) none),none⟩,
    ⟨(some 13),.aB f_wire_Reader_Float [(.t 12)],none⟩,
    ⟨(some 6),.o (.mv (.t 13)),none⟩])
  (.seq (.aO [
    ⟨(some 14),.o (.jX (.t 2) (some 1)),none⟩,
    ⟨(some 15),.aB f_code_reading_right [(.t 14)],none⟩])
  (.seq (.aO [
    ⟨(some 16),.o (.build [(.int .i64 0),(.float .f64 0),(.float .f64 0),(.float .f64 0),(.float .f64 0),(.int .i64 0),(.int .i64 0)] [(1,1,(.k (.float .f64 4607182418800017408))),(2,1,(.k (.float .f64 4607182418800017408)))]),none⟩,
    ⟨(some 7),.o (.alloc [(.int .i64 0),(.float .f64 0),(.float .f64 0),(.float .f64 0),(.float .f64 0),(.int .i64 0),(.int .i64 0)]),none⟩,
    ⟨none,.o (.st (.t 7) (.t 16) 7),none⟩])
  (.seq (.aO [
    ⟨(some 17),.o (.mv (.t 1)),none⟩,
    ⟨(some 18),.Az (.t 17) [(.t 7)],none⟩,
    ⟨(some 19),.o (.mv (.t 6)),none⟩,
    ⟨(some 20),.o (.nc (.t 18)),none⟩,
    ⟨none,.o (.st (.t 20) (.t 19) 1),none⟩])
  (.join (.seq (.aO [
     ⟨(some 21),.o (.ld (.t 7) (some 7)),none⟩,
     ⟨(some 22),.o (.gw e_api_Detector 7 [(.t 21)]),none⟩,
     ⟨(some 23),.o (.build aY [(113,1,(.t 22))]),none⟩,
     ⟨(some 24),.call f_table_May [(.t 23)],none⟩,
     ⟨(some 25),.o (.un .not (.t 24)),none⟩])
   (.cond (.t 25) (.aO [
      ⟨(some 26),.o (.mv (.t 5)),none⟩,
      ⟨(some 27),.o (.build [(.int .i64 0),(.int .i64 0)] [(0,1,(.k (.int .i64 4))),(1,1,(.t 26))]),none⟩,
      ⟨(some 28),.Hy e_api_Fault (.t 27),none⟩,
      ⟨none,.Hx (.t 28),none⟩])
    (.skip)))
  (.seq (.aO [
    ⟨(some 29),.o (.mv (.t 6)),none⟩,
    ⟨(some 4),.o (.mv (.t 29)),none⟩])
  (.ret))))))))⟩
def iU:cR:=⟨6,[.tmp 2],
 .seq (.aO [
  ⟨(some 2),.o (.mv (.k .mj)),none⟩])
 (.seq (.aO [
  ⟨(some 3),.o (.mv (.t 0)),none⟩,
  ⟨(some 4),.o (.nc (.t 3)),none⟩,
  ⟨(some 5),.o (.fa (.t 4) 1),none⟩,
  ⟨(some 2),.o (.mv (.t 5)),none⟩])
 (.ret))⟩
def iV:cR:=⟨6,[.tmp 2],
 .seq (.aO [
  ⟨(some 2),.o (.mv (.k .mj)),none⟩])
 (.seq (.aO [
  ⟨(some 3),.o (.mv (.t 0)),none⟩,
  ⟨(some 4),.o (.nc (.t 3)),none⟩,
  ⟨(some 5),.o (.fa (.t 4) 2),none⟩,
  ⟨(some 2),.o (.mv (.t 5)),none⟩])
 (.ret))⟩
def iW:cR:=⟨6,[.tmp 2],
 .seq (.aO [
  ⟨(some 2),.o (.mv (.k .mj)),none⟩])
 (.seq (.aO [
  ⟨(some 3),.o (.mv (.t 0)),none⟩,
  ⟨(some 4),.o (.nc (.t 3)),none⟩,
  ⟨(some 5),.o (.fa (.t 4) 3),none⟩,
  ⟨(some 2),.o (.mv (.t 5)),none⟩])
 (.ret))⟩
def iX:cR:=⟨6,[.tmp 2],
 .seq (.aO [
  ⟨(some 2),.o (.mv (.k .mj)),none⟩])
 (.seq (.aO [
  ⟨(some 3),.o (.mv (.t 0)),none⟩,
  ⟨(some 4),.o (.nc (.t 3)),none⟩,
  ⟨(some 5),.o (.fa (.t 4) 4),none⟩,
  ⟨(some 2),.o (.mv (.t 5)),none⟩])
 (.ret))⟩
def xD:cR:=⟨26,[.cell 0 (some 16)],r [o 0 (.alloc mL)] (r [o 1 (.alloc mL)] (j (r [V 4 (i 0)] (u 0 (.loop (r [o 5 (bb .lss 4 (i 16))] (j (c 5 z (.exit 0)) (j (u 1 (r [M 6 4,M 2 6] (r [M 7 2,o 8 (.kF .u16 (t 7)),o 9 (bb .shl 8 (.int .u64 12)),M 3 9] (j (r [V 10 (i 0)] (u 2 (.loop (r [o 11 (bb .lss 10 (i 4))] (j (c 11 z (.exit 2)) (j (u 3 (r [M 12 3,o 13 (bb .and 12 (.int .u16 32768)),o 14 (bb .neq 13 (.int .u16 0))] (c 14 (R [M 15 3,o 16 (bb .shl 15 (.int .u64 1)),o 17 (bb .xor 16 (.int .u16 4129)),M 3 17]) (R [M 18 3,o 19 (bb .shl 18 (.int .u64 1)),M 3 19])))) (R [o 20 (bb .add 10 (i 1)),M 10 20]))))))) (R [M 21 2,M 22 3,o 23 (A 1 21 16 1),n (s 23 22 1)]))))) (R [o 24 (bb .add 4 (i 1)),M 4 24]))))))) (r [o 25 (L 1 16),n (s 0 25 16)] y)))⟩
def gn(g0 g1 g2 g3:Nat):cR:=⟨44,[.tmp 4],r [V 4 (.float .f64 0)] (r [M 7 0,o 8 (.nc (t 7)),o 9 (f 8 1),o 10 (l 9),M 5 10] (r [M 11 0,o 12 (.aB g0 [t 11]),M 6 12] (j (r [M 13 0,o 14 (.aB g1 [t 13]),M 15 14,p 16 (m 1) 15,p 17 (m 16) 15,p 18 (m 6) 17,p 19 (.call g2 [t 18]) 17,p 20 (P 17 19) 15,p 21 (m 20) 15,q 22 (m 1) 21,q 23 (.un .not (t 22)) 21,q 24 (m 23) 21,p 25 (m 6) 24,p 26 (.call g3 [t 25]) 24,q 27 (P 24 26) 21,p 28 (Q 21 27) 15,p 29 (.un .not (t 28)) 15,o 30 (P 15 29)] (c 30 (r [M 31 0,M 32 5,o 33 (.build [i 0,i 0] [(0,1,k (i 4)),(1,1,t 32)]),o 34 (.nc (t 31)),o 35 (f 34 2),n (s 35 33 2)] (R [M 36 0,M 37 5,o 38 (.nc (t 36)),o 39 (f 38 1),n (s 39 37 1)])) z)) (j (r [M 40 0,o 41 (.aB g1 [t 40]),o 42 (.un .not (t 41))] (c 42 (r [V 4 (.float .f64 0)] y) z)) (r [M 43 6,M 4 43] y)))))⟩
end
def nB{α:Type} (c:Cd α) (enc:α->AV) (C:bz) (f:Nat):Prop:=∀r:aU,r.Ok->C.p f [r.cells] [none] (enc (c.m r).1) none [(c.m r).2.cells]
theorem nB.step{α:Type} {c:Cd α} {enc:α->AV} {C:bz} {f:Nat} (h:nB c enc C f) {r:aU} (hr:r.Ok):∃a r',c.m r=(a,r')/\r'.Ok/\C.p f [r.cells] [none] (enc a) none [r'.cells]:=⟨_,_,rfl,c.ok r hr,h r hr⟩
theorem sO(r:aU) (k hi:Int) (h:0<=hi):0<=(eP r k 0 hi).1/\(eP r k 0 hi).1<=hi:=by
 unfold eP;simp only[];split
 ·exact⟨Int.le_refl _,h⟩
 ·split
  ·exact⟨Int.le_refl _,h⟩
  ·rename_i h1;simp only;omega
theorem oo{C:bz} {f:Nat} (h:vt.Spec C f) {r:aU} (hr:r.Ok) (k:Nat) (hi:Int) (hk:k<=7) (hh:hi<256^k) (h0:0<=hi):∃a r',(oV k hi hk hh).m r=(a,r')/\r'.Ok/\(0<=a/\a<=hi)/\C.p f [r.cells] [none,some (I k),some (I 0),some (I hi)] (I a) none [r'.cells]:=
 ⟨_,_,rfl,(oV k hi hk hh).ok r hr,sO r k hi h0,h r k 0 hi hr⟩
theorem FX:∀(l:List Int) (v:Int),0<=v/\v<2^64->0<=l.foldl jw v/\l.foldl jw v<2^64
 |[],v,h=>h
 |c::l,v,h=>FX l _ (by
  unfold jw K0;rw[Du]
  omega)
theorem FY(r:aU):(gl r).1<2^64:=by
 unfold gl;split
 ·exact Nat.two_pow_pos 64
 ·have:=FX (r.part 8) 0 (by decide)
  unfold eH;simp only;omega
def rU.Spec(C:bz) (f:Nat):Prop:=nB aT I C f
def Vz.Spec(C:bz) (f:Nat):Prop:=nB Cb B C f
def J9.Spec(C:bz) (f:Nat):Prop:=nB xO (fun p=>.agg p.cells) C f
def DH.Spec(C:bz) (f:Nat):Prop:=nB lJ (fun l=>aF aD (bf l)) C f
def wM.Spec(C:bz) (f:Nat):Prop:=∀(r:aU) (lv:Bool),r.Ok->C.p f [r.cells] [none,some (B lv)] (Fl (gM lv r).1) none [(gM lv r).2.cells]
def DI.Spec(C:bz) (f:Nat):Prop:=nB nF (fun p=>.agg p.cells) C f
def Ka.Spec(C:bz) (f:Nat):Prop:=nB Ag (fun p=>.agg p.cells) C f
theorem uy{C:bz} {f:Nat} (h:zA.Spec C f):Vz.Spec C f:=h
theorem FZ{C:bz} {f:Nat} (h:wM.Spec C f) {r:aU} (hr:r.Ok) (lv:Bool):∃a r',(vC lv).m r=(a,r')/\r'.Ok/\C.p f [r.cells] [none,some (B lv)] (Fl a) none [r'.cells]:=⟨_,_,rfl,(vC lv).ok r hr,h r lv hr⟩
section
variable{P:Program} (hm:P.follows .mixedOrders=true) {f:Nat}
include hm
theorem rU.ok{fN:Nat} (hc:cZ P f=some (lM fN)) (hN:vt.Spec (Pure P) fN):rU.Spec (Pure P) f:=by
 intro r hr
 refine bK hm hc (by show 1<=5;decide) rfl (by simp) (ay (keep:=[]) (i:=0) ?_)
 try simp only[I,B,D,RX,↓KW,seval,lM,Z.H]
 refine⟨rfl,ax (hN r 2 0 9999 hr) ?_⟩;try simp only[I,B,D,RX,↓KW,seval]
 exact⟨rfl,rfl⟩
theorem J9.ok{fB fT fN:Nat} (hc:cZ P f=some (kJ fB fT fN)) (hB:zA.Spec (Pure P) fB) (hT:rU.Spec (Pure P) fT) (hN:vt.Spec (Pure P) fN):J9.Spec (Pure P) f:=by
 intro r hr
 obtain⟨a0,r0,e0,k0,c0⟩:=nB.step (uy hB) hr
 obtain⟨a1,r1,e1,k1,c1⟩:=nB.step hT k0;obtain⟨a2,r2,e2,k2,c2⟩:=nB.step hT k1;obtain⟨a3,r3,e3,k3,c3⟩:=nB.step hT k2;obtain⟨a4,r4,e4,k4,c4⟩:=nB.step hT k3;obtain⟨a5,r5,e5,k5,c5⟩:=nB.step hT k4;obtain⟨a6,r6,e6,k6,c6⟩:=nB.step hT k5;obtain⟨a7,r7,e7,k7,c7⟩:=nB.step hT k6
 obtain⟨a8,r8,e8,k8,c8⟩:=nB.step hT k7;obtain⟨a9,r9,e9,k9,c9⟩:=nB.step hT k8
 obtain⟨a10,r10,e10,k10,_,c10⟩:=oo hN k9 1 3 (by decide) (by decide) (by decide)
 obtain⟨a11,r11,e11,k11,c11⟩:=nB.step (uy hB) k10
 obtain⟨a12,r12,e12,k12,c12⟩:=nB.step (uy hB) k11
 have hm':xO.m r=(⟨a0,a1,a2,a3,a4,a5,a6,a7,a8,a9,a10,a11,a12⟩,r12):=by
  simp only[xO,Cd.map,Cd.seq,cu,e0,e1,e2,e3,e4,e5,e6,e7,e8,e9,e10,e11,e12]
 rw[hm']
 refine bK hm hc (by show 1<=44;decide) rfl (by simp) (ay (keep:=[]) (i:=0) ?_)
 try simp only[I,B,D,RX,↓KW,seval,kJ,Z.H,dN,Ph.cells]
 refine⟨rfl,ax c0 ?_⟩;try simp only[I,B,D,RX,↓KW,seval]
 refine⟨rfl,ax c1 ?_⟩;try simp only[I,B,D,RX,↓KW,seval]
 refine⟨rfl,ax c2 ?_⟩;try simp only[I,B,D,RX,↓KW,seval]
 refine⟨rfl,ax c3 ?_⟩;try simp only[I,B,D,RX,↓KW,seval]
 refine⟨rfl,ax c4 ?_⟩;try simp only[I,B,D,RX,↓KW,seval]
 refine⟨rfl,ax c5 ?_⟩;try simp only[I,B,D,RX,↓KW,seval]
 refine⟨rfl,ax c6 ?_⟩;try simp only[I,B,D,RX,↓KW,seval]
 refine⟨rfl,ax c7 ?_⟩;try simp only[I,B,D,RX,↓KW,seval]
 refine⟨rfl,ax c8 ?_⟩;try simp only[I,B,D,RX,↓KW,seval]
 refine⟨rfl,ax c9 ?_⟩;try simp only[I,B,D,RX,↓KW,seval]
 refine⟨rfl,ax c10 ?_⟩;try simp only[I,B,D,RX,↓KW,seval]
 refine⟨rfl,ax c11 ?_⟩;try simp only[I,B,D,RX,↓KW,seval]
 refine⟨rfl,ax c12 ?_⟩;try simp only[I,B,D,RX,↓KW,seval]
theorem DH.ok{fN e:Nat} (hc:cZ P f=some (jk fN e)) (hN:vt.Spec (Pure P) fN):DH.Spec (Pure P) f:=by
 intro r hr
 obtain⟨n,r0,e0,k0,hn,c0⟩:=oo hN hr 1 8 (by decide) (by decide) (by decide)
 obtain⟨N,hN',hN8⟩:∃N:Nat,n=(N:Int)/\N<=8:=⟨n.toNat,by omega,by omega⟩
 subst hN'
 obtain⟨l,rF,eF⟩:∃l rF,((cu 7 (by decide)).rep N).m r0=(l,rF):=⟨_,_,rfl⟩
 have hm':lJ.m r=(l,rF):=by
  show((((cu 8 (by decide)).seq fun k=>(cu 7 (by decide)).rep k.toNat).m r).1.2,(((cu 8 (by decide)).seq fun k=>(cu 7 (by decide)).rep k.toNat).m r).2)=_
  have e0':(cu 8 (by decide)).m r=((N:Int),r0):=e0
  simp only[Cd.seq,e0',Int.toNat_natCast,eF]
 rw[hm']
 refine bK hm hc (by show 1<=19;decide) rfl (by simp) (ay (keep:=[]) (i:=0) ?_)
 try simp only[I,B,D,RX,↓KW,seval,jk,Z.H]
 refine⟨rfl,ax c0 ?_⟩;try simp only[I,B,D,RX,↓KW,seval]
 refine aI (fun x:Nat×List Int×aU=>(⟨[(4,.dat (I N) none),(5,.dat (I x.1) none),(3,cJ aD x.2.1 0),(0,.ptr 0 0)],[(0,⟨x.2.2.cells,[]⟩)],bE x.2.1 0 e,400⟩:S)) (fun x=>N-x.1) (fun x=>x.1<=N/\x.2.2.Ok/\x.2.1.length=x.1/\∃tl,((cu 7 (by decide)).rep (N-x.1)).m x.2.2=(tl,rF)/\x.2.1++tl=l) ?_ (0,[],r0) ⟨by omega,k0,rfl,l,eF,rfl⟩ ?_
 ·intro x hx A back
  obtain⟨i,L,q⟩:=x;obtain⟨hi,hq,hL,tl,h1,h2⟩:=hx;simp only at hi hq hL h1 h2
  by_cases hL0:L=[]
  ·try simp only[I,B,D,RX,↓KW,seval,cJ,bE,hL0]
   refine aq (fun h=>?_) (fun h=>?_)<;>try simp only[I,B,D,RX,↓KW,seval,h]
   ·have h3:i<N:=by have:=of_decide_eq_true h;omega
    obtain⟨a,q',e1,k1,_,c1⟩:=oo hN hq 1 7 (by decide) (by decide) (by decide)
    have e1':(cu 7 (by decide)).m q=(a,q'):=e1
    obtain⟨tl',rF',e2⟩:∃tl' rF',((cu 7 (by decide)).rep (N-(i+1))).m q'=(tl',rF'):=⟨_,_,rfl⟩
    rw[show N-i=(N-(i+1))+1 by omega]at h1
    simp only[Cd.rep,Cd.map,Cd.seq,e1',e2,Prod.mk.injEq]at h1;obtain⟨h1,rfl⟩:=h1
    have hw:=aG (k:=i) (by omega)
    refine⟨rfl,ax c1 ?_⟩;try simp only[I,B,D,RX,↓KW,seval]
    refine back (i+1,[a],q') _ ⟨by show i+1<=N;omega,k1,by rw[hL0]at hL;show 1=i+1;simp at hL;omega,tl',e2,by rw[<-h2,<-h1,hL0];rfl⟩ (by show N-(i+1)<N-i;omega) ?_
    refine ah (by decide) ?_ ?_ ?_ ?_<;>simp[LX,I,B,D,hw,cJ,bE,aD]
   ·have h3:i=N:=by have:=of_decide_eq_false h;omega
    subst h3;try simp only[I,B,D,RX,↓KW,seval]
    rw[Nat.sub_self]at h1;simp only[Cd.rep,Cd.none,Prod.mk.injEq]at h1;obtain⟨rfl,rfl⟩:=h1;rw[List.append_nil]at h2;subst h2;simp[hL0,aF,bf,gi,cm]
  ·try simp only[I,B,D,RX,↓KW,seval,cJ,bE,hL0]
   refine aq (fun h=>?_) (fun h=>?_)<;>try simp only[I,B,D,RX,↓KW,seval,h]
   ·have h3:i<N:=by have:=of_decide_eq_true h;omega
    obtain⟨a,q',e1,k1,_,c1⟩:=oo hN hq 1 7 (by decide) (by decide) (by decide)
    have e1':(cu 7 (by decide)).m q=(a,q'):=e1
    obtain⟨tl',rF',e2⟩:∃tl' rF',((cu 7 (by decide)).rep (N-(i+1))).m q'=(tl',rF'):=⟨_,_,rfl⟩
    rw[show N-i=(N-(i+1))+1 by omega]at h1
    simp only[Cd.rep,Cd.map,Cd.seq,e1',e2,Prod.mk.injEq]at h1;obtain⟨h1,rfl⟩:=h1
    have hw:=aG (k:=i) (by omega)
    refine⟨rfl,ax c1 ?_⟩;try simp only[I,B,D,RX,↓KW,seval]
    refine⟨by omega,?_⟩
    refine back (i+1,L++[a],q') _ ⟨by show i+1<=N;omega,k1,by show(L++[a]).length=i+1;simp[hL],tl',e2,by rw[<-h2,<-h1];simp⟩ (by show N-(i+1)<N-i;omega) ?_
    refine ah (by decide) ?_ ?_ ?_ ?_<;>simp[LX,I,B,D,hw,cJ,bE,aD]
   ·have h3:i=N:=by have:=of_decide_eq_false h;omega
    subst h3;try simp only[I,B,D,RX,↓KW,seval]
    rw[Nat.sub_self]at h1;simp only[Cd.rep,Cd.none,Prod.mk.injEq]at h1;obtain⟨rfl,rfl⟩:=h1;rw[List.append_nil]at h2;subst h2;simp[hL0,aF,bf,gi,cm]
 ·refine ah (by decide) ?_ ?_ ?_ ?_<;>simp[LX,I,B,D,cJ,bE]
theorem wM.ok{fF fO fL fS:Nat} (hc:cZ P f=some (gn fF fO fL fS)) (hF:wC.Spec (Pure P) fF) (hO:N8.Spec (Pure P) fO) (hL:zT.Spec (Pure P) fL) (hS:rS.Spec (Pure P) fS):wM.Spec (Pure P) f:=by
 intro r lv hr
 have c1:=hF r hr
 have k1:=(sH hr).1
 have hx:=FY r
 obtain⟨x,q,e1⟩:∃x q,gl r=(x,q):=⟨_,_,rfl⟩
 rw[e1]at c1 k1 hx;simp only at c1 k1 hx
 by_cases h0:q.code=0
 ·have o1:=hO q
  have e0:(q.code==0)=true:=by simp[h0]
  rw[e0]at o1
  by_cases h2:Nu lv x=true
  ·have hs:gM lv r=(x,q):=by unfold gM;rw[e1,if_pos h0,if_pos h2]
   rw[hs]
   refine bK hm hc (by show 2<=44;decide) rfl (by simp) (ay (keep:=[]) (i:=0) ?_)
   try simp only[I,B,D,RX,↓KW,seval,gn,Z.H,aU.cells]
   refine⟨rfl,ax c1 ?_⟩;try simp only[I,B,D,RX,↓KW,seval]
   refine⟨rfl,ax o1 ?_⟩;try simp only[I,B,D,RX,↓KW,seval]
   cases lv with
   |true=>
    have h2:lvl x=true:=h2
    try simp only[I,B,D,RX,↓KW,seval]
    refine ai (hL x) ?_;try simp only[I,B,D,RX,↓KW,seval,h2]
    refine⟨rfl,ax o1 ?_⟩;try simp only[I,B,D,RX,↓KW,seval]
    rfl
   |false=>
    have h2:eo x=true:=h2
    try simp only[I,B,D,RX,↓KW,seval]
    refine ai (hS x hx) ?_;try simp only[I,B,D,RX,↓KW,seval,h2]
    refine⟨rfl,ax o1 ?_⟩;try simp only[I,B,D,RX,↓KW,seval]
    rfl
  ·have h2:Nu lv x=false:=by simpa using h2
   have hs:gM lv r=(0,{q with code:=4,Eb:=r.dD,dD:=r.dD}):=by unfold gM;rw[e1,if_pos h0,if_neg (by rw[h2];decide)]
   have o2:=hO {q with code:=4,Eb:=r.dD,dD:=r.dD}
   rw[hs]
   refine bK hm hc (by show 2<=44;decide) rfl (by simp) (ay (keep:=[]) (i:=0) ?_)
   try simp only[I,B,D,RX,↓KW,seval,gn,Z.H,aU.cells]
   refine⟨rfl,ax c1 ?_⟩;try simp only[I,B,D,RX,↓KW,seval]
   refine⟨rfl,ax o1 ?_⟩;try simp only[I,B,D,RX,↓KW,seval]
   cases lv with
   |true=>
    have h2:lvl x=false:=h2
    try simp only[I,B,D,RX,↓KW,seval]
    refine ai (hL x) ?_;try simp only[I,B,D,RX,↓KW,seval,h2,aU.cells]
    refine⟨rfl,ax o2 ?_⟩;try simp only[I,B,D,RX,↓KW,seval]
    rfl
   |false=>
    have h2:eo x=false:=h2
    try simp only[I,B,D,RX,↓KW,seval]
    refine ai (hS x hx) ?_;try simp only[I,B,D,RX,↓KW,seval,h2,aU.cells]
    refine⟨rfl,ax o2 ?_⟩;try simp only[I,B,D,RX,↓KW,seval]
    rfl
 ·have o1:=hO q
  have e0:(q.code==0)=false:=by simp[h0]
  rw[e0]at o1
  have hs:gM lv r=(0,q):=by unfold gM;rw[e1,if_neg h0]
  rw[hs]
  refine bK hm hc (by show 2<=44;decide) rfl (by simp) (ay (keep:=[]) (i:=0) ?_)
  try simp only[I,B,D,RX,↓KW,seval,gn,Z.H,aU.cells]
  refine⟨rfl,ax c1 ?_⟩;try simp only[I,B,D,RX,↓KW,seval]
  refine⟨rfl,ax o1 ?_⟩;try simp only[I,B,D,RX,↓KW,seval]
  refine⟨rfl,ax o1 ?_⟩;try simp only[I,B,D,RX,↓KW,seval]
  rfl
theorem DI.ok{fN fS fT:Nat} (hc:cZ P f=some (jz fN fS fT)) (hN:vt.Spec (Pure P) fN) (hS:wM.Spec (Pure P) fS) (hT:rU.Spec (Pure P) fT):DI.Spec (Pure P) f:=by
 intro r hr
 obtain⟨a0,r0,e0,k0,_,c0⟩:=oo hN hr 1 7 (by decide) (by decide) (by decide)
 obtain⟨a1,r1,e1,k1,c1⟩:=FZ hS k0 true;obtain⟨a2,r2,e2,k2,c2⟩:=FZ hS k1 true;obtain⟨a3,r3,e3,k3,c3⟩:=FZ hS k2 false;obtain⟨a4,r4,e4,k4,c4⟩:=FZ hS k3 false;obtain⟨a5,r5,e5,k5,c5⟩:=nB.step hT k4;obtain⟨a6,r6,e6,k6,c6⟩:=nB.step hT k5
 have hm':nF.m r=(⟨a0,a1,a2,a3,a4,a5,a6⟩,r6):=by
  simp only[nF,Cd.map,Cd.seq,cu,e0,e1,e2,e3,e4,e5,e6]
 rw[hm']
 refine bK hm hc (by show 1<=26;decide) rfl (by simp) (ay (keep:=[]) (i:=0) ?_)
 try simp only[I,B,D,RX,↓KW,seval,jz,Z.H,gu.cells]
 refine⟨rfl,ax c0 ?_⟩;try simp only[I,B,D,RX,↓KW,seval]
 refine⟨rfl,ax c1 ?_⟩;try simp only[I,B,D,RX,↓KW,seval]
 refine⟨rfl,ax c2 ?_⟩;try simp only[I,B,D,RX,↓KW,seval]
 refine⟨rfl,ax c3 ?_⟩;try simp only[I,B,D,RX,↓KW,seval]
 refine⟨rfl,ax c4 ?_⟩;try simp only[I,B,D,RX,↓KW,seval]
 refine⟨rfl,ax c5 ?_⟩;try simp only[I,B,D,RX,↓KW,seval]
 refine⟨rfl,ax c6 ?_⟩;try simp only[I,B,D,RX,↓KW,seval]
theorem Ka.ok{fN fT:Nat} (hc:cZ P f=some (lK fN fT)) (hN:vt.Spec (Pure P) fN) (hT:rU.Spec (Pure P) fT):Ka.Spec (Pure P) f:=by
 intro r hr
 obtain⟨a0,r0,e0,k0,_,c0⟩:=oo hN hr 1 255 (by decide) (by decide) (by decide)
 obtain⟨a1,r1,e1,k1,_,c1⟩:=oo hN k0 1 255 (by decide) (by decide) (by decide)
 obtain⟨a2,r2,e2,k2,_,c2⟩:=oo hN k1 1 255 (by decide) (by decide) (by decide)
 obtain⟨a3,r3,e3,k3,_,c3⟩:=oo hN k2 1 255 (by decide) (by decide) (by decide)
 obtain⟨a4,r4,e4,k4,c4⟩:=nB.step hT k3;obtain⟨a5,r5,e5,k5,c5⟩:=nB.step hT k4;obtain⟨a6,r6,e6,k6,c6⟩:=nB.step hT k5;obtain⟨a7,r7,e7,k7,c7⟩:=nB.step hT k6;obtain⟨a8,r8,e8,k8,c8⟩:=nB.step hT k7;obtain⟨a9,r9,e9,k9,c9⟩:=nB.step hT k8
 obtain⟨a10,r10,e10,k10,_,c10⟩:=oo hN k9 4 2147483647 (by decide) (by decide) (by decide)
 have hm':Ag.m r=(⟨a0,a1,a2,a3,a4,a5,a6,a7,a8,a9,a10⟩,r10):=by
  simp only[Ag,Cd.map,Cd.seq,jN,dB,e0,e1,e2,e3,e4,e5,e6,e7,e8,e9,e10]
 rw[hm']
 refine bK hm hc (by show 1<=38;decide) rfl (by simp) (ay (keep:=[]) (i:=0) ?_)
 try simp only[I,B,D,RX,↓KW,seval,lK,Z.H,ei,Rl.cells]
 refine⟨rfl,ax c0 ?_⟩;try simp only[I,B,D,RX,↓KW,seval]
 refine⟨rfl,ax c1 ?_⟩;try simp only[I,B,D,RX,↓KW,seval]
 refine⟨rfl,ax c2 ?_⟩;try simp only[I,B,D,RX,↓KW,seval]
 refine⟨rfl,ax c3 ?_⟩;try simp only[I,B,D,RX,↓KW,seval]
 refine⟨rfl,ax c4 ?_⟩;try simp only[I,B,D,RX,↓KW,seval]
 refine⟨rfl,ax c5 ?_⟩;try simp only[I,B,D,RX,↓KW,seval]
 refine⟨rfl,ax c6 ?_⟩;try simp only[I,B,D,RX,↓KW,seval]
 refine⟨rfl,ax c7 ?_⟩;try simp only[I,B,D,RX,↓KW,seval]
 refine⟨rfl,ax c8 ?_⟩;try simp only[I,B,D,RX,↓KW,seval]
 refine⟨rfl,ax c9 ?_⟩;try simp only[I,B,D,RX,↓KW,seval]
 refine⟨rfl,ax c10 ?_⟩;try simp only[I,B,D,RX,↓KW,seval]
end
end Go.Eng
