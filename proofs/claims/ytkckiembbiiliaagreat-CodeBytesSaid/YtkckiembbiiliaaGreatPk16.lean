/- The engine and the library,part 16 of 21: what the proofs of this seat need of them. -/
import Derived.Test.YtkckiembbiiliaaGreatPk15
set_option linter.unnecessarySimpa false
set_option linter.unusedSimpArgs false
set_option linter.unusedVariables false
set_option linter.defProp false
set_option maxRecDepth 10000
set_option maxHeartbeats 4000000
namespace Go.Eng
open Go
theorem zQ(n:Int):IntKind.i64.wrap n%18446744073709551616=n%18446744073709551616:=by
 simp only[IntKind.wrap,IntKind.bits,IntKind.signed];simp;omega
def qj(b:Bool):Int:=if b then 1 else 0
def Cl:Cd Bool:=(oX 1 1 (by decide) (by decide)).map (fun n=>n==1) qj (fun x hx=>by
 have:x=0\/x=1:=by have:=hx.1;have:=hx.2;omega
 rcases this with rfl|rfl<;>rfl)
theorem Rj(b:Bool):Cl.v b:=by cases b<;>exact⟨by show _/\_;simp[qj],rfl⟩
def Nv(lv:Bool) (x:Nat):Bool:=if lv then lvl x else eJ x
def gK(lv:Bool) (r:bk):Nat×bk:=
 if(gB r).2.code=0 then
  if Nv lv (gB r).1=true then gB r else(0,{(gB r).2 with code:=4,EN:=r.eM,eM:=r.eM})
 else(0,(gB r).2)
theorem EY(r:bk):(gB r).2.b=r.b:=by
 unfold gB;split
 ·unfold bk.fail;split<;>rfl
 ·rfl
def vE(lv:Bool):Cd Nat where
 m r:=gK lv r
 e x:=gn (IntKind.i64.wrap (x:Int)) 8
 v x:=x<2^64/\Nv lv x=true
 ok r h:=by
  have h2:=(xZ h).1
  have h3:=(xZ h).2
  unfold gK;split
  ·split
   ·exact h2
   ·refine⟨h.1,?_,?_⟩
    ·show r.eM<=(gB r).2.len
     unfold bk.len;rw[h3];exact h.2.1
    ·exact h2.2.2
  ·exact h2
 keep r:=by
  unfold gK;split
  ·split
   ·exact EY r
   ·exact EY r
  ·exact EY r
 stay r h:=by
  have:gB r=(0,r):=by simp[gB,h,bk.fail]
  simp[gK,this,h]
 back r x tl hr h0 hv he:=by
  have hl:=oV hr
  rw[he,List.length_append,dA]at hl
  have hpt:r.part (8:Int)=gn (IntKind.i64.wrap (x:Int)) 8:=by
   have:=oW r hr 8
   rw[he]at this
   rw[show(8:Int)=((8:Nat):Int)from rfl,this];exact List.take_left' (dA _ 8)
  have hn:(eZ (gn (IntKind.i64.wrap (x:Int)) 8)).toNat=x:=by
   rw[Dy _ 8 (by omega)]
   have:=zQ (x:Int)
   show(IntKind.i64.wrap (x:Int)%18446744073709551616).toNat=x
   rw[this]
   have:=hv.1
   omega
  have hf:gB r=(x,r.go 8):=by
   unfold gB
   rw[if_neg (by omega),hpt,hn];rfl
  have h1:(gB r).2.code=0:=by rw[hf];exact h0
  unfold gK;rw[if_pos h1,hf];simp only[hv.2,if_true,dA]
 wrote r hr hb h0 hc:=by
  have hl:=oV hr
  by_cases h1:(8:Int)<=r.len-r.eM
  ·have hf:gB r=((eZ (r.part 8)).toNat,r.go 8):=by
    unfold gB
    rw[if_neg (by omega)];rfl
   have hcd:(gB r).2.code=0:=by rw[hf];exact h0
   have hpl:((r.rest').take 8).length=8:=by rw[List.length_take];omega
   have hbp:qd ((r.rest').take 8):=fun x hx=>hb x (List.mem_of_mem_drop (List.mem_of_mem_take hx))
   have hpr:r.part (8:Int)=(r.rest').take 8:=oW r hr 8
   have hin:=x6 hbp (by omega)
   have hbn:=rH _ hbp (by omega)
   rw[hpl]at hin hbn
   have h256:(256:Int)^8=18446744073709551616:=by decide
   rw[h256]at hin
   have e8:gn (IntKind.i64.wrap (((eZ ((r.rest').take 8)).toNat:Nat):Int)) 8=(r.rest').take 8:=by
    refine Eq.trans (Ck (m:=eZ ((r.rest').take 8)) 8 ?_) hbn
    rw[Int.toNat_of_nonneg hin.1,h256];exact zQ _
   rw[hpr]at hf
   obtain⟨L,hL⟩:∃L,L=(r.rest').take 8:=⟨_,rfl⟩
   rw[<-hL]at hf hin e8 hbn
   by_cases h2:Nv lv (eZ L).toNat=true
   ·have hs:gK lv r=((eZ L).toNat,r.go 8):=by unfold gK;rw[if_pos hcd,hf];simp only[h2,if_true]
    rw[hs]
    refine⟨⟨by show(eZ L).toNat<2^64;omega,h2⟩,(r.rest').drop 8,?_,?_⟩
    ·show r.rest'=gn _ 8++_
     rw[e8,hL,List.take_append_drop]
    ·show r.go 8=r.go (gn _ 8).length
     rw[dA]
   ·exfalso
    unfold gK at hc;rw[if_pos hcd,hf]at hc;simp only[h2,if_false]at hc;simp at hc
  ·exfalso
   have hf:gB r=(0,r.fail 2 r.len):=by
    unfold gB
    rw[if_pos (by omega)]
   unfold gK at hc;rw[hf]at hc;simp[bk.fail,h0]at hc
 cut r n tl hr h0 hv he ht:=by
  have hl:=oV hr
  have:(r.rest').length<8:=by
   have:=congrArg List.length he
   rw[dA,List.length_append]at this
   have:0<tl.length:=List.length_pos_iff.2 ht
   omega
  have hf:gB r=(0,r.fail 2 r.len):=by
   unfold gB
   rw[if_pos (by omega)]
  unfold gK;rw[hf];simp[bk.fail,h0]
 Nu n:=x7 _ 8
def aV:Cd Int:=oX 2 9999 (by decide) (by decide)
def jO:Cd Int:=oX 1 255 (by decide) (by decide)
def dM:Cd Int:=oX 4 2147483647 (by decide) (by decide)
def cF(hi:Int) (h:hi<256):Cd Int:=oX 1 hi (by decide) (by simpa using h)
def sY:Cd Ph:=(Cl.seq fun _=>aV.seq fun _=>aV.seq fun _=>aV.seq fun _=>aV.seq fun _=>aV.seq fun _=>aV.seq fun _=>aV.seq fun _=>aV.seq fun _=>aV.seq fun _=>
  (cF 3 (by decide)).seq fun _=>Cl.seq fun _=>Cl).map
 (fun(a,b,c,d,e,f,g,h,i,j,k,l,m)=>⟨a,b,c,d,e,f,g,h,i,j,k,l,m⟩)
 (fun p=>(p.on,p.min,p.As,p.max,p.top,p.step,p.dO,p.red,p.walk,p.ee,p.gy,p.lock,p.rest)) (fun _ _=>rfl)
def lI:Cd (List Int):=Cd.many (cF 8 (by decide)) (cF 7 (by decide)) (fun _ h=>h.1)
def uu:Cd Gr:=(lI.seq fun _=>lI).map (fun(a,b)=>⟨bf a,bf b⟩) (fun g=>(g.a.getD [],g.b.getD [])) (fun x _=>by simp only[cO])
def j0:Cd fy:=((cF 7 (by decide)).seq fun _=>(vE true).seq fun _=>(vE true).seq fun _=>(vE false).seq fun _=>(vE false).seq fun _=>aV.seq fun _=>aV).map
 (fun(a,b,c,d,e,f,g)=>⟨a,b,c,d,e,f,g⟩) (fun d=>(d.phase,d.on,d.off,d.delay,d.extend,d.maxOn,d.iF)) (fun _ _=>rfl)
def uA:Cd Rl:=(jO.seq fun _=>jO.seq fun _=>jO.seq fun _=>jO.seq fun _=>aV.seq fun _=>aV.seq fun _=>aV.seq fun _=>aV.seq fun _=>aV.seq fun _=>aV.seq fun _=>dM).map
 (fun(a,b,c,d,e,f,g,h,i,j,k)=>⟨a,b,c,d,e,f,g,h,i,j,k⟩) (fun r=>(r.bars,r.clear,r.iq,r.exit,r.delay,r.green,r.ke,r.hold,r.stay,r.most,r.limit)) (fun _ _=>rfl)
def uv:Cd Bs:=(jO.seq fun _=>aV).map (fun(a,b)=>⟨a,b⟩) (fun b=>(b.set,b.lock)) (fun _ _=>rfl)
def zR:Cd (List Gr):=Cd.many (cF 4 (by decide)) uu (fun _ h=>h.1)
def nv:Cd (List fy):=Cd.many (cF 16 (by decide)) j0 (fun _ h=>h.1)
def rI:Cd (List Rl):=Cd.many (cF 4 (by decide)) uA (fun _ h=>h.1)
def pT:Cd (List Bs):=Cd.many (cF 4 (by decide)) uv (fun _ h=>h.1)
def ot:Cd Tb:=((sY.rep 8).seq fun _=>zR.seq fun _=>(jO.rep 8).seq fun _=>nv.seq fun _=>rI.seq fun _=>pT.seq fun _=>
  aV.seq fun _=>aV.seq fun _=>aV.seq fun _=>aV.seq fun _=>aV.seq fun _=>((cF 2 (by decide)).rep 8).seq fun _=>dM.seq fun _=>dM).map
 (fun(a,b,c,d,e,f,g,h,i,j,k,l,m,n)=>⟨a,bf b,c,bf d,bf e,bf f,g,h,i,j,k,l,m,n⟩)
 (fun t=>(t.phases,t.groups.getD [],t.conflict,t.az.getD [],t.aR.getD [],t.aX.getD [],t.extend,t.cU,t.start,t.revert,t.least,t.bp,t.dw,t.share))
 (fun x _=>by simp only[cO])
theorem wL{m n:Int}:wI m n=true↔0<=n/\n<=m:=by simp[wI]
theorem Vx(p:Ph):sY.v p↔rG p=true:=by
 have e:sY.v p↔((Cl.v p.on/\aV.v p.min/\aV.v p.As/\aV.v p.max/\aV.v p.top/\aV.v p.step/\aV.v p.dO/\aV.v p.red/\aV.v p.walk/\aV.v p.ee/\(cF 3 (by decide)).v p.gy/\Cl.v p.lock/\Cl.v p.rest)/\p=p):=Iff.rfl
 rw[e];simp only[Rj,aV,cF,oX,rG];simp[wL,and_assoc]
theorem J2(l:List Int):lI.v l↔lU (some l)=true:=by
 unfold lI;rw[zO];simp only[cF,oX,lU];simp[wL]
theorem Bc(l:Option (List Int)):lU l=lU (some (l.getD [])):=rfl
theorem Rk(d:fy):j0.v d↔d.Fw/\gF d=true:=by
 have e:j0.v d↔(((cF 7 (by decide)).v d.phase/\(vE true).v d.on/\(vE true).v d.off/\(vE false).v d.delay/\(vE false).v d.extend/\aV.v d.maxOn/\aV.v d.iF)/\d=d):=Iff.rfl
 rw[e];simp only[aV,cF,oX,vE,gF,Nv,fy.Fw];simp[wL];constructor
 ·rintro⟨h1,⟨h2,h3⟩,⟨h4,h5⟩,⟨h6,h7⟩,⟨h8,h9⟩,h10,h11⟩
  exact⟨⟨h2,h4,h6,h8⟩,⟨⟨⟨⟨⟨h1,h3⟩,h5⟩,h7⟩,h9⟩,h10,h11⟩⟩
 ·rintro⟨⟨h2,h4,h6,h8⟩,⟨⟨⟨⟨⟨h1,h3⟩,h5⟩,h7⟩,h9⟩,h10,h11⟩⟩
  exact⟨h1,⟨h2,h3⟩,⟨h4,h5⟩,⟨h6,h7⟩,⟨h8,h9⟩,h10,h11⟩
theorem Vy(r:Rl):uA.v r↔tG r=true:=by
 have e:uA.v r↔((jO.v r.bars/\jO.v r.clear/\jO.v r.iq/\jO.v r.exit/\aV.v r.delay/\aV.v r.green/\aV.v r.ke/\aV.v r.hold/\aV.v r.stay/\aV.v r.most/\dM.v r.limit)/\r=r):=Iff.rfl
 rw[e];simp only[jO,aV,dM,oX,tG];simp[wL,and_assoc]
theorem Vz(b:Bs):uv.v b↔tH b=true:=by
 have e:uv.v b↔((jO.v b.set/\aV.v b.lock)/\b=b):=Iff.rfl
 rw[e];simp only[jO,aV,oX,tH];simp[wL,and_assoc]
def Rm(g:Gr):Gr:=⟨bf (g.a.getD []),bf (g.b.getD [])⟩
theorem VA(g:Gr):uu.v g↔nU g=true/\Rm g=g:=by
 have e:uu.v g↔((lI.v (g.a.getD [])/\lI.v (g.b.getD []))/\Rm g=g):=Iff.rfl
 rw[e,J2,J2,nU,Bc g.a,Bc g.b,Bool.and_eq_true]
theorem Rp(l:List Gr):zR.v l↔(l.length:Int)<=4/\∀g∈l,nU g=true/\Rm g=g:=by
 unfold zR;rw[zO];simp only[VA,cF,oX];simp
theorem Nw(l:List fy):nv.v l↔(l.length:Int)<=16/\∀g∈l,g.Fw/\gF g=true:=by
 unfold nv;rw[zO];simp only[Rk,cF,oX];simp
theorem Rq(l:List Rl):rI.v l↔(l.length:Int)<=4/\∀g∈l,tG g=true:=by
 unfold rI;rw[zO];simp only[Vy,cF,oX];simp
theorem Rr(l:List Bs):pT.v l↔(l.length:Int)<=4/\∀g∈l,tH g=true:=by
 unfold pT;rw[zO];simp only[Vz,cF,oX];simp
theorem Hj(t:Tb):ot.v t↔(((t.phases.length=8/\∀p∈t.phases,rG p=true)/\zR.v (t.groups.getD [])/\(t.conflict.length=8/\∀n∈t.conflict,wI 255 n=true)/\
  nv.v (t.az.getD [])/\rI.v (t.aR.getD [])/\pT.v (t.aX.getD [])/\wI 9999 t.extend=true/\wI 9999 t.cU=true/\wI 9999 t.start=true/\wI 9999 t.revert=true/\wI 9999 t.least=true/\
  (t.bp.length=8/\∀n∈t.bp,wI 2 n=true)/\wI 2147483647 t.dw=true/\wI 2147483647 t.share=true)/\
  ({t with groups:=bf (t.groups.getD []),az:=bf (t.az.getD []),aR:=bf (t.aR.getD []),aX:=bf (t.aX.getD [])}:Tb)=t):=by
 have e:ot.v t↔(((sY.rep 8).v t.phases/\zR.v (t.groups.getD [])/\(jO.rep 8).v t.conflict/\nv.v (t.az.getD [])/\rI.v (t.aR.getD [])/\pT.v (t.aX.getD [])/\
  aV.v t.extend/\aV.v t.cU/\aV.v t.start/\aV.v t.revert/\aV.v t.least/\((cF 2 (by decide)).rep 8).v t.bp/\dM.v t.dw/\dM.v t.share)/\
  ({t with groups:=bf (t.groups.getD []),az:=bf (t.az.getD []),aR:=bf (t.aR.getD []),aX:=bf (t.aX.getD [])}:Tb)=t):=Iff.rfl
 rw[e];simp only[FV,Vx,wL];rfl
theorem J3{t:Tb} (h:ot.v t):t.Ln/\t.Fw/\oU t=true:=by
 rw[Hj,Rp,Nw,Rq,Rr]at h;obtain⟨⟨⟨h1,h2⟩,⟨h3,h4⟩,⟨h5,h6⟩,⟨h7,h8⟩,⟨h9,h10⟩,⟨h11,h12⟩,h13,h14,h15,h16,h17,⟨h18,h19⟩,h20,h21⟩,_⟩:=h
 refine⟨⟨h1,h5,h18⟩,fun d hd=>(h8 d hd).1,?_⟩
 simp only[oU,Bool.and_eq_true,List.all_eq_true,decide_eq_true_eq,List.mem_cons,List.not_mem_nil,or_false,forall_eq_or_imp,forall_eq]
 exact⟨⟨⟨⟨⟨⟨⟨⟨h2,h3,fun g hg=>(h4 g hg).1⟩,h6⟩,h7,fun d hd=>(h8 d hd).2⟩,h9,h10⟩,h11,h12⟩,h13,h14,h15,h16,h17⟩,h19⟩,h20,h21⟩
def zS.Spec(C:bw) (f:Nat):Prop:=∀x:Nat,C.c f [Fl x] (B (lvl x)) none
def rJ.Spec(C:bw) (f:Nat):Prop:=∀x:Nat,x<2^64->C.c f [Fl x] (B (eJ x)) none
section
variable{P:Program} (hm:P.follows .mixedOrders=true) {f:Nat}
include hm
theorem rJ.ok{fT fS:Nat} (hc:de P f=some (oS fT fS)) (hT:zo.Spec (Pure P) fT) (hS:Sj.Spec (Pure P) fS):rJ.Spec (Pure P) f:=by
 intro x hx
 have ht:=hT x hx
 rw[xN]at ht;rw[eJ]
 have hs:=hS x
 generalize GX x=b1 at*;generalize Nt x=b2 at*
 refine aB hm hc (by show 1<=16;decide) (ax (keep:=[]) (i:=0) ?_)
 try simp only[I,B,D,RX,↓KW,Nat.reduceBEq,Nat.reduceAdd,Nat.reduceLeDiff,Int.reduceNe,Int.reduceBEq,Int.reduceEq,reduceCtorEq,Nat.reduceMul,Int.reduceLT,Int.reduceLE,Int.reduceToNat,oS,Z.H]
 refine ai ht ?_;cases b1
 ·try simp only[I,B,D,RX,↓KW,Nat.reduceBEq,Nat.reduceAdd,Nat.reduceLeDiff,Int.reduceNe,Int.reduceBEq,Int.reduceEq,reduceCtorEq,Nat.reduceMul,Int.reduceLT,Int.reduceLE,Int.reduceToNat]
  rfl
 ·try simp only[I,B,D,RX,↓KW,Nat.reduceBEq,Nat.reduceAdd,Nat.reduceLeDiff,Int.reduceNe,Int.reduceBEq,Int.reduceEq,reduceCtorEq,Nat.reduceMul,Int.reduceLT,Int.reduceLE,Int.reduceToNat]
  refine ai hs ?_;try simp only[I,B,D,RX,↓KW,Nat.reduceBEq,Nat.reduceAdd,Nat.reduceLeDiff,Int.reduceNe,Int.reduceBEq,Int.reduceEq,reduceCtorEq,Nat.reduceMul,Int.reduceLT,Int.reduceLE,Int.reduceToNat]
  rfl
theorem zS.ok(hc:de P f=some rE):zS.Spec (Pure P) f:=by
 intro x
 refine aB hm hc (by show 1<=9;decide) (ax (keep:=[]) (i:=0) ?_)
 try simp only[I,B,D,RX,↓KW,Nat.reduceBEq,Nat.reduceAdd,Nat.reduceLeDiff,Int.reduceNe,Int.reduceBEq,Int.reduceEq,reduceCtorEq,Nat.reduceMul,Int.reduceLT,Int.reduceLE,Int.reduceToNat,rE,Z.H,Eb]
 rw[lvl];generalize Jj x 0=b1 at*;cases b1
 ·try simp only[I,B,D,RX,↓KW,Nat.reduceBEq,Nat.reduceAdd,Nat.reduceLeDiff,Int.reduceNe,Int.reduceBEq,Int.reduceEq,reduceCtorEq,Nat.reduceMul,Int.reduceLT,Int.reduceLE,Int.reduceToNat]
  rfl
 ·try simp only[I,B,D,RX,↓KW,Nat.reduceBEq,Nat.reduceAdd,Nat.reduceLeDiff,Int.reduceNe,Int.reduceBEq,Int.reduceEq,reduceCtorEq,Nat.reduceMul,Int.reduceLT,Int.reduceLE,Int.reduceToNat,Eb]
  rfl
end
section
open Z
def mI:List AV:=[.int .u16 0,.int .u16 0,.int .u16 0,.int .u16 0,.int .u16 0,.int .u16 0,.int .u16 0,.int .u16 0,.int .u16 0,.int .u16 0,.int .u16 0,.int .u16 0,.int .u16 0,.int .u16 0,.int .u16 0,.int .u16 0]
def rK(g0 g1:Nat):dc:=⟨37,[.tmp 0],r [V 0 (F)] (r [o 6 (.call g0 [k .bL]),M 5 6,o 7 (e 5 0),o 8 (e 5 1),o 1 (.alloc bG),o 2 (.alloc [i 0,i 0]),n (s 1 7 131),n (s 2 8 2)] (r [o 10 (.build bG []),o 11 (.call g1 [t 10]),M 9 11,o 12 (e 9 0),o 13 (e 9 1),M 3 12,M 4 13] (r [o 14 (f 2 0),o 15 (l 14),o 16 (bb .eql 15 (i 2)),M 17 16,p 18 (f 2 1) 17,p 19 (l 18) 17,p 20 (bb .eql 19 (i 0)) 17,o 21 (P 17 20),M 22 21,p 23 (m 4) 22,p 24 (bb .eql 23 (i 0)) 22,o 25 (P 22 24),M 26 25,p 27 (m 3) 26,p 28 (h 27) 26,p 29 (bb .gtr 28 (i 3)) 26,o 30 (P 26 29),M 31 30,p 32 (m 3) 31,p 33 (.CC (t 32) (k (i 0)) 1) 31,p 34 (l 33) 31,p 35 (bb .eql 34 (.int .u8 88)) 31,o 36 (P 31 35),M 0 36] y)))⟩
def fX(g0 g1 g2 g3 g4 g5 g6 g7:Nat):zx:=⟨47,[.cell 2 (some 131),.cell 3 (some 2)],.aT [⟨(some 2),.o (.alloc bG),none⟩,⟨(some 3),.o (.alloc [(.int .i64 0),(.int .i64 0)]),none⟩],g0,[(.t 2),(.t 3)],6,.join (.seq (.aT [⟨(some 7),.o (.mv (.t 0)),none⟩,⟨(some 8),.o (.uB (.t 7)),none⟩,⟨(some 9),.o (.bin .gtr (.t 8) (.k (.int .i64 2048))),none⟩]) (.cond (.t 9) (.aT [⟨(some 10),.o (.build [(.int .i64 0),(.int .i64 0)] [(0,1,(.k (.int .i64 1)))]),none⟩,⟨(some 11),.Hz g1 (.t 10),none⟩,⟨none,.Hy (.t 11),none⟩]) .skip)) (.seq (.aT [⟨(some 12),.o (.mv (.t 0)),none⟩,⟨(some 13),.call g2 [(.t 12)],none⟩,⟨(some 14),.Gc (.t 13),none⟩,⟨(some 4),.o (.alloc [.mh]),none⟩,⟨none,.RO (.t 4) (.t 14),none⟩]) (.join (.seq (.aT [⟨(some 15),.o (.jY (.t 4) (some 1)),none⟩,⟨(some 16),.aE g3 [(.t 15),(.k (.int .i64 3)),(.k (.int .i64 0)),(.k (.int .i64 16777215))],none⟩,⟨(some 17),.o (.bin .neq (.t 16) (.k (.int .i64 5784065))),none⟩]) (.cond (.t 17) (.aT [⟨(some 18),.o (.build [(.int .i64 0),(.int .i64 0)] [(0,1,(.k (.int .i64 3)))]),none⟩,⟨(some 19),.Hz g1 (.t 18),none⟩,⟨none,.Hy (.t 19),none⟩]) .skip)) (.seq (.aT [⟨(some 20),.o (.jY (.t 4) (some 1)),none⟩,⟨(some 21),.aE g4 [(.t 20)],none⟩,⟨none,.o (.st (.t 2) (.t 21) 131),none⟩]) (.seq (.aT [⟨(some 22),.o (.fa (.t 4) 0),none⟩,⟨(some 23),.o (.jY (.t 22) none),none⟩,⟨(some 24),.aE g5 [(.t 23)],none⟩,⟨(some 5),.o (.mv (.t 24)),none⟩]) (.join (.seq (.xJ [⟨(some 25),.jY (.t 4) (some 1),none⟩,⟨(some 26),.aE g3 [(.t 25),(.k (.int .i64 2)),(.k (.int .i64 0)),(.k (.int .i64 65535))],none⟩,⟨(some 27),.mv (.t 0),none⟩,⟨(some 28),.mv (.t 5),none⟩,⟨(some 29),.KS 1 (.t 27) none (some (.t 28)),none⟩,⟨(some 30),.call g6 [(.t 29)],none⟩,⟨(some 31),.j4 .i64 (.t 30),none⟩,⟨(some 32),.bin .neq (.t 26) (.t 31),none⟩] [] 1 [5,6,7]) (.cond (.t 32) (.aT [⟨(some 33),.o (.mv (.t 5)),none⟩,⟨(some 34),.o (.build [(.int .i64 0),(.int .i64 0)] [(0,1,(.k (.int .i64 5))),(1,1,(.t 33))]),none⟩,⟨(some 35),.Hz g1 (.t 34),none⟩,⟨none,.Hy (.t 35),none⟩]) .skip)) (.join (.seq (.aT [⟨(some 36),.o (.fa (.t 4) 0),none⟩,⟨(some 37),.o (.jY (.t 36) none),none⟩,⟨(some 38),.aE g7 [(.t 37)],none⟩,⟨(some 39),.o (.bin .gtr (.t 38) (.k (.int .i64 0))),none⟩]) (.cond (.t 39) (.aT [⟨(some 40),.o (.fa (.t 4) 0),none⟩,⟨(some 41),.o (.jY (.t 40) none),none⟩,⟨(some 42),.aE g5 [(.t 41)],none⟩,⟨(some 43),.o (.build [(.int .i64 0),(.int .i64 0)] [(0,1,(.k (.int .i64 6))),(1,1,(.t 42))]),none⟩,⟨(some 44),.Hz g1 (.t 43),none⟩,⟨none,.Hy (.t 44),none⟩]) .skip)) (.seq (.aT [⟨(some 45),.o (.ld (.t 2) (some 131)),none⟩,⟨(some 46),.o (.build [(.int .i64 0),(.int .i64 0)] []),none⟩,⟨none,.o (.st (.t 2) (.t 45) 131),none⟩,⟨none,.o (.st (.t 3) (.t 46) 2),none⟩]) .ret)))))))⟩
def gW(g0 g1 g2 g3:Nat):dc:=⟨82,[.cell 2 (some 131),.cell 3 (some 2)],r [o 2 (.alloc bG),o 3 (.alloc [i 0,i 0])] (j (r [M 8 0,o 9 (h 8),o 10 (bb .gtr 9 (i 2048))] (c 10 (r [o 11 (.build bG []),o 12 (.build [i 0,i 0] [(0,1,k (i 1))]),n (s 2 11 131),n (s 3 12 2)] y) z)) (j (r [M 13 0,o 14 (h 13),o 15 (bb .lss 14 (i 3))] (c 15 (r [o 16 (.build bG []),M 17 0,o 18 (h 17),o 19 (.build [i 0,i 0] [(0,1,k (i 2)),(1,1,t 18)]),n (s 2 16 131),n (s 3 19 2)] y) z)) (j (r [M 20 0,o 21 (.CC (t 20) (k (i 0)) 1),o 22 (l 21),o 23 (bb .neq 22 (.int .u8 88)),M 24 23,q 25 (m 0) 24,q 26 (.CC (t 25) (k (i 1)) 1) 24,q 27 (l 26) 24,q 28 (bb .neq 27 (.int .u8 66)) 24,o 29 (Q 24 28),M 30 29,q 31 (m 0) 30,q 32 (.CC (t 31) (k (i 2)) 1) 30,q 33 (l 32) 30,q 34 (bb .neq 33 (.int .u8 1)) 30,o 35 (Q 30 34)] (c 35 (r [o 36 (.build bG []),o 37 (.build [i 0,i 0] [(0,1,k (i 3))]),n (s 2 36 131),n (s 3 37 2)] y) z)) (r [M 38 0,o 39 (.build [.bL,i 0,i 0,i 0] [(0,1,t 38),(1,1,k (i 3))]),o 40 (w 39),M 4 40] (r [M 41 4,o 42 (.aE g0 [t 41]),o 5 (.alloc bG),n (s 5 42 131)] (r [M 43 4,o 44 (.nc (t 43)),o 45 (f 44 1),o 46 (l 45),M 6 46] (r [M 47 4,o 48 (.aE g1 [t 47,k (i 2),k (i 0),k (i 65535)]),M 7 48] (j (r [M 49 4,o 50 (.aE g2 [t 49]),o 51 (.un .not (t 50))] (c 51 (.seq (.sV [o 52 (.build bG []),M 53 4,o 54 (.nc (t 53)),o 55 (f 54 2),o 56 (L 55 2),n (s 2 52 131),n (s 3 56 2)] [(4,5)]) y) z)) (j (r [M 57 7,M 58 0,M 59 6,o 60 (.KS 1 (t 58) none (some (t 59))),o 61 (.call g3 [k (.int .u16 65535),t 60]),o 62 (.j4 .i64 (t 61)),o 63 (b .neq 57 62)] (c 63 (r [o 64 (.build bG []),M 65 6,o 66 (.build [i 0,i 0] [(0,1,k (i 5)),(1,1,t 65)]),n (s 2 64 131),n (s 3 66 2)] y) z)) (j (r [M 67 4,o 68 (.nc (t 67)),o 69 (f 68 1),o 70 (l 69),M 71 0,o 72 (h 71),o 73 (b .lss 70 72)] (c 73 (.seq (.sV [o 74 (.build bG []),M 75 4,o 76 (.nc (t 75)),o 77 (f 76 1),o 78 (l 77),o 79 (.build [i 0,i 0] [(0,1,k (i 6)),(1,1,t 78)]),n (s 2 74 131),n (s 3 79 2)] [(4,6)]) y) z)) (r [o 80 (L 5 131),o 81 (.build [i 0,i 0] []),n (s 2 80 131),n (s 3 81 2)] y)))))))))))⟩
def tI(g0 g1:Nat):dc:=⟨8,[.tmp 2],r [V 2 .bL] (r [M 3 0,M 4 0,o 5 (.call g0 [k (.int .u16 65535),t 4]),o 6 (.j4 .i64 (t 5)),o 7 (.call g1 [t 3,k (i 2),t 6]),M 2 7] y)⟩
def kz(g0 g1 g2 g3 g4 g5 g6 g7 g8:Nat):dc:=⟨236,[.tmp 2,.tmp 3],r [o 1 (w 0),V 2 .bL,V 3 (i 0)] (j (r [o 15 (L 1 131),o 16 (.call g0 [t 15]),o 17 (.un .not (t 16))] (c 17 (r [V 2 .bL,V 3 (i 4)] y) z)) (r [o 18 (.build [.bL] []),o 19 (w 18),M 4 19] (r [M 20 4,o 21 (.f9 g1 1 [k (i 5784065)]),o 22 (.aE g2 [t 20,k (i 3),t 21])] (j (r [o 23 (f 1 0),o 24 (L 23 104),V 25 (i 0)] (u 0 (.loop (r [o 26 (bb .lss 25 (i 8))] (j (c 26 z (.exit 0)) (j (u 1 (r [o 27 (.KY (t 24) (t 25) 8 13 (some 13)),o 6 (.alloc dh),n (s 6 27 13)] (r [M 28 4,o 29 (f 6 0),o 30 (l 29),o 31 (.f9 g3 1 [t 30]),o 32 (.aE g4 [t 28,t 31])] (r [M 33 4,o 34 (f 6 1),o 35 (l 34),o 36 (f 6 2),o 37 (l 36),o 38 (f 6 3),o 39 (l 38),o 40 (f 6 4),o 41 (l 40),o 42 (f 6 5),o 43 (l 42),o 44 (f 6 6),o 45 (l 44),o 46 (f 6 7),o 47 (l 46),o 48 (f 6 8),o 49 (l 48),o 50 (f 6 9),o 51 (l 50),o 52 (.f9 g1 1 [t 35,t 37,t 39,t 41,t 43,t 45,t 47,t 49,t 51]),o 53 (.aE g2 [t 33,k (i 2),t 52])] (r [M 54 4,o 55 (f 6 10),o 56 (l 55),o 57 (.f9 g1 1 [t 56]),o 58 (.aE g2 [t 54,k (i 1),t 57])] (R [M 59 4,o 60 (f 6 11),o 61 (l 60),o 62 (f 6 12),o 63 (l 62),o 64 (.f9 g3 1 [t 61,t 63]),o 65 (.aE g4 [t 59,t 64])])))))) (R [o 66 (bb .add 25 (i 1)),M 25 66]))))))) (r [M 67 4,o 68 (f 1 104),o 69 (l 68),o 70 (h 69),o 71 (.f9 g1 1 [t 70]),o 72 (.aE g2 [t 67,k (i 1),t 71])] (j (r [o 73 (f 1 104),o 74 (l 73),o 75 (h 74),V 76 (i 0)] (u 2 (.loop (r [o 77 (b .lss 76 75)] (j (c 77 z (.exit 2)) (j (u 3 (r [o 78 (a 74 76 2),o 79 (L 78 2),o 8 (.alloc [.bL,.bL]),n (s 8 79 2)] (r [M 80 4,o 81 (.Aw (t 8) (k (i 0)) 2 1),o 82 (l 81),o 83 (.aE g5 [t 80,t 82])] (R [M 84 4,o 85 (.Aw (t 8) (k (i 1)) 2 1),o 86 (l 85),o 87 (.aE g5 [t 84,t 86])])))) (R [o 88 (bb .add 76 (i 1)),M 76 88]))))))) (r [M 89 4,o 90 (f 1 105),o 91 (.Ed (t 90) 8 1),o 92 (.aE g2 [t 89,k (i 1),t 91])] (r [M 93 4,o 94 (f 1 113),o 95 (l 94),o 96 (h 95),o 97 (.f9 g1 1 [t 96]),o 98 (.aE g2 [t 93,k (i 1),t 97])] (j (r [o 99 (f 1 113),o 100 (l 99),o 101 (h 100),V 102 (i 0)] (u 4 (.loop (r [o 103 (b .lss 102 101)] (j (c 103 z (.exit 4)) (j (u 5 (r [o 104 (a 100 102 7),o 105 (L 104 7),o 10 (.alloc [i 0,.float .f64 0,.float .f64 0,.float .f64 0,.float .f64 0,i 0,i 0]),n (s 10 105 7)] (r [M 106 4,o 107 (f 10 0),o 108 (l 107),o 109 (.f9 g1 1 [t 108]),o 110 (.aE g2 [t 106,k (i 1),t 109])] (r [M 111 4,o 112 (f 10 1),o 113 (l 112),o 114 (f 10 2),o 115 (l 114),o 116 (f 10 3),o 117 (l 116),o 118 (f 10 4),o 119 (l 118),o 120 (.f9 g6 1 [t 113,t 115,t 117,t 119]),o 121 (.aE g7 [t 111,t 120])] (R [M 122 4,o 123 (f 10 5),o 124 (l 123),o 125 (f 10 6),o 126 (l 125),o 127 (.f9 g1 1 [t 124,t 126]),o 128 (.aE g2 [t 122,k (i 2),t 127])]))))) (R [o 129 (bb .add 102 (i 1)),M 102 129]))))))) (r [M 130 4,o 131 (f 1 114),o 132 (l 131),o 133 (h 132),o 134 (.f9 g1 1 [t 133]),o 135 (.aE g2 [t 130,k (i 1),t 134])] (j (r [o 136 (f 1 114),o 137 (l 136),o 138 (h 137),V 139 (i 0)] (u 6 (.loop (r [o 140 (b .lss 139 138)] (j (c 140 z (.exit 6)) (j (u 7 (r [o 141 (a 137 139 11),o 142 (L 141 11),o 12 (.alloc dG),n (s 12 142 11)] (r [M 143 4,o 144 (f 12 0),o 145 (l 144),o 146 (f 12 1),o 147 (l 146),o 148 (f 12 2),o 149 (l 148),o 150 (f 12 3),o 151 (l 150),o 152 (.f9 g1 1 [t 145,t 147,t 149,t 151]),o 153 (.aE g2 [t 143,k (i 1),t 152])] (r [M 154 4,o 155 (f 12 4),o 156 (l 155),o 157 (f 12 5),o 158 (l 157),o 159 (f 12 6),o 160 (l 159),o 161 (f 12 7),o 162 (l 161),o 163 (f 12 8),o 164 (l 163),o 165 (f 12 9),o 166 (l 165),o 167 (.f9 g1 1 [t 156,t 158,t 160,t 162,t 164,t 166]),o 168 (.aE g2 [t 154,k (i 2),t 167])] (R [M 169 4,o 170 (f 12 10),o 171 (l 170),o 172 (.f9 g1 1 [t 171]),o 173 (.aE g2 [t 169,k (i 4),t 172])]))))) (R [o 174 (bb .add 139 (i 1)),M 139 174]))))))) (r [M 175 4,o 176 (f 1 115),o 177 (l 176),o 178 (h 177),o 179 (.f9 g1 1 [t 178]),o 180 (.aE g2 [t 175,k (i 1),t 179])] (j (r [o 181 (f 1 115),o 182 (l 181),o 183 (h 182),V 184 (i 0)] (u 8 (.loop (r [o 185 (b .lss 184 183)] (j (c 185 z (.exit 8)) (j (u 9 (r [o 186 (a 182 184 2),o 187 (L 186 2),o 14 (.alloc [i 0,i 0]),n (s 14 187 2)] (r [M 188 4,o 189 (f 14 0),o 190 (l 189),o 191 (.f9 g1 1 [t 190]),o 192 (.aE g2 [t 188,k (i 1),t 191])] (R [M 193 4,o 194 (f 14 1),o 195 (l 194),o 196 (.f9 g1 1 [t 195]),o 197 (.aE g2 [t 193,k (i 2),t 196])])))) (R [o 198 (bb .add 184 (i 1)),M 184 198]))))))) (r [M 199 4,o 200 (f 1 116),o 201 (l 200),o 202 (f 1 117),o 203 (l 202),o 204 (f 1 118),o 205 (l 204),o 206 (f 1 119),o 207 (l 206),o 208 (f 1 120),o 209 (l 208),o 210 (.f9 g1 1 [t 201,t 203,t 205,t 207,t 209]),o 211 (.aE g2 [t 199,k (i 2),t 210])] (r [M 212 4,o 213 (f 1 121),o 214 (.Ed (t 213) 8 1),o 215 (.aE g2 [t 212,k (i 1),t 214])] (r [M 216 4,o 217 (f 1 129),o 218 (l 217),o 219 (f 1 130),o 220 (l 219),o 221 (.f9 g1 1 [t 218,t 220]),o 222 (.aE g2 [t 216,k (i 4),t 221])] (r [M 223 4,M 224 4,o 225 (.nc (t 224)),o 226 (f 225 0),o 227 (l 226),o 228 (.call g8 [t 227]),o 229 (.j4 .i64 (t 228)),o 230 (.f9 g1 1 [t 229]),o 231 (.aE g2 [t 223,k (i 2),t 230])] (r [M 232 4,o 233 (.nc (t 232)),o 234 (f 233 0),o 235 (l 234),M 2 235,V 3 (i 0)] y))))))))))))))))))⟩
def og(g0 g1 g2 g3 g4 g5:Nat):dc:=⟨234,[.tmp 2],r [o 1 (w 0),V 2 .bL] (r [o 13 (.f9 g0 1 [k (.int .u8 88),k (.int .u8 66),k (.int .u8 1)]),M 3 13] (j (r [V 4 (i 0)] (u 0 (.loop (j (r [M 14 4,o 15 (bb .lss 14 (i 8))] (c 15 z (.exit 0))) (j (u 1 (r [M 18 4,o 19 (f 1 0),o 20 (A 19 18 8 13),o 21 (L 20 13),o 5 (.alloc dh),n (s 5 21 13)] (r [M 22 3,o 23 (f 5 0),o 24 (l 23),o 25 (.call g1 [t 24]),o 26 (.call g2 [t 22,k (i 1),t 25]),M 3 26] (r [M 27 3,o 28 (f 5 1),o 29 (l 28),o 30 (f 5 2),o 31 (l 30),o 32 (f 5 3),o 33 (l 32),o 34 (f 5 4),o 35 (l 34),o 36 (f 5 5),o 37 (l 36),o 38 (f 5 6),o 39 (l 38),o 40 (f 5 7),o 41 (l 40),o 42 (f 5 8),o 43 (l 42),o 44 (f 5 9),o 45 (l 44),o 46 (.f9 g3 1 [t 29,t 31,t 33,t 35,t 37,t 39,t 41,t 43,t 45]),o 47 (.call g4 [t 27,k (i 2),t 46]),M 3 47] (R [M 48 3,o 49 (f 5 10),o 50 (l 49),o 51 (f 5 11),o 52 (l 51),o 53 (.call g1 [t 52]),o 54 (f 5 12),o 55 (l 54),o 56 (.call g1 [t 55]),o 57 (.f9 g3 1 [t 50,t 53,t 56]),o 58 (.call g4 [t 48,k (i 1),t 57]),M 3 58]))))) (R [M 16 4,o 17 (bb .add 16 (i 1)),M 4 17])))))) (r [M 59 3,o 60 (f 1 104),o 61 (l 60),o 62 (h 61),o 63 (.call g2 [t 59,k (i 1),t 62]),M 3 63] (j (r [V 6 (i 0)] (u 2 (.loop (j (r [M 64 6,o 65 (f 1 104),o 66 (l 65),o 67 (h 66),o 68 (b .lss 64 67)] (c 68 z (.exit 2))) (j (u 3 (r [V 7 (i 0)] (u 4 (.loop (j (r [M 71 7,o 72 (bb .lss 71 (i 2))] (c 72 z (.exit 4))) (j (u 5 (R [M 75 3,o 76 (f 1 104),o 77 (l 76),M 78 6,M 79 7,o 80 (a 77 78 2),o 81 (A 80 79 2 1),o 82 (l 81),o 83 (h 82),o 84 (.call g2 [t 75,k (i 1),t 83]),o 85 (f 1 104),o 86 (l 85),M 87 6,M 88 7,o 89 (a 86 87 2),o 90 (A 89 88 2 1),o 91 (l 90),o 92 (.call g4 [t 84,k (i 1),t 91]),M 3 92])) (R [M 73 7,o 74 (bb .add 73 (i 1)),M 7 74]))))))) (R [M 69 6,o 70 (bb .add 69 (i 1)),M 6 70])))))) (.seq (.sV [M 93 3,o 94 (f 1 105),o 95 (.Ed (t 94) 8 1),o 96 (.call g4 [t 93,k (i 1),t 95]),o 97 (f 1 113),o 98 (l 97),o 99 (h 98),o 100 (.call g2 [t 96,k (i 1),t 99]),M 3 100] [(0,2),(2,4),(2,5),(2,6)]) (j (r [V 8 (i 0)] (u 6 (.loop (j (r [M 101 8,o 102 (f 1 113),o 103 (l 102),o 104 (h 103),o 105 (b .lss 101 104)] (c 105 z (.exit 6))) (j (u 7 (r [o 108 (f 1 113),o 109 (l 108),M 110 8,o 111 (a 109 110 7),o 112 (L 111 7),o 9 (.alloc [i 0,.float .f64 0,.float .f64 0,.float .f64 0,.float .f64 0,i 0,i 0]),n (s 9 112 7)] (r [M 113 3,o 114 (f 9 0),o 115 (l 114),o 116 (.call g2 [t 113,k (i 1),t 115]),o 117 (f 9 1),o 118 (l 117),o 119 (.call g5 [t 116,t 118]),o 120 (f 9 2),o 121 (l 120),o 122 (.call g5 [t 119,t 121]),o 123 (f 9 3),o 124 (l 123),o 125 (.call g5 [t 122,t 124]),o 126 (f 9 4),o 127 (l 126),o 128 (.call g5 [t 125,t 127]),M 3 128] (R [M 129 3,o 130 (f 9 5),o 131 (l 130),o 132 (f 9 6),o 133 (l 132),o 134 (.f9 g3 1 [t 131,t 133]),o 135 (.call g4 [t 129,k (i 2),t 134]),M 3 135])))) (R [M 106 8,o 107 (bb .add 106 (i 1)),M 8 107])))))) (r [M 136 3,o 137 (f 1 114),o 138 (l 137),o 139 (h 138),o 140 (.call g2 [t 136,k (i 1),t 139]),M 3 140] (j (r [V 10 (i 0)] (u 8 (.loop (j (r [M 141 10,o 142 (f 1 114),o 143 (l 142),o 144 (h 143),o 145 (b .lss 141 144)] (c 145 z (.exit 8))) (j (u 9 (r [o 148 (f 1 114),o 149 (l 148),M 150 10,o 151 (a 149 150 11),o 152 (L 151 11),o 11 (.alloc dG),n (s 11 152 11)] (r [M 153 3,o 154 (f 11 0),o 155 (l 154),o 156 (f 11 1),o 157 (l 156),o 158 (f 11 2),o 159 (l 158),o 160 (f 11 3),o 161 (l 160),o 162 (.f9 g3 1 [t 155,t 157,t 159,t 161]),o 163 (.call g4 [t 153,k (i 1),t 162]),M 3 163] (r [M 164 3,o 165 (f 11 4),o 166 (l 165),o 167 (f 11 5),o 168 (l 167),o 169 (f 11 6),o 170 (l 169),o 171 (f 11 7),o 172 (l 171),o 173 (f 11 8),o 174 (l 173),o 175 (f 11 9),o 176 (l 175),o 177 (.f9 g3 1 [t 166,t 168,t 170,t 172,t 174,t 176]),o 178 (.call g4 [t 164,k (i 2),t 177]),M 3 178] (R [M 179 3,o 180 (f 11 10),o 181 (l 180),o 182 (.call g2 [t 179,k (i 4),t 181]),M 3 182]))))) (R [M 146 10,o 147 (bb .add 146 (i 1)),M 10 147])))))) (r [M 183 3,o 184 (f 1 115),o 185 (l 184),o 186 (h 185),o 187 (.call g2 [t 183,k (i 1),t 186]),M 3 187] (j (r [V 12 (i 0)] (u 10 (.loop (j (r [M 188 12,o 189 (f 1 115),o 190 (l 189),o 191 (h 190),o 192 (b .lss 188 191)] (c 192 z (.exit 10))) (j (u 11 (R [M 195 3,o 196 (f 1 115),o 197 (l 196),M 198 12,o 199 (a 197 198 2),o 200 (f 199 0),o 201 (l 200),o 202 (.call g2 [t 195,k (i 1),t 201]),o 203 (f 1 115),o 204 (l 203),M 205 12,o 206 (a 204 205 2),o 207 (f 206 1),o 208 (l 207),o 209 (.call g2 [t 202,k (i 2),t 208]),M 3 209])) (R [M 193 12,o 194 (bb .add 193 (i 1)),M 12 194])))))) (r [M 210 3,o 211 (f 1 116),o 212 (l 211),o 213 (f 1 117),o 214 (l 213),o 215 (f 1 118),o 216 (l 215),o 217 (f 1 119),o 218 (l 217),o 219 (f 1 120),o 220 (l 219),o 221 (.f9 g3 1 [t 212,t 214,t 216,t 218,t 220]),o 222 (.call g4 [t 210,k (i 2),t 221]),M 3 222] (r [M 223 3,o 224 (f 1 121),o 225 (.Ed (t 224) 8 1),o 226 (.call g4 [t 223,k (i 1),t 225]),M 3 226] (r [M 227 3,o 228 (f 1 129),o 229 (l 228),o 230 (f 1 130),o 231 (l 230),o 232 (.f9 g3 1 [t 229,t 231]),o 233 (.call g4 [t 227,k (i 4),t 232]),M 2 233] y)))))))))))))⟩
def kQ(g0:Nat):G2:=⟨12,5,[⟨(some 6),.NO g0 (.agg [(.int .i64 0),(.int .i64 0)]) (.t 5),none⟩,⟨(some 4),.o (.mv (.t 6)),none⟩,⟨(some 7),.o (.ext (.t 4) 0),none⟩,⟨(some 8),.o (.ext (.t 4) 1),none⟩,⟨(some 2),.o (.alloc [(.int .i64 0),(.int .i64 0)]),none⟩,⟨none,.o (.st (.t 2) (.t 7) 2),none⟩,⟨(some 3),.o (.mv (.t 8)),none⟩],.seq (.aT [⟨(some 9),.o (.mv (.t 3)),none⟩]) (.cond (.t 9) (.sV [⟨(some 10),.build bG [],none⟩,⟨(some 11),.ld (.t 2) (some 2),none⟩,⟨none,.st (.t 0) (.t 10) 131,none⟩,⟨none,.st (.t 1) (.t 11) 2,none⟩] [(1,2)]) .skip)⟩
def jk(g0 g1:Nat):dc:=⟨19,[.tmp 8],.seq (.aT [⟨(some 4),.sU (.t 0),none⟩,⟨(some 8),.o (.mv (.k (.int .i64 0))),none⟩]) (.seq (.aT [⟨(some 10),.o (.fa (.t 4) 0),none⟩,⟨(some 11),.o (.jY (.t 10) none),none⟩,⟨(some 12),.o (.mv (.t 1)),none⟩,⟨(some 13),.o (.mv (.t 2)),none⟩,⟨(some 14),.o (.mv (.t 3)),none⟩,⟨(some 15),.aE g0 [(.t 11),(.t 12),(.t 13),(.t 14)],none⟩,⟨(some 9),.o (.mv (.t 15)),none⟩]) (.seq (.aT [⟨(some 16),.o (.jY (.t 4) (some 1)),none⟩,⟨(some 17),.aE g1 [(.t 16)],none⟩]) (.seq (.aT [⟨(some 18),.o (.mv (.t 9)),none⟩,⟨(some 8),.o (.mv (.t 18)),none⟩]) .ret)))⟩
def ew(g0 g1 g2 g3 g4 g5 g6 g7 g8 g9 g10:Nat):dc:=⟨118,[.cell 2 (some 131)],.seq (.aT [⟨(some 1),.sU (.t 0),none⟩,⟨(some 2),.o (.alloc bG),none⟩]) (.seq (.aT [⟨(some 3),.o (.alloc bG),none⟩]) (.join (.seq (.aT [⟨(some 11),.o (.mv (.k (.int .i64 0))),none⟩]) (.block 0 (.loop (.seq (.aT [⟨(some 12),.o (.bin .lss (.t 11) (.k (.int .i64 8))),none⟩]) (.join (.cond (.t 12) .skip (.exit 0)) (.join (.block 1 (.seq (.aT [⟨(some 13),.o (.mv (.t 11)),none⟩,⟨(some 4),.o (.mv (.t 13)),none⟩]) (.aT [⟨(some 14),.o (.mv (.t 4)),none⟩,⟨(some 15),.o (.jY (.t 1) (some 1)),none⟩,⟨(some 16),.aE g0 [(.t 15)],none⟩,⟨(some 17),.o (.fa (.t 3) 0),none⟩,⟨(some 18),.o (.Aw (.t 17) (.t 14) 8 13),none⟩,⟨none,.o (.st (.t 18) (.t 16) 13),none⟩]))) (.aT [⟨(some 19),.o (.bin .add (.t 11) (.k (.int .i64 1))),none⟩,⟨(some 11),.o (.mv (.t 19)),none⟩]))))))) (.join (.seq (.aT [⟨(some 20),.o (.jY (.t 1) (some 1)),none⟩,⟨(some 21),.aE g1 [(.t 20),(.k (.int .i64 1)),(.k (.int .i64 0)),(.k (.int .i64 4))],none⟩,⟨(some 22),.o (.mv (.k (.int .i64 0))),none⟩]) (.block 2 (.loop (.seq (.aT [⟨(some 23),.o (.bin .lss (.t 22) (.t 21)),none⟩]) (.join (.cond (.t 23) .skip (.exit 2)) (.join (.block 3 (.seq (.aT [⟨(some 24),.o (.jY (.t 1) (some 1)),none⟩,⟨(some 25),.aE g2 [(.t 24)],none⟩,⟨(some 5),.o (.mv (.t 25)),none⟩]) (.xJ [⟨(some 26),.fa (.t 3) 104,none⟩,⟨(some 27),.ld (.t 26) none,none⟩,⟨(some 28),.mv (.t 5),none⟩,⟨(some 29),.jY (.t 1) (some 1),none⟩,⟨(some 30),.aE g2 [(.t 29)],none⟩,⟨(some 31),.build [.bL,.bL] [(0,1,(.t 28)),(1,1,(.t 30))],none⟩,⟨(some 32),.f9 g3 2 [(.t 31)],none⟩,⟨(some 33),.app g3 2 48 (.t 27) (.t 32),none⟩,⟨(some 34),.fa (.t 3) 104,none⟩,⟨none,.st (.t 34) (.t 33) 1,none⟩] [(1,4)] 4 [5,6,7,8,9]))) (.aT [⟨(some 35),.o (.bin .add (.t 22) (.k (.int .i64 1))),none⟩,⟨(some 22),.o (.mv (.t 35)),none⟩]))))))) (.join (.seq (.aT [⟨(some 36),.o (.mv (.k (.int .i64 0))),none⟩]) (.block 4 (.loop (.seq (.aT [⟨(some 37),.o (.bin .lss (.t 36) (.k (.int .i64 8))),none⟩]) (.join (.cond (.t 37) .skip (.exit 4)) (.join (.block 5 (.seq (.aT [⟨(some 38),.o (.mv (.t 36)),none⟩,⟨(some 6),.o (.mv (.t 38)),none⟩]) (.aT [⟨(some 39),.o (.mv (.t 6)),none⟩,⟨(some 40),.o (.jY (.t 1) (some 1)),none⟩,⟨(some 41),.aE g4 [(.t 40)],none⟩,⟨(some 42),.o (.fa (.t 3) 105),none⟩,⟨(some 43),.o (.Aw (.t 42) (.t 39) 8 1),none⟩,⟨none,.o (.st (.t 43) (.t 41) 1),none⟩]))) (.aT [⟨(some 44),.o (.bin .add (.t 36) (.k (.int .i64 1))),none⟩,⟨(some 36),.o (.mv (.t 44)),none⟩]))))))) (.join (.seq (.aT [⟨(some 45),.o (.jY (.t 1) (some 1)),none⟩,⟨(some 46),.aE g1 [(.t 45),(.k (.int .i64 1)),(.k (.int .i64 0)),(.k (.int .i64 16))],none⟩,⟨(some 47),.o (.mv (.k (.int .i64 0))),none⟩]) (.block 6 (.loop (.seq (.aT [⟨(some 48),.o (.bin .lss (.t 47) (.t 46)),none⟩]) (.join (.cond (.t 48) .skip (.exit 6)) (.join (.block 7 (.xJ [⟨(some 49),.fa (.t 3) 113,none⟩,⟨(some 50),.ld (.t 49) none,none⟩,⟨(some 51),.jY (.t 1) (some 1),none⟩,⟨(some 52),.aE g5 [(.t 51)],none⟩,⟨(some 53),.f9 g6 7 [(.t 52)],none⟩,⟨(some 54),.app g6 7 56 (.t 50) (.t 53),none⟩,⟨(some 55),.fa (.t 3) 113,none⟩,⟨none,.st (.t 55) (.t 54) 1,none⟩] [(1,3)] 3 [4,5,6,7])) (.aT [⟨(some 56),.o (.bin .add (.t 47) (.k (.int .i64 1))),none⟩,⟨(some 47),.o (.mv (.t 56)),none⟩]))))))) (.join (.seq (.aT [⟨(some 57),.o (.jY (.t 1) (some 1)),none⟩,⟨(some 58),.aE g1 [(.t 57),(.k (.int .i64 1)),(.k (.int .i64 0)),(.k (.int .i64 4))],none⟩,⟨(some 59),.o (.mv (.k (.int .i64 0))),none⟩]) (.block 8 (.loop (.seq (.aT [⟨(some 60),.o (.bin .lss (.t 59) (.t 58)),none⟩]) (.join (.cond (.t 60) .skip (.exit 8)) (.join (.block 9 (.xJ [⟨(some 61),.fa (.t 3) 114,none⟩,⟨(some 62),.ld (.t 61) none,none⟩,⟨(some 63),.jY (.t 1) (some 1),none⟩,⟨(some 64),.aE g7 [(.t 63)],none⟩,⟨(some 65),.f9 g8 11 [(.t 64)],none⟩,⟨(some 66),.app g8 11 88 (.t 62) (.t 65),none⟩,⟨(some 67),.fa (.t 3) 114,none⟩,⟨none,.st (.t 67) (.t 66) 1,none⟩] [(1,3)] 3 [4,5,6,7])) (.aT [⟨(some 68),.o (.bin .add (.t 59) (.k (.int .i64 1))),none⟩,⟨(some 59),.o (.mv (.t 68)),none⟩]))))))) (.join (.seq (.aT [⟨(some 69),.o (.jY (.t 1) (some 1)),none⟩,⟨(some 70),.aE g1 [(.t 69),(.k (.int .i64 1)),(.k (.int .i64 0)),(.k (.int .i64 4))],none⟩,⟨(some 71),.o (.mv (.k (.int .i64 0))),none⟩]) (.block 10 (.loop (.seq (.aT [⟨(some 72),.o (.bin .lss (.t 71) (.t 70)),none⟩]) (.join (.cond (.t 72) .skip (.exit 10)) (.join (.block 11 (.seq (.aT [⟨(some 73),.o (.jY (.t 1) (some 1)),none⟩,⟨(some 74),.aE g4 [(.t 73)],none⟩,⟨(some 75),.o (.build [(.int .i64 0),(.int .i64 0)] [(0,1,(.t 74))]),none⟩,⟨(some 7),.o (.alloc [(.int .i64 0),(.int .i64 0)]),none⟩,⟨none,.o (.st (.t 7) (.t 75) 2),none⟩]) (.seq (.aT [⟨(some 76),.o (.jY (.t 1) (some 1)),none⟩,⟨(some 77),.aE g9 [(.t 76)],none⟩,⟨(some 78),.o (.fa (.t 7) 1),none⟩,⟨none,.o (.st (.t 78) (.t 77) 1),none⟩]) (.aT [⟨(some 79),.o (.fa (.t 3) 115),none⟩,⟨(some 80),.o (.ld (.t 79) none),none⟩,⟨(some 81),.o (.ld (.t 7) (some 2)),none⟩,⟨(some 82),.o (.f9 g10 2 [(.t 81)]),none⟩,⟨(some 83),.o (.app g10 2 16 (.t 80) (.t 82)),none⟩,⟨(some 84),.o (.fa (.t 3) 115),none⟩,⟨none,.o (.st (.t 84) (.t 83) 1),none⟩])))) (.aT [⟨(some 85),.o (.bin .add (.t 71) (.k (.int .i64 1))),none⟩,⟨(some 71),.o (.mv (.t 85)),none⟩]))))))) (.join (.seq (.aT [⟨(some 86),.o (.fa (.t 3) 116),none⟩,⟨(some 87),.o (.fa (.t 3) 117),none⟩,⟨(some 88),.o (.fa (.t 3) 118),none⟩,⟨(some 89),.o (.fa (.t 3) 119),none⟩,⟨(some 90),.o (.fa (.t 3) 120),none⟩,⟨(some 91),.Bu [(.t 86),(.t 87),(.t 88),(.t 89),(.t 90)],none⟩,⟨(some 92),.K0 (.t 91),none⟩,⟨(some 93),.o (.mv (.k (.int .i64 0))),none⟩]) (.block 12 (.loop (.seq (.aT [⟨(some 94),.o (.bin .lss (.t 93) (.t 92)),none⟩]) (.join (.cond (.t 94) .skip (.exit 12)) (.join (.block 13 (.seq (.aT [⟨(some 95),.KZ (.t 91) (.t 93),none⟩,⟨(some 96),.o (.jY (.t 95) none),none⟩,⟨(some 9),.o (.mv (.t 96)),none⟩]) (.aT [⟨(some 97),.o (.mv (.t 9)),none⟩,⟨(some 98),.o (.jY (.t 1) (some 1)),none⟩,⟨(some 99),.aE g9 [(.t 98)],none⟩,⟨(some 100),.o (.nc (.t 97)),none⟩,⟨none,.o (.st (.t 100) (.t 99) 1),none⟩]))) (.aT [⟨(some 101),.o (.bin .add (.t 93) (.k (.int .i64 1))),none⟩,⟨(some 93),.o (.mv (.t 101)),none⟩]))))))) (.join (.seq (.aT [⟨(some 102),.o (.mv (.k (.int .i64 0))),none⟩]) (.block 14 (.loop (.seq (.aT [⟨(some 103),.o (.bin .lss (.t 102) (.k (.int .i64 8))),none⟩]) (.join (.cond (.t 103) .skip (.exit 14)) (.join (.block 15 (.seq (.aT [⟨(some 104),.o (.mv (.t 102)),none⟩,⟨(some 10),.o (.mv (.t 104)),none⟩]) (.aT [⟨(some 105),.o (.mv (.t 10)),none⟩,⟨(some 106),.o (.jY (.t 1) (some 1)),none⟩,⟨(some 107),.aE g1 [(.t 106),(.k (.int .i64 1)),(.k (.int .i64 0)),(.k (.int .i64 2))],none⟩,⟨(some 108),.o (.fa (.t 3) 121),none⟩,⟨(some 109),.o (.Aw (.t 108) (.t 105) 8 1),none⟩,⟨none,.o (.st (.t 109) (.t 107) 1),none⟩]))) (.aT [⟨(some 110),.o (.bin .add (.t 102) (.k (.int .i64 1))),none⟩,⟨(some 102),.o (.mv (.t 110)),none⟩]))))))) (.seq (.aT [⟨(some 111),.o (.jY (.t 1) (some 1)),none⟩,⟨(some 112),.aE g1 [(.t 111),(.k (.int .i64 4)),(.k (.int .i64 0)),(.k (.int .i64 2147483647))],none⟩,⟨(some 113),.o (.fa (.t 3) 129),none⟩,⟨none,.o (.st (.t 113) (.t 112) 1),none⟩]) (.seq (.aT [⟨(some 114),.o (.jY (.t 1) (some 1)),none⟩,⟨(some 115),.aE g1 [(.t 114),(.k (.int .i64 4)),(.k (.int .i64 0)),(.k (.int .i64 2147483647))],none⟩,⟨(some 116),.o (.fa (.t 3) 130),none⟩,⟨none,.o (.st (.t 116) (.t 115) 1),none⟩]) (.seq (.aT [⟨(some 117),.o (.ld (.t 3) (some 131)),none⟩,⟨none,.o (.st (.t 2) (.t 117) 131),none⟩]) .ret))))))))))))⟩
def Bd(g0:Nat):dc:=⟨5,[.tmp 2],r [V 2 (.int .u16 0)] (r [M 3 0,o 4 (.call g0 [k (.int .u16 65535),t 3]),M 2 4] y)⟩
def gZ(g0 g1 g2 g3 g4 g5 g6 g7 g8 g9:Nat):dc:=⟨130,[.cell 2 (some 131)],r [o 2 (.alloc bG)] (r [o 3 (.alloc bG)] (j (r [V 4 (i 0)] (u 0 (.loop (j (r [M 15 4,o 16 (bb .lss 15 (i 8))] (c 16 z (.exit 0))) (j (u 1 (R [M 19 4,M 20 0,o 21 (.aE g0 [t 20]),o 22 (f 3 0),o 23 (A 22 19 8 13),n (s 23 21 13)])) (R [M 17 4,o 18 (bb .add 17 (i 1)),M 4 18])))))) (r [M 24 0,o 25 (.aE g1 [t 24,k (i 1),k (i 0),k (i 4)]),M 5 25] (j (r [V 6 (i 0)] (u 2 (.loop (j (r [M 26 6,M 27 5,o 28 (b .lss 26 27)] (c 28 z (.exit 2))) (j (u 3 (r [M 31 0,o 32 (.aE g2 [t 31]),M 7 32] (r [M 33 0,o 34 (.aE g2 [t 33]),M 8 34] (R [o 35 (f 3 104),o 36 (l 35),M 37 7,M 38 8,o 39 (.build [.bL,.bL] [(0,1,t 37),(1,1,t 38)]),o 40 (.f9 g3 2 [t 39]),o 41 (.app g3 2 48 (t 36) (t 40)),o 42 (f 3 104),n (s 42 41 1)])))) (R [M 29 6,o 30 (bb .add 29 (i 1)),M 6 30])))))) (j (r [V 9 (i 0)] (u 4 (.loop (j (r [M 43 9,o 44 (bb .lss 43 (i 8))] (c 44 z (.exit 4))) (j (u 5 (R [M 47 9,M 48 0,o 49 (.aE g1 [t 48,k (i 1),k (i 0),k (i 255)]),o 50 (f 3 105),o 51 (A 50 47 8 1),n (s 51 49 1)])) (R [M 45 9,o 46 (bb .add 45 (i 1)),M 9 46])))))) (r [M 52 0,o 53 (.aE g1 [t 52,k (i 1),k (i 0),k (i 16)]),M 5 53] (j (r [V 10 (i 0)] (u 6 (.loop (j (r [M 54 10,M 55 5,o 56 (b .lss 54 55)] (c 56 z (.exit 6))) (j (u 7 (.sV [o 59 (f 3 113),o 60 (l 59),M 61 0,o 62 (.aE g4 [t 61]),o 63 (.f9 g5 7 [t 62]),o 64 (.app g5 7 56 (t 60) (t 63)),o 65 (f 3 113),n (s 65 64 1)] [(1,3)])) (R [M 57 10,o 58 (bb .add 57 (i 1)),M 10 58])))))) (r [M 66 0,o 67 (.aE g1 [t 66,k (i 1),k (i 0),k (i 4)]),M 5 67] (j (r [V 11 (i 0)] (u 8 (.loop (j (r [M 68 11,M 69 5,o 70 (b .lss 68 69)] (c 70 z (.exit 8))) (j (u 9 (.sV [o 73 (f 3 114),o 74 (l 73),M 75 0,o 76 (.aE g6 [t 75]),o 77 (.f9 g7 11 [t 76]),o 78 (.app g7 11 88 (t 74) (t 77)),o 79 (f 3 114),n (s 79 78 1)] [(1,3)])) (R [M 71 11,o 72 (bb .add 71 (i 1)),M 11 72])))))) (r [M 80 0,o 81 (.aE g1 [t 80,k (i 1),k (i 0),k (i 4)]),M 5 81] (j (r [V 12 (i 0)] (u 10 (.loop (j (r [M 82 12,M 83 5,o 84 (b .lss 82 83)] (c 84 z (.exit 10))) (j (u 11 (r [o 13 (.alloc [i 0,i 0])] (r [M 87 0,o 88 (.aE g1 [t 87,k (i 1),k (i 0),k (i 255)]),o 89 (f 13 0),n (s 89 88 1)] (r [M 90 0,o 91 (.aE g8 [t 90]),o 92 (f 13 1),n (s 92 91 1)] (R [o 93 (f 3 115),o 94 (l 93),o 95 (L 13 2),o 96 (.f9 g9 2 [t 95]),o 97 (.app g9 2 16 (t 94) (t 96)),o 98 (f 3 115),n (s 98 97 1)]))))) (R [M 85 12,o 86 (bb .add 85 (i 1)),M 12 86])))))) (r [M 99 0,o 100 (.aE g8 [t 99]),o 101 (f 3 116),n (s 101 100 1)] (r [M 102 0,o 103 (.aE g8 [t 102]),o 104 (f 3 117),n (s 104 103 1)] (r [M 105 0,o 106 (.aE g8 [t 105]),o 107 (f 3 118),n (s 107 106 1)] (r [M 108 0,o 109 (.aE g8 [t 108]),o 110 (f 3 119),n (s 110 109 1)] (r [M 111 0,o 112 (.aE g8 [t 111]),o 113 (f 3 120),n (s 113 112 1)] (j (r [V 14 (i 0)] (u 12 (.loop (j (r [M 114 14,o 115 (bb .lss 114 (i 8))] (c 115 z (.exit 12))) (j (u 13 (R [M 118 14,M 119 0,o 120 (.aE g1 [t 119,k (i 1),k (i 0),k (i 2)]),o 121 (f 3 121),o 122 (A 121 118 8 1),n (s 122 120 1)])) (R [M 116 14,o 117 (bb .add 116 (i 1)),M 14 117])))))) (r [M 123 0,o 124 (.aE g1 [t 123,k (i 4),k (i 0),k (i 2147483647)]),o 125 (f 3 129),n (s 125 124 1)] (r [M 126 0,o 127 (.aE g1 [t 126,k (i 4),k (i 0),k (i 2147483647)]),o 128 (f 3 130),n (s 128 127 1)] (r [o 129 (L 3 131),n (s 2 129 131)] y))))))))))))))))))))⟩
def vF:dc:=⟨36,[.tmp 4],r [V 4 (.int .u16 0)] (j (r [V 5 (i 0)] (u 0 (.loop (j (r [M 8 5,M 9 1,o 10 (h 9),o 11 (b .lss 8 10)] (c 11 z (.exit 0))) (j (u 1 (r [V 6 (i 7)] (u 2 (.loop (j (r [M 14 6,o 15 (bb .geq 14 (i 0))] (c 15 z (.exit 2))) (j (u 3 (r [M 18 0,o 19 (bb .shr 18 (.int .u64 15)),M 20 1,M 21 5,o 22 (a 20 21 1),o 23 (l 22),M 24 6,o 25 (.j4 .u64 (t 24)),o 26 (b .shr 23 25),o 27 (bb .and 26 (.int .u8 1)),o 28 (.j4 .u16 (t 27)),o 29 (b .neq 19 28),M 7 29] (r [M 30 0,o 31 (bb .shl 30 (.int .u64 1)),M 0 31] (r [M 32 7] (c 32 (R [M 33 0,o 34 (bb .xor 33 (.int .u16 4129)),M 0 34]) z))))) (R [M 16 6,o 17 (bb .sub 16 (i 1)),M 6 17]))))))) (R [M 12 5,o 13 (bb .add 12 (i 1)),M 5 13])))))) (r [M 35 0,M 4 35] y))⟩
def mc(g0:Nat):dc:=⟨25,[],r [M 8 2,o 9 (h 8),V 10 (i 0)] (u 0 (.loop (r [o 11 (b .lss 10 9)] (j (c 11 z (.exit 0)) (j (u 1 (r [o 12 (a 8 10 1),o 13 (l 12),M 7 13] (R [M 14 0,M 15 0,o 16 (.nc (t 15)),o 17 (f 16 0),o 18 (l 17),M 19 1,M 20 7,o 21 (.call g0 [t 18,t 19,t 20]),o 22 (.nc (t 14)),o 23 (f 22 0),n (s 23 21 1)]))) (R [o 24 (bb .add 10 (i 1)),M 10 24]))))))⟩
def jP(g0 g1:Nat):dc:=⟨19,[],r [M 7 1,o 8 (h 7),V 9 (i 0)] (u 0 (.loop (r [o 10 (b .lss 9 8)] (j (c 10 z (.exit 0)) (j (u 1 (r [o 11 (a 7 9 1),o 12 (l 11),M 5 12] (r [V 6 (i 0)] (j (r [M 13 5] (c 13 (R [V 6 (i 1)]) z)) (R [M 14 0,M 15 6,o 16 (.f9 g0 1 [t 15]),o 17 (.aE g1 [t 14,k (i 1),t 16])]))))) (R [o 18 (bb .add 9 (i 1)),M 9 18]))))))⟩
def jQ(g0 g1:Nat):dc:=⟨12,[],r [M 4 0,M 5 1,o 6 (h 5),o 7 (.f9 g0 1 [t 6]),o 8 (.aE g1 [t 4,k (i 1),t 7])] (R [M 9 0,M 10 1,o 11 (.aE g1 [t 9,k (i 1),t 10])])⟩
def kE(g0:Nat):dc:=⟨22,[],r [M 6 1,o 7 (h 6),V 8 (i 0)] (u 0 (.loop (r [o 9 (b .lss 8 7)] (j (c 9 z (.exit 0)) (j (u 1 (r [o 10 (a 6 8 1),o 11 (l 10),M 5 11] (R [M 12 0,M 13 0,o 14 (.nc (t 13)),o 15 (f 14 0),o 16 (l 15),M 17 5,o 18 (.call g0 [t 16,t 17]),o 19 (.nc (t 12)),o 20 (f 19 0),n (s 20 18 1)]))) (R [o 21 (bb .add 8 (i 1)),M 8 21]))))))⟩
def pU:dc:=⟨4,[.tmp 2],r [V 2 (i 0)] (j (r [M 3 0] (c 3 (r [V 2 (i 1)] y) z)) (r [V 2 (i 0)] y))⟩
def kW(g0:Nat):dc:=⟨22,[.tmp 6],r [V 6 .bL] (j (r [V 7 (i 0)] (u 0 (.loop (j (r [M 8 7,M 9 2,o 10 (h 9),o 11 (b .lss 8 10)] (c 11 z (.exit 0))) (j (u 1 (R [M 14 0,M 15 1,M 16 2,M 17 7,o 18 (a 16 17 1),o 19 (l 18),o 20 (.call g0 [t 14,t 15,t 19]),M 0 20])) (R [M 12 7,o 13 (bb .add 12 (i 1)),M 7 13])))))) (r [M 21 0,M 6 21] y))⟩
def hJ(g0 g1:Nat):dc:=⟨11,[],.seq (.aT [⟨(some 1),.sU (.t 0),none⟩]) (.seq (.aT [⟨(some 3),.o (.fa (.t 1) 0),none⟩,⟨(some 4),.o (.jY (.t 3) none),none⟩,⟨(some 5),.aE g0 [(.t 4)],none⟩,⟨(some 2),.o (.alloc [(.int .i64 0),(.int .i64 0)]),none⟩,⟨none,.o (.st (.t 2) (.t 5) 2),none⟩]) (.seq (.aT [⟨(some 6),.o (.fa (.t 2) 0),none⟩,⟨(some 7),.o (.ld (.t 6) none),none⟩,⟨(some 8),.o (.bin .neq (.t 7) (.k (.int .i64 0))),none⟩]) (.cond (.t 8) (.aT [⟨(some 9),.o (.ld (.t 2) (some 2)),none⟩,⟨(some 10),.Hz g1 (.t 9),none⟩,⟨none,.Hy (.t 10),none⟩]) .skip)))⟩
def ic(g0 g1 g2:Nat):dc:=⟨39,[.cell 2 (some 13)],.seq (.aT [⟨(some 1),.sU (.t 0),none⟩,⟨(some 2),.o (.alloc dh),none⟩]) (.seq (.aT [⟨(some 6),.o (.jY (.t 1) (some 1)),none⟩,⟨(some 7),.aE g0 [(.t 6)],none⟩,⟨(some 8),.o (.build dh [(0,1,(.t 7))]),none⟩,⟨(some 3),.o (.alloc dh),none⟩,⟨none,.o (.st (.t 3) (.t 8) 13),none⟩]) (.join (.seq (.aT [⟨(some 9),.o (.fa (.t 3) 1),none⟩,⟨(some 10),.o (.fa (.t 3) 2),none⟩,⟨(some 11),.o (.fa (.t 3) 3),none⟩,⟨(some 12),.o (.fa (.t 3) 4),none⟩,⟨(some 13),.o (.fa (.t 3) 5),none⟩,⟨(some 14),.o (.fa (.t 3) 6),none⟩,⟨(some 15),.o (.fa (.t 3) 7),none⟩,⟨(some 16),.o (.fa (.t 3) 8),none⟩,⟨(some 17),.o (.fa (.t 3) 9),none⟩,⟨(some 18),.Bu [(.t 9),(.t 10),(.t 11),(.t 12),(.t 13),(.t 14),(.t 15),(.t 16),(.t 17)],none⟩,⟨(some 19),.K0 (.t 18),none⟩,⟨(some 20),.o (.mv (.k (.int .i64 0))),none⟩]) (.block 0 (.loop (.seq (.aT [⟨(some 21),.o (.bin .lss (.t 20) (.t 19)),none⟩]) (.join (.cond (.t 21) .skip (.exit 0)) (.join (.block 1 (.seq (.aT [⟨(some 22),.KZ (.t 18) (.t 20),none⟩,⟨(some 23),.o (.jY (.t 22) none),none⟩,⟨(some 5),.o (.mv (.t 23)),none⟩]) (.aT [⟨(some 24),.o (.mv (.t 5)),none⟩,⟨(some 25),.o (.jY (.t 1) (some 1)),none⟩,⟨(some 26),.aE g1 [(.t 25)],none⟩,⟨(some 27),.o (.nc (.t 24)),none⟩,⟨none,.o (.st (.t 27) (.t 26) 1),none⟩]))) (.aT [⟨(some 28),.o (.bin .add (.t 20) (.k (.int .i64 1))),none⟩,⟨(some 20),.o (.mv (.t 28)),none⟩]))))))) (.seq (.aT [⟨(some 29),.o (.jY (.t 1) (some 1)),none⟩,⟨(some 30),.aE g2 [(.t 29),(.k (.int .i64 1)),(.k (.int .i64 0)),(.k (.int .i64 3))],none⟩,⟨(some 31),.o (.fa (.t 3) 10),none⟩,⟨none,.o (.st (.t 31) (.t 30) 1),none⟩]) (.seq (.aT [⟨(some 32),.o (.jY (.t 1) (some 1)),none⟩,⟨(some 33),.aE g0 [(.t 32)],none⟩,⟨(some 34),.o (.fa (.t 3) 11),none⟩,⟨none,.o (.st (.t 34) (.t 33) 1),none⟩]) (.seq (.aT [⟨(some 35),.o (.jY (.t 1) (some 1)),none⟩,⟨(some 36),.aE g0 [(.t 35)],none⟩,⟨(some 37),.o (.fa (.t 3) 12),none⟩,⟨none,.o (.st (.t 37) (.t 36) 1),none⟩]) (.seq (.aT [⟨(some 38),.o (.ld (.t 3) (some 13)),none⟩,⟨none,.o (.st (.t 2) (.t 38) 13),none⟩]) .ret))))))⟩
def dX(g0 g1:Nat):dc:=⟨15,[.tmp 2],.seq (.aT [⟨(some 1),.sU (.t 0),none⟩,⟨(some 2),.o (.mv (.k .bL)),none⟩]) (.seq (.aT [⟨(some 3),.o (.mv (.k .bL)),none⟩]) (.join (.seq (.aT [⟨(some 4),.o (.jY (.t 1) (some 1)),none⟩,⟨(some 5),.aE g0 [(.t 4),(.k (.int .i64 1)),(.k (.int .i64 0)),(.k (.int .i64 8))],none⟩,⟨(some 6),.o (.mv (.k (.int .i64 0))),none⟩]) (.block 0 (.loop (.seq (.aT [⟨(some 7),.o (.bin .lss (.t 6) (.t 5)),none⟩]) (.join (.cond (.t 7) .skip (.exit 0)) (.join (.block 1 (.aT [⟨(some 8),.o (.mv (.t 3)),none⟩,⟨(some 9),.o (.jY (.t 1) (some 1)),none⟩,⟨(some 10),.aE g0 [(.t 9),(.k (.int .i64 1)),(.k (.int .i64 0)),(.k (.int .i64 7))],none⟩,⟨(some 11),.o (.f9 g1 1 [(.t 10)]),none⟩,⟨(some 12),.o (.app g1 1 8 (.t 8) (.t 11)),none⟩,⟨(some 3),.o (.mv (.t 12)),none⟩])) (.aT [⟨(some 13),.o (.bin .add (.t 6) (.k (.int .i64 1))),none⟩,⟨(some 6),.o (.mv (.t 13)),none⟩]))))))) (.seq (.aT [⟨(some 14),.o (.mv (.t 3)),none⟩,⟨(some 2),.o (.mv (.t 14)),none⟩]) .ret)))⟩
def jl(g0:Nat):dc:=⟨5,[.tmp 2],.seq (.aT [⟨(some 1),.sU (.t 0),none⟩,⟨(some 2),.o (.mv (.k (.int .i64 0))),none⟩]) (.seq (.aT [⟨(some 3),.o (.jY (.t 1) (some 1)),none⟩,⟨(some 4),.aE g0 [(.t 3),(.k (.int .i64 1)),(.k (.int .i64 0)),(.k (.int .i64 255))],none⟩,⟨(some 2),.o (.mv (.t 4)),none⟩]) .ret)⟩
def gm(g0 g1 g2 g3 g4 g5 g6:Nat):dc:=⟨26,[.cell 2 (some 7)],.seq (.aT [⟨(some 1),.sU (.t 0),none⟩,⟨(some 2),.o (.alloc [(.int .i64 0),(.float .f64 0),(.float .f64 0),(.float .f64 0),(.float .f64 0),(.int .i64 0),(.int .i64 0)]),none⟩]) (.seq (.aT [⟨(some 4),.o (.jY (.t 1) (some 1)),none⟩,⟨(some 5),.aE g0 [(.t 4),(.k (.int .i64 1)),(.k (.int .i64 0)),(.k (.int .i64 7))],none⟩,⟨(some 6),.o (.build [(.int .i64 0),(.float .f64 0),(.float .f64 0),(.float .f64 0),(.float .f64 0),(.int .i64 0),(.int .i64 0)] [(0,1,(.t 5))]),none⟩,⟨(some 3),.o (.alloc [(.int .i64 0),(.float .f64 0),(.float .f64 0),(.float .f64 0),(.float .f64 0),(.int .i64 0),(.int .i64 0)]),none⟩,⟨none,.o (.st (.t 3) (.t 6) 7),none⟩]) (.seq (.aT [⟨(some 7),.o (.jY (.t 1) (some 1)),none⟩,⟨(some 8),.aE g1 [(.t 7),(.k (.fn (.func g2) [] []))],none⟩,⟨(some 9),.o (.fa (.t 3) 1),none⟩,⟨none,.o (.st (.t 9) (.t 8) 1),none⟩]) (.seq (.aT [⟨(some 10),.o (.jY (.t 1) (some 1)),none⟩,⟨(some 11),.aE g1 [(.t 10),(.k (.fn (.func g3) [] []))],none⟩,⟨(some 12),.o (.fa (.t 3) 2),none⟩,⟨none,.o (.st (.t 12) (.t 11) 1),none⟩]) (.seq (.aT [⟨(some 13),.o (.jY (.t 1) (some 1)),none⟩,⟨(some 14),.aE g1 [(.t 13),(.k (.fn (.func g4) [] []))],none⟩,⟨(some 15),.o (.fa (.t 3) 3),none⟩,⟨none,.o (.st (.t 15) (.t 14) 1),none⟩]) (.seq (.aT [⟨(some 16),.o (.jY (.t 1) (some 1)),none⟩,⟨(some 17),.aE g1 [(.t 16),(.k (.fn (.func g5) [] []))],none⟩,⟨(some 18),.o (.fa (.t 3) 4),none⟩,⟨none,.o (.st (.t 18) (.t 17) 1),none⟩]) (.seq (.aT [⟨(some 19),.o (.jY (.t 1) (some 1)),none⟩,⟨(some 20),.aE g6 [(.t 19)],none⟩,⟨(some 21),.o (.fa (.t 3) 5),none⟩,⟨none,.o (.st (.t 21) (.t 20) 1),none⟩]) (.seq (.aT [⟨(some 22),.o (.jY (.t 1) (some 1)),none⟩,⟨(some 23),.aE g6 [(.t 22)],none⟩,⟨(some 24),.o (.fa (.t 3) 6),none⟩,⟨none,.o (.st (.t 24) (.t 23) 1),none⟩]) (.seq (.aT [⟨(some 25),.o (.ld (.t 3) (some 7)),none⟩,⟨none,.o (.st (.t 2) (.t 25) 7),none⟩]) .ret))))))))⟩
def iQ(g0 g1 g2:Nat):dc:=⟨44,[.cell 2 (some 11)],.seq (.aT [⟨(some 1),.sU (.t 0),none⟩,⟨(some 2),.o (.alloc dG),none⟩]) (.seq (.aT [⟨(some 3),.o (.alloc dG),none⟩]) (.join (.seq (.aT [⟨(some 8),.o (.fa (.t 3) 0),none⟩,⟨(some 9),.o (.fa (.t 3) 1),none⟩,⟨(some 10),.o (.fa (.t 3) 2),none⟩,⟨(some 11),.o (.fa (.t 3) 3),none⟩,⟨(some 12),.Bu [(.t 8),(.t 9),(.t 10),(.t 11)],none⟩,⟨(some 13),.K0 (.t 12),none⟩,⟨(some 14),.o (.mv (.k (.int .i64 0))),none⟩]) (.block 0 (.loop (.seq (.aT [⟨(some 15),.o (.bin .lss (.t 14) (.t 13)),none⟩]) (.join (.cond (.t 15) .skip (.exit 0)) (.join (.block 1 (.seq (.aT [⟨(some 16),.KZ (.t 12) (.t 14),none⟩,⟨(some 17),.o (.jY (.t 16) none),none⟩,⟨(some 5),.o (.mv (.t 17)),none⟩]) (.aT [⟨(some 18),.o (.mv (.t 5)),none⟩,⟨(some 19),.o (.jY (.t 1) (some 1)),none⟩,⟨(some 20),.aE g0 [(.t 19)],none⟩,⟨(some 21),.o (.nc (.t 18)),none⟩,⟨none,.o (.st (.t 21) (.t 20) 1),none⟩]))) (.aT [⟨(some 22),.o (.bin .add (.t 14) (.k (.int .i64 1))),none⟩,⟨(some 14),.o (.mv (.t 22)),none⟩]))))))) (.join (.seq (.aT [⟨(some 23),.o (.fa (.t 3) 4),none⟩,⟨(some 24),.o (.fa (.t 3) 5),none⟩,⟨(some 25),.o (.fa (.t 3) 6),none⟩,⟨(some 26),.o (.fa (.t 3) 7),none⟩,⟨(some 27),.o (.fa (.t 3) 8),none⟩,⟨(some 28),.o (.fa (.t 3) 9),none⟩,⟨(some 29),.Bu [(.t 23),(.t 24),(.t 25),(.t 26),(.t 27),(.t 28)],none⟩,⟨(some 30),.K0 (.t 29),none⟩,⟨(some 31),.o (.mv (.k (.int .i64 0))),none⟩]) (.block 2 (.loop (.seq (.aT [⟨(some 32),.o (.bin .lss (.t 31) (.t 30)),none⟩]) (.join (.cond (.t 32) .skip (.exit 2)) (.join (.block 3 (.seq (.aT [⟨(some 33),.KZ (.t 29) (.t 31),none⟩,⟨(some 34),.o (.jY (.t 33) none),none⟩,⟨(some 7),.o (.mv (.t 34)),none⟩]) (.aT [⟨(some 35),.o (.mv (.t 7)),none⟩,⟨(some 36),.o (.jY (.t 1) (some 1)),none⟩,⟨(some 37),.aE g1 [(.t 36)],none⟩,⟨(some 38),.o (.nc (.t 35)),none⟩,⟨none,.o (.st (.t 38) (.t 37) 1),none⟩]))) (.aT [⟨(some 39),.o (.bin .add (.t 31) (.k (.int .i64 1))),none⟩,⟨(some 31),.o (.mv (.t 39)),none⟩]))))))) (.seq (.aT [⟨(some 40),.o (.jY (.t 1) (some 1)),none⟩,⟨(some 41),.aE g2 [(.t 40),(.k (.int .i64 4)),(.k (.int .i64 0)),(.k (.int .i64 2147483647))],none⟩,⟨(some 42),.o (.fa (.t 3) 10),none⟩,⟨none,.o (.st (.t 42) (.t 41) 1),none⟩]) (.seq (.aT [⟨(some 43),.o (.ld (.t 3) (some 11)),none⟩,⟨none,.o (.st (.t 2) (.t 43) 11),none⟩]) .ret)))))⟩
def iR(g0:Nat):dc:=⟨5,[.tmp 2],.seq (.aT [⟨(some 1),.sU (.t 0),none⟩,⟨(some 2),.o (.mv (.k (.int .i64 0))),none⟩]) (.seq (.aT [⟨(some 3),.o (.jY (.t 1) (some 1)),none⟩,⟨(some 4),.aE g0 [(.t 3),(.k (.int .i64 2)),(.k (.int .i64 0)),(.k (.int .i64 9999))],none⟩,⟨(some 2),.o (.mv (.t 4)),none⟩]) .ret)⟩
def zT(g0:Nat):dc:=⟨36,[.tmp 4],r [V 4 (.int .u16 0)] (r [o 8 (.call g0 []),o 5 (.alloc mI),n (s 5 8 16)] (j (r [M 9 1,o 10 (h 9),V 11 (i 0)] (u 0 (.loop (r [o 12 (b .lss 11 10)] (j (c 12 z (.exit 0)) (j (u 1 (r [o 13 (a 9 11 1),o 14 (l 13),M 7 14] (r [M 15 0,M 16 7,o 17 (.j4 .u16 (t 16)),o 18 (bb .shl 17 (.int .u64 8)),o 19 (b .xor 15 18),M 0 19] (r [M 20 0,o 21 (bb .shl 20 (.int .u64 4)),M 22 0,o 23 (bb .shr 22 (.int .u64 12)),o 24 (A 5 23 16 1),o 25 (l 24),o 26 (b .xor 21 25),M 0 26] (R [M 27 0,o 28 (bb .shl 27 (.int .u64 4)),M 29 0,o 30 (bb .shr 29 (.int .u64 12)),o 31 (A 5 30 16 1),o 32 (l 31),o 33 (b .xor 28 32),M 0 33]))))) (R [o 34 (bb .add 11 (i 1)),M 11 34]))))))) (r [M 35 0,M 4 35] y)))⟩
def kF(g0 g1 g2:Nat):dc:=⟨44,[.cell 2 (some 13)],r [o 2 (.alloc dh)] (r [o 3 (.alloc dh)] (r [M 4 0,o 5 (.aE g0 [t 4]),o 6 (f 3 0),n (s 6 5 1)] (r [M 7 0,o 8 (.aE g1 [t 7]),o 9 (f 3 1),n (s 9 8 1)] (r [M 10 0,o 11 (.aE g1 [t 10]),o 12 (f 3 2),n (s 12 11 1)] (r [M 13 0,o 14 (.aE g1 [t 13]),o 15 (f 3 3),n (s 15 14 1)] (r [M 16 0,o 17 (.aE g1 [t 16]),o 18 (f 3 4),n (s 18 17 1)] (r [M 19 0,o 20 (.aE g1 [t 19]),o 21 (f 3 5),n (s 21 20 1)] (r [M 22 0,o 23 (.aE g1 [t 22]),o 24 (f 3 6),n (s 24 23 1)] (r [M 25 0,o 26 (.aE g1 [t 25]),o 27 (f 3 7),n (s 27 26 1)] (r [M 28 0,o 29 (.aE g1 [t 28]),o 30 (f 3 8),n (s 30 29 1)] (r [M 31 0,o 32 (.aE g1 [t 31]),o 33 (f 3 9),n (s 33 32 1)] (r [M 34 0,o 35 (.aE g2 [t 34,k (i 1),k (i 0),k (i 3)]),o 36 (f 3 10),n (s 36 35 1)] (r [M 37 0,o 38 (.aE g0 [t 37]),o 39 (f 3 11),n (s 39 38 1)] (r [M 40 0,o 41 (.aE g0 [t 40]),o 42 (f 3 12),n (s 42 41 1)] (r [o 43 (L 3 13),n (s 2 43 13)] y)))))))))))))))⟩
def jm(g0 g1:Nat):dc:=⟨19,[.tmp 2],r [V 2 .bL] (r [V 3 .bL] (r [M 6 0,o 7 (.aE g0 [t 6,k (i 1),k (i 0),k (i 8)]),M 4 7] (j (r [V 5 (i 0)] (u 0 (.loop (j (r [M 8 5,M 9 4,o 10 (b .lss 8 9)] (c 10 z (.exit 0))) (j (u 1 (R [M 13 3,M 14 0,o 15 (.aE g0 [t 14,k (i 1),k (i 0),k (i 7)]),o 16 (.f9 g1 1 [t 15]),o 17 (.app g1 1 8 (t 13) (t 16)),M 3 17])) (R [M 11 5,o 12 (bb .add 11 (i 1)),M 5 12])))))) (r [M 18 3,M 2 18] y))))⟩
def jC(g0 g1 g2:Nat):dc:=⟨26,[.cell 2 (some 7)],r [o 2 (.alloc [i 0,.float .f64 0,.float .f64 0,.float .f64 0,.float .f64 0,i 0,i 0])] (r [o 3 (.alloc [i 0,.float .f64 0,.float .f64 0,.float .f64 0,.float .f64 0,i 0,i 0])] (r [M 4 0,o 5 (.aE g0 [t 4,k (i 1),k (i 0),k (i 7)]),o 6 (f 3 0),n (s 6 5 1)] (r [M 7 0,o 8 (.aE g1 [t 7,k (T)]),o 9 (f 3 1),n (s 9 8 1)] (r [M 10 0,o 11 (.aE g1 [t 10,k (T)]),o 12 (f 3 2),n (s 12 11 1)] (r [M 13 0,o 14 (.aE g1 [t 13,k (F)]),o 15 (f 3 3),n (s 15 14 1)] (r [M 16 0,o 17 (.aE g1 [t 16,k (F)]),o 18 (f 3 4),n (s 18 17 1)] (r [M 19 0,o 20 (.aE g2 [t 19]),o 21 (f 3 5),n (s 21 20 1)] (r [M 22 0,o 23 (.aE g2 [t 22]),o 24 (f 3 6),n (s 24 23 1)] (r [o 25 (L 3 7),n (s 2 25 7)] y)))))))))⟩
def lJ(g0 g1:Nat):dc:=⟨38,[.cell 2 (some 11)],r [o 2 (.alloc dG)] (r [o 3 (.alloc dG)] (r [M 4 0,o 5 (.aE g0 [t 4,k (i 1),k (i 0),k (i 255)]),o 6 (f 3 0),n (s 6 5 1)] (r [M 7 0,o 8 (.aE g0 [t 7,k (i 1),k (i 0),k (i 255)]),o 9 (f 3 1),n (s 9 8 1)] (r [M 10 0,o 11 (.aE g0 [t 10,k (i 1),k (i 0),k (i 255)]),o 12 (f 3 2),n (s 12 11 1)] (r [M 13 0,o 14 (.aE g0 [t 13,k (i 1),k (i 0),k (i 255)]),o 15 (f 3 3),n (s 15 14 1)] (r [M 16 0,o 17 (.aE g1 [t 16]),o 18 (f 3 4),n (s 18 17 1)] (r [M 19 0,o 20 (.aE g1 [t 19]),o 21 (f 3 5),n (s 21 20 1)] (r [M 22 0,o 23 (.aE g1 [t 22]),o 24 (f 3 6),n (s 24 23 1)] (r [M 25 0,o 26 (.aE g1 [t 25]),o 27 (f 3 7),n (s 27 26 1)] (r [M 28 0,o 29 (.aE g1 [t 28]),o 30 (f 3 8),n (s 30 29 1)] (r [M 31 0,o 32 (.aE g1 [t 31]),o 33 (f 3 9),n (s 33 32 1)] (r [M 34 0,o 35 (.aE g0 [t 34,k (i 4),k (i 0),k (i 2147483647)]),o 36 (f 3 10),n (s 36 35 1)] (r [o 37 (L 3 11),n (s 2 37 11)] y)))))))))))))⟩
def lK(g0:Nat):dc:=⟨5,[.tmp 2],r [V 2 (i 0)] (r [M 3 0,o 4 (.aE g0 [t 3,k (i 2),k (i 0),k (i 9999)]),M 2 4] y)⟩
def jn(g0 g1:Nat):dc:=⟨10,[.tmp 2],.seq (.aT [⟨(some 1),.sU (.t 0),none⟩,⟨(some 2),.o (.mv (.k (.bool false))),none⟩]) (.seq (.aT [⟨(some 4),.o (.fa (.t 1) 0),none⟩,⟨(some 5),.o (.jY (.t 4) none),none⟩,⟨(some 6),.aE g0 [(.t 5)],none⟩,⟨(some 3),.o (.mv (.t 6)),none⟩]) (.seq (.aT [⟨(some 7),.o (.jY (.t 1) (some 1)),none⟩,⟨(some 8),.aE g1 [(.t 7)],none⟩]) (.seq (.aT [⟨(some 9),.o (.mv (.t 3)),none⟩,⟨(some 2),.o (.mv (.t 9)),none⟩]) .ret)))⟩
def f8(g0 g1 g2 g3 g4 g5:Nat):dc:=⟨30,[.tmp 4],.seq (.aT [⟨(some 2),.sU (.t 0),none⟩,⟨(some 4),.o (.mv (.k (.float .f64 0))),none⟩]) (.seq (.aT [⟨(some 8),.o (.fa (.t 2) 0),none⟩,⟨(some 9),.o (.jY (.t 8) none),none⟩,⟨(some 10),.aE g0 [(.t 9)],none⟩,⟨(some 5),.o (.mv (.t 10)),none⟩]) (.seq (.aT [⟨(some 11),.o (.fa (.t 2) 0),none⟩,⟨(some 12),.o (.jY (.t 11) none),none⟩,⟨(some 13),.aE g1 [(.t 12)],none⟩,⟨(some 6),.o (.mv (.t 13)),none⟩]) (.seq (.aT [⟨(some 14),.o (.jY (.t 2) (some 1)),none⟩,⟨(some 15),.aE g2 [(.t 14)],none⟩]) (.seq (.aT [⟨(some 16),.o (.build [(.int .i64 0),(.float .f64 0),(.float .f64 0),(.float .f64 0),(.float .f64 0),(.int .i64 0),(.int .i64 0)] [(1,1,(.k (.float .f64 4607182418800017408))),(2,1,(.k (.float .f64 4607182418800017408)))]),none⟩,⟨(some 7),.o (.alloc [(.int .i64 0),(.float .f64 0),(.float .f64 0),(.float .f64 0),(.float .f64 0),(.int .i64 0),(.int .i64 0)]),none⟩,⟨none,.o (.st (.t 7) (.t 16) 7),none⟩]) (.seq (.aT [⟨(some 17),.o (.mv (.t 1)),none⟩,⟨(some 18),.Ay (.t 17) [(.t 7)],none⟩,⟨(some 19),.o (.mv (.t 6)),none⟩,⟨(some 20),.o (.nc (.t 18)),none⟩,⟨none,.o (.st (.t 20) (.t 19) 1),none⟩]) (.join (.seq (.aT [⟨(some 21),.o (.ld (.t 7) (some 7)),none⟩,⟨(some 22),.o (.f9 g3 7 [(.t 21)]),none⟩,⟨(some 23),.o (.build bG [(113,1,(.t 22))]),none⟩,⟨(some 24),.call g4 [(.t 23)],none⟩,⟨(some 25),.o (.un .not (.t 24)),none⟩]) (.cond (.t 25) (.aT [⟨(some 26),.o (.mv (.t 5)),none⟩,⟨(some 27),.o (.build [(.int .i64 0),(.int .i64 0)] [(0,1,(.k (.int .i64 4))),(1,1,(.t 26))]),none⟩,⟨(some 28),.Hz g5 (.t 27),none⟩,⟨none,.Hy (.t 28),none⟩]) .skip)) (.seq (.aT [⟨(some 29),.o (.mv (.t 6)),none⟩,⟨(some 4),.o (.mv (.t 29)),none⟩]) .ret)))))))⟩
def iS:dc:=⟨6,[.tmp 2],.seq (.aT [⟨(some 2),.o (.mv (.k .mh)),none⟩]) (.seq (.aT [⟨(some 3),.o (.mv (.t 0)),none⟩,⟨(some 4),.o (.nc (.t 3)),none⟩,⟨(some 5),.o (.fa (.t 4) 1),none⟩,⟨(some 2),.o (.mv (.t 5)),none⟩]) .ret)⟩
def iT:dc:=⟨6,[.tmp 2],.seq (.aT [⟨(some 2),.o (.mv (.k .mh)),none⟩]) (.seq (.aT [⟨(some 3),.o (.mv (.t 0)),none⟩,⟨(some 4),.o (.nc (.t 3)),none⟩,⟨(some 5),.o (.fa (.t 4) 2),none⟩,⟨(some 2),.o (.mv (.t 5)),none⟩]) .ret)⟩
def iU:dc:=⟨6,[.tmp 2],.seq (.aT [⟨(some 2),.o (.mv (.k .mh)),none⟩]) (.seq (.aT [⟨(some 3),.o (.mv (.t 0)),none⟩,⟨(some 4),.o (.nc (.t 3)),none⟩,⟨(some 5),.o (.fa (.t 4) 3),none⟩,⟨(some 2),.o (.mv (.t 5)),none⟩]) .ret)⟩
def iV:dc:=⟨6,[.tmp 2],.seq (.aT [⟨(some 2),.o (.mv (.k .mh)),none⟩]) (.seq (.aT [⟨(some 3),.o (.mv (.t 0)),none⟩,⟨(some 4),.o (.nc (.t 3)),none⟩,⟨(some 5),.o (.fa (.t 4) 4),none⟩,⟨(some 2),.o (.mv (.t 5)),none⟩]) .ret)⟩
def xF:dc:=⟨26,[.cell 0 (some 16)],r [o 0 (.alloc mI)] (r [o 1 (.alloc mI)] (j (r [V 4 (i 0)] (u 0 (.loop (r [o 5 (bb .lss 4 (i 16))] (j (c 5 z (.exit 0)) (j (u 1 (r [M 6 4,M 2 6] (r [M 7 2,o 8 (.j4 .u16 (t 7)),o 9 (bb .shl 8 (.int .u64 12)),M 3 9] (j (r [V 10 (i 0)] (u 2 (.loop (r [o 11 (bb .lss 10 (i 4))] (j (c 11 z (.exit 2)) (j (u 3 (r [M 12 3,o 13 (bb .and 12 (.int .u16 32768)),o 14 (bb .neq 13 (.int .u16 0))] (c 14 (R [M 15 3,o 16 (bb .shl 15 (.int .u64 1)),o 17 (bb .xor 16 (.int .u16 4129)),M 3 17]) (R [M 18 3,o 19 (bb .shl 18 (.int .u64 1)),M 3 19])))) (R [o 20 (bb .add 10 (i 1)),M 10 20]))))))) (R [M 21 2,M 22 3,o 23 (A 1 21 16 1),n (s 23 22 1)]))))) (R [o 24 (bb .add 4 (i 1)),M 4 24]))))))) (r [o 25 (L 1 16),n (s 0 25 16)] y)))⟩
def gk(g0 g1 g2 g3:Nat):dc:=⟨44,[.tmp 4],r [V 4 (.float .f64 0)] (r [M 7 0,o 8 (.nc (t 7)),o 9 (f 8 1),o 10 (l 9),M 5 10] (r [M 11 0,o 12 (.aE g0 [t 11]),M 6 12] (j (r [M 13 0,o 14 (.aE g1 [t 13]),M 15 14,p 16 (m 1) 15,p 17 (m 16) 15,p 18 (m 6) 17,p 19 (.call g2 [t 18]) 17,p 20 (P 17 19) 15,p 21 (m 20) 15,q 22 (m 1) 21,q 23 (.un .not (t 22)) 21,q 24 (m 23) 21,p 25 (m 6) 24,p 26 (.call g3 [t 25]) 24,q 27 (P 24 26) 21,p 28 (Q 21 27) 15,p 29 (.un .not (t 28)) 15,o 30 (P 15 29)] (c 30 (r [M 31 0,M 32 5,o 33 (.build [i 0,i 0] [(0,1,k (i 4)),(1,1,t 32)]),o 34 (.nc (t 31)),o 35 (f 34 2),n (s 35 33 2)] (R [M 36 0,M 37 5,o 38 (.nc (t 36)),o 39 (f 38 1),n (s 39 37 1)])) z)) (j (r [M 40 0,o 41 (.aE g1 [t 40]),o 42 (.un .not (t 41))] (c 42 (r [V 4 (.float .f64 0)] y) z)) (r [M 43 6,M 4 43] y)))))⟩
end
def nA{α:Type} (c:Cd α) (enc:α->AV) (C:bw) (f:Nat):Prop:=∀r:bk,r.Ok->C.p f [r.cells] [none] (enc (c.m r).1) none [(c.m r).2.cells]
theorem nA.step{α:Type} {c:Cd α} {enc:α->AV} {C:bw} {f:Nat} (h:nA c enc C f) {r:bk} (hr:r.Ok):∃a r',c.m r=(a,r')/\r'.Ok/\C.p f [r.cells] [none] (enc a) none [r'.cells]:=⟨_,_,rfl,c.ok r hr,h r hr⟩
theorem sH(r:bk) (k hi:Int) (h:0<=hi):0<=(gI r k 0 hi).1/\(gI r k 0 hi).1<=hi:=by
 unfold gI;simp only[];split
 ·exact⟨Int.le_refl _,h⟩
 ·split
  ·exact⟨Int.le_refl _,h⟩
  ·rename_i h1;simp only;omega
theorem oh{C:bw} {f:Nat} (h:wC.Spec C f) {r:bk} (hr:r.Ok) (k:Nat) (hi:Int) (hk:k<=7) (hh:hi<256^k) (h0:0<=hi):∃a r',(oX k hi hk hh).m r=(a,r')/\r'.Ok/\(0<=a/\a<=hi)/\C.p f [r.cells] [none,some (I k),some (I 0),some (I hi)] (I a) none [r'.cells]:=
 ⟨_,_,rfl,(oX k hi hk hh).ok r hr,sH r k hi h0,h r k 0 hi hr⟩
theorem FX:∀(l:List Int) (v:Int),0<=v/\v<2^64->0<=l.foldl jz v/\l.foldl jz v<2^64
 |[],v,h=>h
 |c::l,v,h=>FX l _ (by
  unfold jz KV;rw[Dw]
  omega)
theorem FY(r:bk):(gB r).1<2^64:=by
 unfold gB;split
 ·exact Nat.two_pow_pos 64
 ·have:=FX (r.part 8) 0 (by decide)
  unfold eZ;simp only;omega
def rL.Spec(C:bw) (f:Nat):Prop:=nA aV I C f
def VB.Spec(C:bw) (f:Nat):Prop:=nA Cl B C f
def J4.Spec(C:bw) (f:Nat):Prop:=nA sY (fun p=>.agg p.cells) C f
def DJ.Spec(C:bw) (f:Nat):Prop:=nA lI (fun l=>aD aA (bf l)) C f
def wM.Spec(C:bw) (f:Nat):Prop:=∀(r:bk) (lv:Bool),r.Ok->C.p f [r.cells] [none,some (B lv)] (Fl (gK lv r).1) none [(gK lv r).2.cells]
def DK.Spec(C:bw) (f:Nat):Prop:=nA j0 (fun p=>.agg p.cells) C f
def J5.Spec(C:bw) (f:Nat):Prop:=nA uA (fun p=>.agg p.cells) C f
theorem uw{C:bw} {f:Nat} (h:A7.Spec C f):VB.Spec C f:=h
theorem FZ{C:bw} {f:Nat} (h:wM.Spec C f) {r:bk} (hr:r.Ok) (lv:Bool):∃a r',(vE lv).m r=(a,r')/\r'.Ok/\C.p f [r.cells] [none,some (B lv)] (Fl a) none [r'.cells]:=⟨_,_,rfl,(vE lv).ok r hr,h r lv hr⟩
section
variable{P:Program} (hm:P.follows .mixedOrders=true) {f:Nat}
include hm
theorem rL.ok{fN:Nat} (hc:de P f=some (lK fN)) (hN:wC.Spec (Pure P) fN):rL.Spec (Pure P) f:=by
 intro r hr
 refine bO hm hc (by show 1<=5;decide) rfl (by simp) (ax (keep:=[]) (i:=0) ?_)
 try simp only[I,B,D,RX,↓KW,seval,lK,Z.H]
 refine⟨rfl,ay (hN r 2 0 9999 hr) ?_⟩;try simp only[I,B,D,RX,↓KW,seval]
 exact⟨rfl,rfl⟩
theorem J4.ok{fB fT fN:Nat} (hc:de P f=some (kF fB fT fN)) (hB:A7.Spec (Pure P) fB) (hT:rL.Spec (Pure P) fT) (hN:wC.Spec (Pure P) fN):J4.Spec (Pure P) f:=by
 intro r hr
 obtain⟨a0,r0,e0,k0,c0⟩:=nA.step (uw hB) hr
 obtain⟨a1,r1,e1,k1,c1⟩:=nA.step hT k0;obtain⟨a2,r2,e2,k2,c2⟩:=nA.step hT k1;obtain⟨a3,r3,e3,k3,c3⟩:=nA.step hT k2;obtain⟨a4,r4,e4,k4,c4⟩:=nA.step hT k3;obtain⟨a5,r5,e5,k5,c5⟩:=nA.step hT k4;obtain⟨a6,r6,e6,k6,c6⟩:=nA.step hT k5;obtain⟨a7,r7,e7,k7,c7⟩:=nA.step hT k6
 obtain⟨a8,r8,e8,k8,c8⟩:=nA.step hT k7;obtain⟨a9,r9,e9,k9,c9⟩:=nA.step hT k8
 obtain⟨a10,r10,e10,k10,_,c10⟩:=oh hN k9 1 3 (by decide) (by decide) (by decide)
 obtain⟨a11,r11,e11,k11,c11⟩:=nA.step (uw hB) k10
 obtain⟨a12,r12,e12,k12,c12⟩:=nA.step (uw hB) k11
 have hm':sY.m r=(⟨a0,a1,a2,a3,a4,a5,a6,a7,a8,a9,a10,a11,a12⟩,r12):=by
  simp only[sY,Cd.map,Cd.seq,cF,e0,e1,e2,e3,e4,e5,e6,e7,e8,e9,e10,e11,e12]
 rw[hm']
 refine bO hm hc (by show 1<=44;decide) rfl (by simp) (ax (keep:=[]) (i:=0) ?_)
 try simp only[I,B,D,RX,↓KW,seval,kF,Z.H,dh,Ph.cells]
 refine⟨rfl,ay c0 ?_⟩;try simp only[I,B,D,RX,↓KW,seval]
 refine⟨rfl,ay c1 ?_⟩;try simp only[I,B,D,RX,↓KW,seval]
 refine⟨rfl,ay c2 ?_⟩;try simp only[I,B,D,RX,↓KW,seval]
 refine⟨rfl,ay c3 ?_⟩;try simp only[I,B,D,RX,↓KW,seval]
 refine⟨rfl,ay c4 ?_⟩;try simp only[I,B,D,RX,↓KW,seval]
 refine⟨rfl,ay c5 ?_⟩;try simp only[I,B,D,RX,↓KW,seval]
 refine⟨rfl,ay c6 ?_⟩;try simp only[I,B,D,RX,↓KW,seval]
 refine⟨rfl,ay c7 ?_⟩;try simp only[I,B,D,RX,↓KW,seval]
 refine⟨rfl,ay c8 ?_⟩;try simp only[I,B,D,RX,↓KW,seval]
 refine⟨rfl,ay c9 ?_⟩;try simp only[I,B,D,RX,↓KW,seval]
 refine⟨rfl,ay c10 ?_⟩;try simp only[I,B,D,RX,↓KW,seval]
 refine⟨rfl,ay c11 ?_⟩;try simp only[I,B,D,RX,↓KW,seval]
 refine⟨rfl,ay c12 ?_⟩;try simp only[I,B,D,RX,↓KW,seval]
theorem DJ.ok{fN e:Nat} (hc:de P f=some (jm fN e)) (hN:wC.Spec (Pure P) fN):DJ.Spec (Pure P) f:=by
 intro r hr
 obtain⟨n,r0,e0,k0,hn,c0⟩:=oh hN hr 1 8 (by decide) (by decide) (by decide)
 obtain⟨N,hN',hN8⟩:∃N:Nat,n=(N:Int)/\N<=8:=⟨n.toNat,by omega,by omega⟩
 subst hN'
 obtain⟨l,rF,eF⟩:∃l rF,((cF 7 (by decide)).rep N).m r0=(l,rF):=⟨_,_,rfl⟩
 have hm':lI.m r=(l,rF):=by
  show((((cF 8 (by decide)).seq fun k=>(cF 7 (by decide)).rep k.toNat).m r).1.2,(((cF 8 (by decide)).seq fun k=>(cF 7 (by decide)).rep k.toNat).m r).2)=_
  have e0':(cF 8 (by decide)).m r=((N:Int),r0):=e0
  simp only[Cd.seq,e0',Int.toNat_natCast,eF]
 rw[hm']
 refine bO hm hc (by show 1<=19;decide) rfl (by simp) (ax (keep:=[]) (i:=0) ?_)
 try simp only[I,B,D,RX,↓KW,seval,jm,Z.H]
 refine⟨rfl,ay c0 ?_⟩;try simp only[I,B,D,RX,↓KW,seval]
 refine aH (fun x:Nat×List Int×bk=>(⟨[(4,.dat (I N) none),(5,.dat (I x.1) none),(3,bQ aA x.2.1 0),(0,.ptr 0 0)],[(0,⟨x.2.2.cells,[]⟩)],bq x.2.1 0 e,400⟩:S)) (fun x=>N-x.1) (fun x=>x.1<=N/\x.2.2.Ok/\x.2.1.length=x.1/\∃tl,((cF 7 (by decide)).rep (N-x.1)).m x.2.2=(tl,rF)/\x.2.1++tl=l) ?_ (0,[],r0) ⟨by omega,k0,rfl,l,eF,rfl⟩ ?_
 ·intro x hx A back
  obtain⟨i,L,q⟩:=x;obtain⟨hi,hq,hL,tl,h1,h2⟩:=hx;simp only at hi hq hL h1 h2
  by_cases hL0:L=[]
  ·try simp only[I,B,D,RX,↓KW,seval,bQ,bq,hL0]
   refine aq (fun h=>?_) (fun h=>?_)<;>try simp only[I,B,D,RX,↓KW,seval,h]
   ·have h3:i<N:=by have:=of_decide_eq_true h;omega
    obtain⟨a,q',e1,k1,_,c1⟩:=oh hN hq 1 7 (by decide) (by decide) (by decide)
    have e1':(cF 7 (by decide)).m q=(a,q'):=e1
    obtain⟨tl',rF',e2⟩:∃tl' rF',((cF 7 (by decide)).rep (N-(i+1))).m q'=(tl',rF'):=⟨_,_,rfl⟩
    rw[show N-i=(N-(i+1))+1 by omega]at h1
    simp only[Cd.rep,Cd.map,Cd.seq,e1',e2,Prod.mk.injEq]at h1;obtain⟨h1,rfl⟩:=h1
    have hw:=aF (k:=i) (by omega)
    refine⟨rfl,ay c1 ?_⟩;try simp only[I,B,D,RX,↓KW,seval]
    refine back (i+1,[a],q') _ ⟨by show i+1<=N;omega,k1,by rw[hL0]at hL;show 1=i+1;simp at hL;omega,tl',e2,by rw[<-h2,<-h1,hL0];rfl⟩ (by show N-(i+1)<N-i;omega) ?_
    refine ah (by decide) ?_ ?_ ?_ ?_<;>simp[LX,I,B,D,hw,bQ,bq,aA]
   ·have h3:i=N:=by have:=of_decide_eq_false h;omega
    subst h3;try simp only[I,B,D,RX,↓KW,seval]
    rw[Nat.sub_self]at h1;simp only[Cd.rep,Cd.none,Prod.mk.injEq]at h1;obtain⟨rfl,rfl⟩:=h1;rw[List.append_nil]at h2;subst h2;simp[hL0,aD,bf,gi,ct]
  ·try simp only[I,B,D,RX,↓KW,seval,bQ,bq,hL0]
   refine aq (fun h=>?_) (fun h=>?_)<;>try simp only[I,B,D,RX,↓KW,seval,h]
   ·have h3:i<N:=by have:=of_decide_eq_true h;omega
    obtain⟨a,q',e1,k1,_,c1⟩:=oh hN hq 1 7 (by decide) (by decide) (by decide)
    have e1':(cF 7 (by decide)).m q=(a,q'):=e1
    obtain⟨tl',rF',e2⟩:∃tl' rF',((cF 7 (by decide)).rep (N-(i+1))).m q'=(tl',rF'):=⟨_,_,rfl⟩
    rw[show N-i=(N-(i+1))+1 by omega]at h1
    simp only[Cd.rep,Cd.map,Cd.seq,e1',e2,Prod.mk.injEq]at h1;obtain⟨h1,rfl⟩:=h1
    have hw:=aF (k:=i) (by omega)
    refine⟨rfl,ay c1 ?_⟩;try simp only[I,B,D,RX,↓KW,seval]
    refine⟨by omega,?_⟩
    refine back (i+1,L++[a],q') _ ⟨by show i+1<=N;omega,k1,by show(L++[a]).length=i+1;simp[hL],tl',e2,by rw[<-h2,<-h1];simp⟩ (by show N-(i+1)<N-i;omega) ?_
    refine ah (by decide) ?_ ?_ ?_ ?_<;>simp[LX,I,B,D,hw,bQ,bq,aA]
   ·have h3:i=N:=by have:=of_decide_eq_false h;omega
    subst h3;try simp only[I,B,D,RX,↓KW,seval]
    rw[Nat.sub_self]at h1;simp only[Cd.rep,Cd.none,Prod.mk.injEq]at h1;obtain⟨rfl,rfl⟩:=h1;rw[List.append_nil]at h2;subst h2;simp[hL0,aD,bf,gi,ct]
 ·refine ah (by decide) ?_ ?_ ?_ ?_<;>simp[LX,I,B,D,bQ,bq]
theorem wM.ok{fF fO fL fS:Nat} (hc:de P f=some (gk fF fO fL fS)) (hF:zB.Spec (Pure P) fF) (hO:Oa.Spec (Pure P) fO) (hL:zS.Spec (Pure P) fL) (hS:rJ.Spec (Pure P) fS):wM.Spec (Pure P) f:=by
 intro r lv hr
 have c1:=hF r hr
 have k1:=(xZ hr).1
 have hx:=FY r
 obtain⟨x,q,e1⟩:∃x q,gB r=(x,q):=⟨_,_,rfl⟩
 rw[e1]at c1 k1 hx;simp only at c1 k1 hx
 by_cases h0:q.code=0
 ·have o1:=hO q
  have e0:(q.code==0)=true:=by simp[h0]
  rw[e0]at o1
  by_cases h2:Nv lv x=true
  ·have hs:gK lv r=(x,q):=by unfold gK;rw[e1,if_pos h0,if_pos h2]
   rw[hs]
   refine bO hm hc (by show 2<=44;decide) rfl (by simp) (ax (keep:=[]) (i:=0) ?_)
   try simp only[I,B,D,RX,↓KW,seval,gk,Z.H,bk.cells]
   refine⟨rfl,ay c1 ?_⟩;try simp only[I,B,D,RX,↓KW,seval]
   refine⟨rfl,ay o1 ?_⟩;try simp only[I,B,D,RX,↓KW,seval]
   cases lv with
   |true=>
    have h2:lvl x=true:=h2
    try simp only[I,B,D,RX,↓KW,seval]
    refine ai (hL x) ?_;try simp only[I,B,D,RX,↓KW,seval,h2]
    refine⟨rfl,ay o1 ?_⟩;try simp only[I,B,D,RX,↓KW,seval]
    rfl
   |false=>
    have h2:eJ x=true:=h2
    try simp only[I,B,D,RX,↓KW,seval]
    refine ai (hS x hx) ?_;try simp only[I,B,D,RX,↓KW,seval,h2]
    refine⟨rfl,ay o1 ?_⟩;try simp only[I,B,D,RX,↓KW,seval]
    rfl
  ·have h2:Nv lv x=false:=by simpa using h2
   have hs:gK lv r=(0,{q with code:=4,EN:=r.eM,eM:=r.eM}):=by unfold gK;rw[e1,if_pos h0,if_neg (by rw[h2];decide)]
   have o2:=hO {q with code:=4,EN:=r.eM,eM:=r.eM}
   rw[hs]
   refine bO hm hc (by show 2<=44;decide) rfl (by simp) (ax (keep:=[]) (i:=0) ?_)
   try simp only[I,B,D,RX,↓KW,seval,gk,Z.H,bk.cells]
   refine⟨rfl,ay c1 ?_⟩;try simp only[I,B,D,RX,↓KW,seval]
   refine⟨rfl,ay o1 ?_⟩;try simp only[I,B,D,RX,↓KW,seval]
   cases lv with
   |true=>
    have h2:lvl x=false:=h2
    try simp only[I,B,D,RX,↓KW,seval]
    refine ai (hL x) ?_;try simp only[I,B,D,RX,↓KW,seval,h2,bk.cells]
    refine⟨rfl,ay o2 ?_⟩;try simp only[I,B,D,RX,↓KW,seval]
    rfl
   |false=>
    have h2:eJ x=false:=h2
    try simp only[I,B,D,RX,↓KW,seval]
    refine ai (hS x hx) ?_;try simp only[I,B,D,RX,↓KW,seval,h2,bk.cells]
    refine⟨rfl,ay o2 ?_⟩;try simp only[I,B,D,RX,↓KW,seval]
    rfl
 ·have o1:=hO q
  have e0:(q.code==0)=false:=by simp[h0]
  rw[e0]at o1
  have hs:gK lv r=(0,q):=by unfold gK;rw[e1,if_neg h0]
  rw[hs]
  refine bO hm hc (by show 2<=44;decide) rfl (by simp) (ax (keep:=[]) (i:=0) ?_)
  try simp only[I,B,D,RX,↓KW,seval,gk,Z.H,bk.cells]
  refine⟨rfl,ay c1 ?_⟩;try simp only[I,B,D,RX,↓KW,seval]
  refine⟨rfl,ay o1 ?_⟩;try simp only[I,B,D,RX,↓KW,seval]
  refine⟨rfl,ay o1 ?_⟩;try simp only[I,B,D,RX,↓KW,seval]
  rfl
theorem DK.ok{fN fS fT:Nat} (hc:de P f=some (jC fN fS fT)) (hN:wC.Spec (Pure P) fN) (hS:wM.Spec (Pure P) fS) (hT:rL.Spec (Pure P) fT):DK.Spec (Pure P) f:=by
 intro r hr
 obtain⟨a0,r0,e0,k0,_,c0⟩:=oh hN hr 1 7 (by decide) (by decide) (by decide)
 obtain⟨a1,r1,e1,k1,c1⟩:=FZ hS k0 true;obtain⟨a2,r2,e2,k2,c2⟩:=FZ hS k1 true;obtain⟨a3,r3,e3,k3,c3⟩:=FZ hS k2 false;obtain⟨a4,r4,e4,k4,c4⟩:=FZ hS k3 false;obtain⟨a5,r5,e5,k5,c5⟩:=nA.step hT k4;obtain⟨a6,r6,e6,k6,c6⟩:=nA.step hT k5
 have hm':j0.m r=(⟨a0,a1,a2,a3,a4,a5,a6⟩,r6):=by
  simp only[j0,Cd.map,Cd.seq,cF,e0,e1,e2,e3,e4,e5,e6]
 rw[hm']
 refine bO hm hc (by show 1<=26;decide) rfl (by simp) (ax (keep:=[]) (i:=0) ?_)
 try simp only[I,B,D,RX,↓KW,seval,jC,Z.H,fy.cells]
 refine⟨rfl,ay c0 ?_⟩;try simp only[I,B,D,RX,↓KW,seval]
 refine⟨rfl,ay c1 ?_⟩;try simp only[I,B,D,RX,↓KW,seval]
 refine⟨rfl,ay c2 ?_⟩;try simp only[I,B,D,RX,↓KW,seval]
 refine⟨rfl,ay c3 ?_⟩;try simp only[I,B,D,RX,↓KW,seval]
 refine⟨rfl,ay c4 ?_⟩;try simp only[I,B,D,RX,↓KW,seval]
 refine⟨rfl,ay c5 ?_⟩;try simp only[I,B,D,RX,↓KW,seval]
 refine⟨rfl,ay c6 ?_⟩;try simp only[I,B,D,RX,↓KW,seval]
theorem J5.ok{fN fT:Nat} (hc:de P f=some (lJ fN fT)) (hN:wC.Spec (Pure P) fN) (hT:rL.Spec (Pure P) fT):J5.Spec (Pure P) f:=by
 intro r hr
 obtain⟨a0,r0,e0,k0,_,c0⟩:=oh hN hr 1 255 (by decide) (by decide) (by decide)
 obtain⟨a1,r1,e1,k1,_,c1⟩:=oh hN k0 1 255 (by decide) (by decide) (by decide)
 obtain⟨a2,r2,e2,k2,_,c2⟩:=oh hN k1 1 255 (by decide) (by decide) (by decide)
 obtain⟨a3,r3,e3,k3,_,c3⟩:=oh hN k2 1 255 (by decide) (by decide) (by decide)
 obtain⟨a4,r4,e4,k4,c4⟩:=nA.step hT k3;obtain⟨a5,r5,e5,k5,c5⟩:=nA.step hT k4;obtain⟨a6,r6,e6,k6,c6⟩:=nA.step hT k5;obtain⟨a7,r7,e7,k7,c7⟩:=nA.step hT k6;obtain⟨a8,r8,e8,k8,c8⟩:=nA.step hT k7;obtain⟨a9,r9,e9,k9,c9⟩:=nA.step hT k8
 obtain⟨a10,r10,e10,k10,_,c10⟩:=oh hN k9 4 2147483647 (by decide) (by decide) (by decide)
 have hm':uA.m r=(⟨a0,a1,a2,a3,a4,a5,a6,a7,a8,a9,a10⟩,r10):=by
  simp only[uA,Cd.map,Cd.seq,jO,dM,e0,e1,e2,e3,e4,e5,e6,e7,e8,e9,e10]
 rw[hm']
 refine bO hm hc (by show 1<=38;decide) rfl (by simp) (ax (keep:=[]) (i:=0) ?_)
 try simp only[I,B,D,RX,↓KW,seval,lJ,Z.H,dG,Rl.cells]
 refine⟨rfl,ay c0 ?_⟩;try simp only[I,B,D,RX,↓KW,seval]
 refine⟨rfl,ay c1 ?_⟩;try simp only[I,B,D,RX,↓KW,seval]
 refine⟨rfl,ay c2 ?_⟩;try simp only[I,B,D,RX,↓KW,seval]
 refine⟨rfl,ay c3 ?_⟩;try simp only[I,B,D,RX,↓KW,seval]
 refine⟨rfl,ay c4 ?_⟩;try simp only[I,B,D,RX,↓KW,seval]
 refine⟨rfl,ay c5 ?_⟩;try simp only[I,B,D,RX,↓KW,seval]
 refine⟨rfl,ay c6 ?_⟩;try simp only[I,B,D,RX,↓KW,seval]
 refine⟨rfl,ay c7 ?_⟩;try simp only[I,B,D,RX,↓KW,seval]
 refine⟨rfl,ay c8 ?_⟩;try simp only[I,B,D,RX,↓KW,seval]
 refine⟨rfl,ay c9 ?_⟩;try simp only[I,B,D,RX,↓KW,seval]
 refine⟨rfl,ay c10 ?_⟩;try simp only[I,B,D,RX,↓KW,seval]
end
end Go.Eng
