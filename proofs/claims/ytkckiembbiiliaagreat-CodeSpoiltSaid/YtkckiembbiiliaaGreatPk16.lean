/- The engine and the library,part 16 of 18: what the proofs of this seat need of them. -/
import Derived.Test.YtkckiembbiiliaaGreatPk15
set_option linter.unnecessarySimpa false
set_option linter.unusedSimpArgs false
set_option linter.unusedVariables false
set_option linter.defProp false
set_option maxRecDepth 10000
set_option maxHeartbeats 4000000
namespace Go.Eng
open Go
def WL{α:Type} (c:Cd α) (enc:α->AV) (C:bt) (f:Nat):Prop:=∀r:aY,r.Ok->C.p f [r.cells] [none] (enc (c.m r).1) none [(c.m r).2.cells]
theorem WL.step{α:Type} {c:Cd α} {enc:α->AV} {C:bt} {f:Nat} (h:WL c enc C f) {r:aY} (hr:r.Ok):∃a r',c.m r=(a,r')/\r'.Ok/\C.p f [r.cells] [none] (enc a) none [r'.cells]:=⟨_,_,rfl,c.ok r hr,h r hr⟩
theorem uv(r:aY) (k hi:Int) (h:0<=hi):0<=(eW r k 0 hi).1/\(eW r k 0 hi).1<=hi:=by
 unfold eW;simp only[];split
 ·exact⟨Int.le_refl _,h⟩
 ·split
  ·exact⟨Int.le_refl _,h⟩
  ·rename_i h1;simp only;omega
theorem EP:∀(l:List Int) (v:Int),0<=v/\v<2^64->0<=l.foldl je v/\l.foldl je v<2^64
 |[],v,h=>h
 |c::l,v,h=>EP l _ (by
  unfold je Jy;rw[Co]
  omega)
theorem Mf(r:aY):(gG r).1<2^64:=by
 unfold gG;split
 ·exact Nat.two_pow_pos 64
 ·have:=EP (r.part 8) 0 (by decide)
  unfold ff;simp only;omega
def bX(ph:List Ph) (gs:List Gr) (cf:List Int) (ds:List gQ) (rs:List Rl) (bs:List Bs) (a b c d e:Int) (fl:List Int) (w s:Int):Tb:=⟨ph,bw gs,cf,bw ds,bw rs,bw bs,a,b,c,d,e,fl,w,s⟩
def pad{α:Type} (x:α) (L:List α):List α:=L++List.replicate (8-L.length) x
theorem Bb{α:Type} {x:α} {L:List α} (h:L.length=8):pad x L=L:=by simp[pad,h]
theorem Bc{α:Type} {x:α} {L:List α} (h:L.length<=8):(pad x L).length=8:=by simp[pad];omega
theorem Bd{α:Type} {x a:α} {L:List α} (h:L.length<8):(pad x L).set L.length a=pad x (L++[a]):=by
 unfold pad
 rw[show 8-L.length=(8-(L++[a]).length)+1 by simp;omega,List.replicate_succ,List.set_append]
 simp
theorem wP{α:Type} (c:Cd α):∀(n:Nat) (r:aY),((c.rep n).m r).1.length=n
 |0,_=>rfl
 |n+1,r=>by
  show(_::((c.rep n).m _).1).length=n+1
  rw[List.length_cons,wP c n]
theorem gy{ph:List Ph} {gs:List Gr} {cf:List Int} {ds:List gQ} {rs:List Rl} {bs:List Bs} {a b c d e:Int} {fl:List Int} {w s:Int} (h1:ph.length=8) (h2:cf.length=8) (h3:fl.length=8):(bX ph gs cf ds rs bs a b c d e fl w s).Ln:=⟨h1,h2,h3⟩
theorem bB{α:Type} (f:α->List AV) (o:Option (List α)):(aJ f o).cells=[aJ f o]:=by cases o<;>rfl
theorem eU{α:Type} (f:α->List AV) (o:Option (List α)) (q:Option Nat):iQ (aJ f o) q=true:=by cases o<;>rfl
theorem Gr.len'(g:Gr):g.cells.length=2:=rfl
theorem Rl.len'(g:Rl):g.cells.length=11:=rfl
theorem Bs.len'(g:Bs):g.cells.length=2:=rfl
theorem gQ.len'(g:gQ):g.cells.length=7:=rfl
theorem Tb.zb{t:Tb} (h:t.phases.length=8) (g:Option (List Gr)):setCells t.cells 104 [aJ Gr.cells g]=({t with groups:=g}:Tb).cells:=by
 rw[<-Tb.ym h g];simp[setCells]
def qO:Cd Int:=pz 2 65535 (by decide) (by decide)
def lS(l:List Int):Tb×Int×Int:=
 if l.length>2048 then(cR,1,0)else
 if l.length<3 then(cR,2,l.length)else
 if l.take 3≠[88,66,1]then(cR,3,0)else
 let p:=o6.m ⟨some l,3,0,0⟩
 let q:=qO.m p.2
 if q.2.code≠0 then(cR,q.2.code,q.2.Ip)else
 if q.1≠((kZ 0xffff#16 (l.take p.2.fm.toNat)).toNat:Int)then(cR,5,p.2.fm)else
 if q.2.fm<l.length then(cR,6,q.2.fm)else(p.1,0,0)
def qP(x:Tb×Int×Int):AV:=.o7 [.agg x.1.cells,.agg [I x.2.1,I x.2.2]]
def ER.Spec(C:bt) (f:Nat):Prop:=∀b:Option (List Int),(b.getD []).length<=1000000->nE (b.getD [])->C.c f [aJ gP b] (qP (lS (b.getD []))) none
theorem Qj(r:aY):(o6.m r).1.Ln:=⟨wP zS 8 _,wP kL 8 _,wP (dV 2 (by decide)) 8 _⟩
def gJ{α:Type} (e:Nat) (res:List eZ) (enc:α->AV) (x:α×aY):Exit->S->Prop
 | .panic c,s=>x.2.code≠0/\c=dz (up e x.2)/\∃cs,fJ s.boxes 0 [cs]
 |ex,s=>x.2.code=0/\AG res (enc x.1) none [x.2.cells] ex s
def pF{α:Type} (c:Cd α) (enc:α->AV) (args:List (Option AV)) (C:bt) (e f:Nat):Prop:=∀r:aY,r.Ok->r.code=0->
 ((c.m r).2.code=0->C.p f [r.cells] (some .hole::args) (enc (c.m r).1) none [(c.m r).2.cells])/\((c.m r).2.code≠0->∃cs,C.q f [r.cells] (some .hole::args) (up e (c.m r).2) [cs])
theorem pF.step{α:Type} {c:Cd α} {enc:α->AV} {args:List (Option AV)} {C:bt} {e f:Nat} (h:pF c enc args C e f) {r r':aY} {v:α} (hr:r.Ok) (z:r.code=0) (e1:c.m r=(v,r')):
  (r'.code=0->C.p f [r.cells] (some .hole::args) (enc v) none [r'.cells])/\(r'.code≠0->∃cs,C.q f [r.cells] (some .hole::args) (up e r') [cs]):=by
 have:=h r hr z
 rw[e1]at this;exact this
section
variable{α β:Type} {e:Nat} {res:List eZ} {Q:Exit->S->Prop}
theorem aS{a:Cd α} {b:α->Cd β} {enc:α×β->AV} {r:aY} (hQ:Q=gJ e res enc ((a.seq b).m r)) (hr:r.Ok):
  ∃v r',a.m r=(v,r')/\r'.Ok/\(r'.code≠0->∀s cs,fJ s.boxes 0 [cs]->Q (.panic (dz (up e r'))) s)/\Q=gJ e res (fun y=>enc (v,y)) ((b v).m r'):=by
 refine⟨(a.m r).1,(a.m r).2,rfl,a.ok r hr,fun h s cs hh=>?_,?_⟩
 ·have hs:((b (a.m r).1).m (a.m r).2).2=(a.m r).2:=(b (a.m r).1).stay _ h
  rw[hQ];refine⟨?_,?_,cs,hh⟩
  ·show((b (a.m r).1).m (a.m r).2).2.code≠0;rw[hs];exact h
  ·show _=dz (up e ((b (a.m r).1).m (a.m r).2).2);rw[hs]
 ·rw[hQ];funext ex s;cases ex<;>rfl
theorem jB{a:Cd α} {enc:α->AV} {r:aY} (hQ:Q=gJ e res enc (a.m r)) (hr:r.Ok):
  ∃v r',a.m r=(v,r')/\r'.Ok/\(r'.code≠0->∀s cs,fJ s.boxes 0 [cs]->Q (.panic (dz (up e r'))) s)/\Q=gJ e res enc (v,r'):=by
 refine⟨(a.m r).1,(a.m r).2,rfl,a.ok r hr,fun h s cs hh=>?_,hQ⟩
 rw[hQ];exact⟨h,rfl,cs,hh⟩
theorem iF{enc:α->AV} {x:α×aY} (hQ:Q=gJ e res enc x) (h:x.2.code=0) {s:S} (hs:AG res (enc x.1) none [x.2.cells] .ret s):Q .ret s:=by rw[hQ];exact⟨h,hs⟩
end
theorem nF{P:Program} (hm:P.follows .mixedOrders=true) {f:FuncId} {cf:cU} {mo:Bool} (hcf:gB mo P f=some cf) {α:Type} {c:Cd α} {enc:α->AV} {args:List (Option AV)} {e:Nat} (hn:args.length+1<=cf.nt)
  (h:∀r:aY,r.Ok->r.code=0->∀Q,Q=gJ e cf.res enc (c.m r)->aw (Pure P) cf.code Q (nP [r.cells] (some .hole::args))):pF c enc args (Pure P) e f:=by
 intro r hr hz
 obtain⟨ex,s',h1,h2⟩:=MQ (h r hr hz _ rfl)
 refine⟨fun h0=>?_,fun h0=>?_⟩
 ·refine fK hm hcf (by simpa using hn) rfl (by simp) (h2 _ ?_)
  cases ex<;>first|exact h1.2|exact absurd h0 h1.1
 ·cases ex
  case panic p=>
   obtain⟨_,rfl,cs,hh⟩:=h1
   exact⟨cs,qz hm hcf (by simpa using hn) rfl (by simp) (h2 _ ⟨rfl,hh⟩)⟩
  all_goals exact absurd h1.1 h0
def tA.Spec(C:bt) (e f:Nat):Prop:=∀r:aY,(r.code=0->C.p f [r.cells] [some .hole] (.o7 []) none [r.cells])/\(r.code≠0->C.q f [r.cells] [some .hole] (up e r) [r.cells])
def wj.Spec(C:bt) (e f:Nat):Prop:=∀(k:Nat) (hi:Int) (hk:k<=7) (hh:hi<256^k),pF (pz k hi hk hh) I [some (I k),some (I 0),some (I hi)] C e f
def vT.Spec(C:bt) (e f:Nat):Prop:=pF aQ I [] C e f
def Gf.Spec(C:bt) (e f:Nat):Prop:=pF kL I [] C e f
def I7.Spec(C:bt) (e f:Nat):Prop:=pF CC B [] C e f
section
variable{P:Program} (hm:P.follows .mixedOrders=true) {f:Nat}
include hm
theorem tA.ok{fF e:Nat} (hc:gB true P f=some (gH fF e)) (hF:th.Spec (Pure P) fF):tA.Spec (Pure P) e f:=by
 intro r
 refine⟨fun h=>?_,fun h=>?_⟩
 ·have h2:(r.code !=0)=false:=by simp[h]
  refine fK hm hc (by show 1<=11;decide) rfl (by simp) (ay (keep:=[]) (i:=0) ?_)
  try simp only[I,B,D,RX,aB,aC,aE,↓KW,↓aD,seval,gH,Z.H,bf,aY.cells]
  refine⟨rfl,aq (hF r) ?_⟩;try simp only[I,B,D,RX,aB,aC,aE,↓KW,↓aD,seval,bf,aY.fault,h2]
  rfl
 ·have h2:(r.code !=0)=true:=by simp[h]
  refine qz hm hc (by show 1<=11;decide) rfl (by simp) (ay (keep:=[]) (i:=0) ?_)
  try simp only[I,B,D,RX,aB,aC,aE,↓KW,↓aD,seval,gH,Z.H,bf,aY.cells]
  refine⟨rfl,aq (hF r) ?_⟩;try simp only[I,B,D,RX,aB,aC,aE,↓KW,↓aD,seval,bf,aY.fault,h2]
  exact⟨rfl,rfl,trivial⟩
theorem wj.ok{fN fR e:Nat} (hc:gB true P f=some (iV fN fR)) (hN:AX.Spec (Pure P) fN) (hR:tA.Spec (Pure P) e fR):wj.Spec (Pure P) e f:=by
 intro k hi hk hh
 refine nF hm hc (by show 4<=19;decide) fun r hr hz Q hQ=>ay (keep:=[]) (i:=0) ?_
 obtain⟨v,r',e1,k1,u1,hQ⟩:=jB hQ hr
 have c1:(Pure P).p fN [r.cells] [none,some (I k),some (I 0),some (I hi)] (I v) none [r'.cells]:=by have:=hN r k 0 hi hr;rw[show eW r k 0 hi=(v,r')from e1]at this;exact this
 try simp only[I,B,D,RX,aB,aC,aE,↓KW,↓aD,seval,iV,Z.H,bf]
 refine⟨rfl,aq c1 ?_⟩;try simp only[I,B,D,RX,aB,aC,aE,↓KW,↓aD,seval,bf]
 by_cases z:r'.code=0
 ·refine⟨rfl,aq ((hR r').1 z) ?_⟩
  try simp only[I,B,D,RX,aB,aC,aE,↓KW,↓aD,seval,bf]
  refine iF hQ z ?_;try simp only[I,B,D,RX,aB,aC,aE,↓KW,↓aD,seval,iV]
 ·refine⟨rfl,aA ((hR r').2 z) ?_⟩
  try simp only[I,B,D,RX,aB,aC,aE,↓KW,↓aD,seval,bf]
  exact u1 z _ _ ⟨rfl,trivial⟩
theorem vT.ok{fN e:Nat} (hc:gB true P f=some (iA fN)) (hN:wj.Spec (Pure P) e fN):vT.Spec (Pure P) e f:=by
 refine nF hm hc (by show 1<=5;decide) fun r hr hz Q hQ=>ay (keep:=[]) (i:=0) ?_
 obtain⟨v,r',e1,k1,u1,hQ⟩:=jB hQ hr
 have hp:=(hN 2 9999 (by decide) (by decide)).step hr hz e1
 try simp only[I,B,D,RX,aB,aC,aE,↓KW,↓aD,seval,iA,Z.H,bf]
 by_cases z:r'.code=0
 ·refine⟨rfl,aq (hp.1 z) ?_⟩
  try simp only[I,B,D,RX,aB,aC,aE,↓KW,↓aD,seval,bf]
  refine iF hQ z ?_;try simp only[I,B,D,RX,aB,aC,aE,↓KW,↓aD,seval,iA]
 ·obtain⟨cs,hq⟩:=hp.2 z
  refine⟨rfl,aA hq ?_⟩;try simp only[I,B,D,RX,aB,aC,aE,↓KW,↓aD,seval,bf]
  exact u1 z _ _ ⟨rfl,trivial⟩
theorem Gf.ok{fN e:Nat} (hc:gB true P f=some (iW fN)) (hN:wj.Spec (Pure P) e fN):Gf.Spec (Pure P) e f:=by
 refine nF hm hc (by show 1<=5;decide) fun r hr hz Q hQ=>ay (keep:=[]) (i:=0) ?_
 obtain⟨v,r',e1,k1,u1,hQ⟩:=jB hQ hr
 have hp:=(hN 1 255 (by decide) (by decide)).step hr hz e1
 try simp only[I,B,D,RX,aB,aC,aE,↓KW,↓aD,seval,iW,Z.H,bf]
 by_cases z:r'.code=0
 ·refine⟨rfl,aq (hp.1 z) ?_⟩
  try simp only[I,B,D,RX,aB,aC,aE,↓KW,↓aD,seval,bf]
  refine iF hQ z ?_;try simp only[I,B,D,RX,aB,aC,aE,↓KW,↓aD,seval,iW]
 ·obtain⟨cs,hq⟩:=hp.2 z
  refine⟨rfl,aA hq ?_⟩;try simp only[I,B,D,RX,aB,aC,aE,↓KW,↓aD,seval,bf]
  exact u1 z _ _ ⟨rfl,trivial⟩
theorem I7.ok{fB fR e:Nat} (hc:gB true P f=some (iX fB fR)) (hB:yd.Spec (Pure P) fB) (hR:tA.Spec (Pure P) e fR):I7.Spec (Pure P) e f:=by
 refine nF hm hc (by show 1<=10;decide) fun r hr hz Q hQ=>ay (keep:=[]) (i:=0) ?_
 obtain⟨v,r',e1,k1,u1,hQ⟩:=jB hQ hr
 have c1:(Pure P).p fB [r.cells] [none] (B v) none [r'.cells]:=by have:=hB r hr;rw[show y8 r=(v,r')from e1]at this;exact this
 try simp only[I,B,D,RX,aB,aC,aE,↓KW,↓aD,seval,iX,Z.H,bf]
 refine⟨rfl,aq c1 ?_⟩;try simp only[I,B,D,RX,aB,aC,aE,↓KW,↓aD,seval,bf]
 by_cases z:r'.code=0
 ·refine⟨rfl,aq ((hR r').1 z) ?_⟩
  try simp only[I,B,D,RX,aB,aC,aE,↓KW,↓aD,seval,bf]
  refine iF hQ z ?_;try simp only[I,B,D,RX,aB,aC,aE,↓KW,↓aD,seval,iX]
 ·refine⟨rfl,aA ((hR r').2 z) ?_⟩
  try simp only[I,B,D,RX,aB,aC,aE,↓KW,↓aD,seval,bf]
  exact u1 z _ _ ⟨rfl,trivial⟩
end
theorem qQ{α β:Type} {e:Nat} {res:List eZ} {enc:β->AV} {a:Cd α} {f:α->β} {g:β->α} {h:∀x,a.v x->g (f x)=x} {r:aY}:gJ e res enc ((a.map f g h).m r)=gJ e res (fun x=>enc (f x)) (a.m r):=by
 funext ex s;cases ex<;>rfl
def uw:Nat:=4607182418800017408
def dF(i v:Nat):gQ:=match i with
 |1=>⟨0,v,uw,0,0,0,0⟩
 |2=>⟨0,uw,v,0,0,0,0⟩
 |3=>⟨0,uw,uw,v,0,0,0⟩
 |_=>⟨0,uw,uw,0,v,0,0⟩
theorem Mg:lvl uw=true:=by decide+kernel
theorem ES:eM 0=true:=by decide+kernel
def tF(d:gQ):Tb:={cR with aI:=some [d]}
theorem I8(d:gQ):oP (tF d)=gi d:=by
 have h:oP (tF d)=((((((((true&&(true&&true))&&true)&&(true&&(gi d&&true)))&&(true&&true))&&(true&&true))&&true)&&true)&&true):=rfl
 rw[h];simp
theorem Wh(v:Nat):gi (dF 1 v)=lvl v:=by
 have h:gi (dF 1 v)=(((((true&&lvl v)&&lvl uw)&&eM 0)&&eM 0)&&true):=rfl
 rw[h,Mg,ES];simp
theorem Wi(v:Nat):gi (dF 2 v)=lvl v:=by
 have h:gi (dF 2 v)=(((((true&&lvl uw)&&lvl v)&&eM 0)&&eM 0)&&true):=rfl
 rw[h,Mg,ES];simp
theorem Wj(v:Nat):gi (dF 3 v)=eM v:=by
 have h:gi (dF 3 v)=(((((true&&lvl uw)&&lvl uw)&&eM v)&&eM 0)&&true):=rfl
 rw[h,Mg,ES];simp
theorem Wk(v:Nat):gi (dF 4 v)=eM v:=by
 have h:gi (dF 4 v)=(((((true&&lvl uw)&&lvl uw)&&eM 0)&&eM v)&&true):=rfl
 rw[h,Mg,ES];simp
def UD(i:Nat) (lv:Bool):Prop:=(i=1/\lv=true)\/(i=2/\lv=true)\/(i=3/\lv=false)\/(i=4/\lv=false)
theorem Qk{i:Nat} {lv:Bool} (h:UD i lv) (v:Nat):oP (tF (dF i v))=Qc lv v:=by
 rw[I8]
 rcases h with⟨rfl,rfl⟩|⟨rfl,rfl⟩|⟨rfl,rfl⟩|⟨rfl,rfl⟩
 ·exact Wh v
 ·exact Wi v
 ·exact Wj v
 ·exact Wk v
def UE.Spec(i:Nat) (C:bt) (f:Nat):Prop:=∀cs:List AV,cs.length=7->C.r f [cs] [none] 0 i
def Ql.Spec(C:bt) (f:Nat):Prop:=UE.Spec 1 C f
def Qm.Spec(C:bt) (f:Nat):Prop:=UE.Spec 2 C f
def Qn.Spec(C:bt) (f:Nat):Prop:=UE.Spec 3 C f
def Qo.Spec(C:bt) (f:Nat):Prop:=UE.Spec 4 C f
def I9.Spec(C:bt) (e f:Nat):Prop:=∀(g i:Nat) (lv:Bool),UD i lv->UE.Spec i C g->pF (wh lv) Fl [some (.fn (.func g) [] [])] C e f
def Ja.Spec(C:bt) (e f:Nat):Prop:=pF lR (fun l=>aJ aG (bw l)) [] C e f
def UF.Spec(C:bt) (e f:Nat):Prop:=pF zS (fun p=>.agg p.cells) [] C e f
def Jb.Spec(C:bt) (e f:Nat):Prop:=pF qL (fun p=>.agg p.cells) [] C e f
def UG.Spec(C:bt) (e f:Nat):Prop:=pF CE (fun p=>.agg p.cells) [] C e f
section
variable{P:Program} (hm:P.follows .mixedOrders=true) {f:Nat}
include hm
theorem Wl.ok(hc:gB true P f=some iB):Ql.Spec (Pure P) f:=by
 intro cs hl
 refine uh hm hc (by show 1<=6;decide) (by simp) (by simp) (ay (keep:=[]) (i:=0) ?_)
 try simp only[I,B,D,RX,aB,aC,aE,↓KW,↓aD,seval,iB,Z.H,bf]
 exact⟨rfl,rfl,trivial⟩
theorem Wm.ok(hc:gB true P f=some iC):Qm.Spec (Pure P) f:=by
 intro cs hl
 refine uh hm hc (by show 1<=6;decide) (by simp) (by simp) (ay (keep:=[]) (i:=0) ?_)
 try simp only[I,B,D,RX,aB,aC,aE,↓KW,↓aD,seval,iC,Z.H,bf]
 exact⟨rfl,rfl,trivial⟩
theorem Wn.ok(hc:gB true P f=some iD):Qn.Spec (Pure P) f:=by
 intro cs hl
 refine uh hm hc (by show 1<=6;decide) (by simp) (by simp) (ay (keep:=[]) (i:=0) ?_)
 try simp only[I,B,D,RX,aB,aC,aE,↓KW,↓aD,seval,iD,Z.H,bf]
 exact⟨rfl,rfl,trivial⟩
theorem Wo.ok(hc:gB true P f=some iE):Qo.Spec (Pure P) f:=by
 intro cs hl
 refine uh hm hc (by show 1<=6;decide) (by simp) (by simp) (ay (keep:=[]) (i:=0) ?_)
 try simp only[I,B,D,RX,aB,aC,aE,↓KW,↓aD,seval,iE,Z.H,bf]
 exact⟨rfl,rfl,trivial⟩
theorem I9.ok{fA fF fR eD fM e:Nat} (hc:gB true P f=some (eS fA fF fR eD fM e)) (hA:L8.Spec (Pure P) fA) (hF:tj.Spec (Pure P) fF) (hR:tA.Spec (Pure P) e fR) (hM:Ga.Spec (Pure P) fM):I9.Spec (Pure P) e f:=by
 intro g i lv hi hg
 refine nF hm hc (by show 2<=30;decide) fun r hr hz Q hQ=>ay (keep:=[]) (i:=0) ?_
 have c1:=hF r hr
 have k1:=(uj hr).1
 have hx:=Mf r
 obtain⟨x,q,e1⟩:∃x q,gG r=(x,q):=⟨_,_,rfl⟩
 rw[e1]at c1 k1 hx;simp only at c1 k1 hx;try simp only[I,B,D,RY,aB,aC,aE,↓KW,↓aD,seval,eS,Z.H,bf]
 refine⟨rfl,aq (hA r) ?_⟩;try simp only[I,B,D,RY,aB,aC,aE,↓KW,↓aD,seval,bf]
 refine⟨rfl,aq c1 ?_⟩;try simp only[I,B,D,RY,aB,aC,aE,↓KW,↓aD,seval,bf]
 by_cases z:q.code=0
 ·refine⟨rfl,aq ((hR q).1 z) ?_⟩
  try simp only[I,B,D,RY,aB,aC,aE,↓KW,↓aD,seval,bf]
  refine⟨rfl,Ik (hg _ rfl) rfl ?_⟩
  have i6:i<=6:=by rcases hi with⟨rfl,_⟩|⟨rfl,_⟩|⟨rfl,_⟩|⟨rfl,_⟩<;>decide
  have hset:setCells [.int .i64 0,.float .f64 4607182418800017408,.float .f64 4607182418800017408,.float .f64 0,.float .f64 0,.int .i64 0,.int .i64 0] i [.float .f64 x]=(dF i x).cells:=by
   rcases hi with⟨rfl,_⟩|⟨rfl,_⟩|⟨rfl,_⟩|⟨rfl,_⟩<;>rfl
  have hpa:bF (dF i x).cells 0 (some 7)=some (.agg (dF i x).cells):=rfl
  have hl7:(dF i x).cells.length=7:=rfl
  have hln0:cR.Ln:=⟨rfl,rfl,rfl⟩
  have hln:(tF (dF i x)).Ln:=⟨rfl,rfl,rfl⟩
  have hfw:(tF (dF i x)).Fw:=by
   intro d hd
   have:d=dF i x:=by simpa[tF]using hd
   subst this
   have h1:uw<2^64:=by decide
   have h0:(0:Nat)<2^64:=by decide
   rcases hi with⟨rfl,_⟩|⟨rfl,_⟩|⟨rfl,_⟩|⟨rfl,_⟩
   ·exact⟨hx,h1,h0,h0⟩
   ·exact⟨h1,hx,h0,h0⟩
   ·exact⟨h1,h1,hx,h0⟩
   ·exact⟨h1,h1,h0,hx⟩
  have hset2:List.take 113 cR.cells++[AV.sl [(dF i x).cells]]++List.drop 114 cR.cells=(tF (dF i x)).cells:=hln0.yj (some [dF i x])
  have hz:cq=cR.cells:=rfl
  have hzl:cR.cells.length=131:=rfl
  have cM:=hM (tF (dF i x)) hln hfw
  rw[Qk hi]at cM
  have hset0:setCells [.int .i64 0,.float .f64 0,.float .f64 0,.float .f64 0,.float .f64 0,.int .i64 0,.int .i64 0] 0 [.int .i64 0,.float .f64 4607182418800017408,.float .f64 4607182418800017408,.float .f64 0,.float .f64 0,.int .i64 0,.int .i64 0]=[.int .i64 0,.float .f64 4607182418800017408,.float .f64 4607182418800017408,.float .f64 0,.float .f64 0,.int .i64 0,.int .i64 0]:=rfl
  try simp only[I,B,D,RY,aB,aC,aE,↓KW,↓aD,seval,bf,hset0,hset,hpa,hl7,i6,hz,hzl,hset2]
  refine cA cM ?_
  by_cases h2:Qc lv x=true
  ·have hs:(wh lv).m r=(x,q):=by show jZ lv r=_;unfold jZ;rw[e1,if_pos z,if_pos h2]
   rw[hs]at hQ;try simp only[I,B,D,RY,aB,aC,aE,↓KW,↓aD,seval,bf,h2]
   refine iF hQ z ?_;try simp only[I,B,D,RY,aB,aC,aE,↓KW,↓aD,seval,eS]
  ·have h2:Qc lv x=false:=by simpa using h2
   have hs:(wh lv).m r=(0,{q with code:=4,Ip:=r.fm,fm:=r.fm}):=by show jZ lv r=_;unfold jZ;rw[e1,if_pos z,if_neg (by rw[h2];decide)]
   rw[hs]at hQ;try simp only[I,B,D,RY,aB,aC,aE,↓KW,↓aD,seval,bf,h2]
   rw[hQ]
   exact⟨by show(4:Int)≠0;decide,rfl,_,rfl,trivial⟩
 ·have hs:jZ lv r=(0,q):=by unfold jZ;rw[e1,if_neg z]
  refine⟨rfl,aA ((hR q).2 z) ?_⟩;try simp only[I,B,D,RY,aB,aC,aE,↓KW,↓aD,seval,bf]
  rw[hQ]
  exact⟨by show(jZ lv r).2.code≠0;rw[hs];exact z,by show _=dz (up e (jZ lv r).2);rw[hs],_,rfl,trivial⟩
end
theorem ji:IntKind.i64.wrap 1=1/\IntKind.i64.wrap 2=2/\IntKind.i64.wrap 3=3/\IntKind.i64.wrap 4=4/\IntKind.i64.wrap 5=5/\IntKind.i64.wrap 6=6/\IntKind.i64.wrap 7=7/\IntKind.i64.wrap 8=8/\IntKind.i64.wrap 9=9:=by decide
section
variable{P:Program} (hm:P.follows .mixedOrders=true) {f:Nat}
include hm
theorem Jb.ok{fN fF f1 f2 f3 f4 fT e:Nat} (hc:gB true P f=some (fj fN fF f1 f2 f3 f4 fT)) (hN:wj.Spec (Pure P) e fN) (hF:I9.Spec (Pure P) e fF) (h1:Ql.Spec (Pure P) f1) (h2:Qm.Spec (Pure P) f2) (h3:Qn.Spec (Pure P) f3) (h4:Qo.Spec (Pure P) f4) (hT:vT.Spec (Pure P) e fT):Jb.Spec (Pure P) e f:=by
 refine nF hm hc (by show 1<=26;decide) fun r hr hz Q hQ=>ay (keep:=[]) (i:=0) ?_
 unfold qL at hQ;rw[qQ]at hQ;try simp only[I,B,D,RX,aB,aC,aE,↓KW,↓aD,seval,fj,Z.H,bf]
 obtain⟨v0,r0,e0,k0,u0,hQ⟩:=aS hQ hr
 have p0:=(hN 1 7 (by decide) (by decide)).step hr hz e0
 by_cases z0:r0.code=0
 rotate_left
 ·obtain⟨cs,hq⟩:=p0.2 z0
  refine⟨rfl,aA hq ?_⟩;try simp only[I,B,D,RX,aB,aC,aE,↓KW,↓aD,seval,bf]
  exact u0 z0 _ _ ⟨rfl,trivial⟩
 refine⟨rfl,aq (p0.1 z0) ?_⟩;try simp only[I,B,D,RX,aB,aC,aE,↓KW,↓aD,seval,bf,ji]
 obtain⟨v1,r1,e1,k1,u1,hQ⟩:=aS hQ k0
 have p1:=(hF f1 1 true (.inl ⟨rfl,rfl⟩) h1).step k0 z0 e1
 by_cases z1:r1.code=0
 rotate_left
 ·obtain⟨cs,hq⟩:=p1.2 z1
  refine⟨rfl,aA hq ?_⟩;try simp only[I,B,D,RX,aB,aC,aE,↓KW,↓aD,seval,bf]
  exact u1 z1 _ _ ⟨rfl,trivial⟩
 refine⟨rfl,aq (p1.1 z1) ?_⟩;try simp only[I,B,D,RX,aB,aC,aE,↓KW,↓aD,seval,bf,ji]
 obtain⟨v2,r2,e2,k2,u2,hQ⟩:=aS hQ k1
 have p2:=(hF f2 2 true (.inr (.inl ⟨rfl,rfl⟩)) h2).step k1 z1 e2
 by_cases z2:r2.code=0
 rotate_left
 ·obtain⟨cs,hq⟩:=p2.2 z2
  refine⟨rfl,aA hq ?_⟩;try simp only[I,B,D,RX,aB,aC,aE,↓KW,↓aD,seval,bf]
  exact u2 z2 _ _ ⟨rfl,trivial⟩
 refine⟨rfl,aq (p2.1 z2) ?_⟩;try simp only[I,B,D,RX,aB,aC,aE,↓KW,↓aD,seval,bf,ji]
 obtain⟨v3,r3,e3,k3,u3,hQ⟩:=aS hQ k2
 have p3:=(hF f3 3 false (.inr (.inr (.inl ⟨rfl,rfl⟩))) h3).step k2 z2 e3
 by_cases z3:r3.code=0
 rotate_left
 ·obtain⟨cs,hq⟩:=p3.2 z3
  refine⟨rfl,aA hq ?_⟩;try simp only[I,B,D,RX,aB,aC,aE,↓KW,↓aD,seval,bf]
  exact u3 z3 _ _ ⟨rfl,trivial⟩
 refine⟨rfl,aq (p3.1 z3) ?_⟩;try simp only[I,B,D,RX,aB,aC,aE,↓KW,↓aD,seval,bf,ji]
 obtain⟨v4,r4,e4,k4,u4,hQ⟩:=aS hQ k3
 have p4:=(hF f4 4 false (.inr (.inr (.inr ⟨rfl,rfl⟩))) h4).step k3 z3 e4
 by_cases z4:r4.code=0
 rotate_left
 ·obtain⟨cs,hq⟩:=p4.2 z4
  refine⟨rfl,aA hq ?_⟩;try simp only[I,B,D,RX,aB,aC,aE,↓KW,↓aD,seval,bf]
  exact u4 z4 _ _ ⟨rfl,trivial⟩
 refine⟨rfl,aq (p4.1 z4) ?_⟩;try simp only[I,B,D,RX,aB,aC,aE,↓KW,↓aD,seval,bf,ji]
 obtain⟨v5,r5,e5,k5,u5,hQ⟩:=aS hQ k4
 have p5:=hT.step k4 z4 e5
 by_cases z5:r5.code=0
 rotate_left
 ·obtain⟨cs,hq⟩:=p5.2 z5
  refine⟨rfl,aA hq ?_⟩;try simp only[I,B,D,RX,aB,aC,aE,↓KW,↓aD,seval,bf]
  exact u5 z5 _ _ ⟨rfl,trivial⟩
 refine⟨rfl,aq (p5.1 z5) ?_⟩;try simp only[I,B,D,RX,aB,aC,aE,↓KW,↓aD,seval,bf,ji]
 obtain⟨v6,r6,e6,k6,u6,hQ⟩:=jB hQ k5
 have p6:=hT.step k5 z5 e6
 by_cases z6:r6.code=0
 rotate_left
 ·obtain⟨cs,hq⟩:=p6.2 z6
  refine⟨rfl,aA hq ?_⟩;try simp only[I,B,D,RX,aB,aC,aE,↓KW,↓aD,seval,bf]
  exact u6 z6 _ _ ⟨rfl,trivial⟩
 refine⟨rfl,aq (p6.1 z6) ?_⟩;try simp only[I,B,D,RX,aB,aC,aE,↓KW,↓aD,seval,bf,ji]
 refine iF hQ z6 ?_;try simp only[I,B,D,RX,aB,aC,aE,↓KW,↓aD,seval,fj,gQ.cells]
theorem UF.ok{fY fT fN e:Nat} (hc:gB true P f=some (gI fY fT fN)) (hY:I7.Spec (Pure P) e fY) (hT:vT.Spec (Pure P) e fT) (hN:wj.Spec (Pure P) e fN):UF.Spec (Pure P) e f:=by
 refine nF hm hc (by show 1<=39;decide) fun r hr hz Q hQ=>ay (keep:=[]) (i:=0) ?_
 unfold zS at hQ;rw[qQ]at hQ;try simp only[I,B,D,RX,aB,aC,aE,↓KW,↓aD,seval,gI,Z.H,bf,eE]
 obtain⟨v0,r0,e0,k0,u0,hQ⟩:=aS hQ hr
 have p0:=hY.step hr hz e0
 by_cases z0:r0.code=0
 rotate_left
 ·obtain⟨cs,hq⟩:=p0.2 z0
  refine⟨rfl,aA hq ?_⟩;try simp only[I,B,D,RX,aB,aC,aE,↓KW,↓aD,seval,bf]
  exact u0 z0 _ _ ⟨rfl,trivial⟩
 refine⟨rfl,aq (p0.1 z0) ?_⟩;try simp only[I,B,D,RX,aB,aC,aE,↓KW,↓aD,seval,bf,ji]
 refine bp ?_;try simp only[I,B,D,RX,aB,aC,aE,↓KW,↓aD,seval,bf,ji]
 obtain⟨v1,r1,e1,k1,u1,hQ⟩:=aS hQ k0
 have p1:=hT.step k0 z0 e1
 by_cases z1:r1.code=0
 rotate_left
 ·obtain⟨cs,hq⟩:=p1.2 z1
  refine⟨rfl,aA hq ?_⟩;try simp only[I,B,D,RX,aB,aC,aE,↓KW,↓aD,seval,bf]
  exact u1 z1 _ _ ⟨rfl,trivial⟩
 refine⟨rfl,aq (p1.1 z1) ?_⟩;try simp only[I,B,D,RX,aB,aC,aE,↓KW,↓aD,seval,bf,ji]
 refine bp ?_;try simp only[I,B,D,RX,aB,aC,aE,↓KW,↓aD,seval,bf,ji]
 obtain⟨v2,r2,e2,k2,u2,hQ⟩:=aS hQ k1
 have p2:=hT.step k1 z1 e2
 by_cases z2:r2.code=0
 rotate_left
 ·obtain⟨cs,hq⟩:=p2.2 z2
  refine⟨rfl,aA hq ?_⟩;try simp only[I,B,D,RX,aB,aC,aE,↓KW,↓aD,seval,bf]
  exact u2 z2 _ _ ⟨rfl,trivial⟩
 refine⟨rfl,aq (p2.1 z2) ?_⟩;try simp only[I,B,D,RX,aB,aC,aE,↓KW,↓aD,seval,bf,ji]
 refine bp ?_;try simp only[I,B,D,RX,aB,aC,aE,↓KW,↓aD,seval,bf,ji]
 obtain⟨v3,r3,e3,k3,u3,hQ⟩:=aS hQ k2
 have p3:=hT.step k2 z2 e3
 by_cases z3:r3.code=0
 rotate_left
 ·obtain⟨cs,hq⟩:=p3.2 z3
  refine⟨rfl,aA hq ?_⟩;try simp only[I,B,D,RX,aB,aC,aE,↓KW,↓aD,seval,bf]
  exact u3 z3 _ _ ⟨rfl,trivial⟩
 refine⟨rfl,aq (p3.1 z3) ?_⟩;try simp only[I,B,D,RX,aB,aC,aE,↓KW,↓aD,seval,bf,ji]
 refine bp ?_;try simp only[I,B,D,RX,aB,aC,aE,↓KW,↓aD,seval,bf,ji]
 obtain⟨v4,r4,e4,k4,u4,hQ⟩:=aS hQ k3
 have p4:=hT.step k3 z3 e4
 by_cases z4:r4.code=0
 rotate_left
 ·obtain⟨cs,hq⟩:=p4.2 z4
  refine⟨rfl,aA hq ?_⟩;try simp only[I,B,D,RX,aB,aC,aE,↓KW,↓aD,seval,bf]
  exact u4 z4 _ _ ⟨rfl,trivial⟩
 refine⟨rfl,aq (p4.1 z4) ?_⟩;try simp only[I,B,D,RX,aB,aC,aE,↓KW,↓aD,seval,bf,ji]
 refine bp ?_;try simp only[I,B,D,RX,aB,aC,aE,↓KW,↓aD,seval,bf,ji]
 obtain⟨v5,r5,e5,k5,u5,hQ⟩:=aS hQ k4
 have p5:=hT.step k4 z4 e5
 by_cases z5:r5.code=0
 rotate_left
 ·obtain⟨cs,hq⟩:=p5.2 z5
  refine⟨rfl,aA hq ?_⟩;try simp only[I,B,D,RX,aB,aC,aE,↓KW,↓aD,seval,bf]
  exact u5 z5 _ _ ⟨rfl,trivial⟩
 refine⟨rfl,aq (p5.1 z5) ?_⟩;try simp only[I,B,D,RX,aB,aC,aE,↓KW,↓aD,seval,bf,ji]
 refine bp ?_;try simp only[I,B,D,RX,aB,aC,aE,↓KW,↓aD,seval,bf,ji]
 obtain⟨v6,r6,e6,k6,u6,hQ⟩:=aS hQ k5
 have p6:=hT.step k5 z5 e6
 by_cases z6:r6.code=0
 rotate_left
 ·obtain⟨cs,hq⟩:=p6.2 z6
  refine⟨rfl,aA hq ?_⟩;try simp only[I,B,D,RX,aB,aC,aE,↓KW,↓aD,seval,bf]
  exact u6 z6 _ _ ⟨rfl,trivial⟩
 refine⟨rfl,aq (p6.1 z6) ?_⟩;try simp only[I,B,D,RX,aB,aC,aE,↓KW,↓aD,seval,bf,ji]
 refine bp ?_;try simp only[I,B,D,RX,aB,aC,aE,↓KW,↓aD,seval,bf,ji]
 obtain⟨v7,r7,e7,k7,u7,hQ⟩:=aS hQ k6
 have p7:=hT.step k6 z6 e7
 by_cases z7:r7.code=0
 rotate_left
 ·obtain⟨cs,hq⟩:=p7.2 z7
  refine⟨rfl,aA hq ?_⟩;try simp only[I,B,D,RX,aB,aC,aE,↓KW,↓aD,seval,bf]
  exact u7 z7 _ _ ⟨rfl,trivial⟩
 refine⟨rfl,aq (p7.1 z7) ?_⟩;try simp only[I,B,D,RX,aB,aC,aE,↓KW,↓aD,seval,bf,ji]
 refine bp ?_;try simp only[I,B,D,RX,aB,aC,aE,↓KW,↓aD,seval,bf,ji]
 obtain⟨v8,r8,e8,k8,u8,hQ⟩:=aS hQ k7
 have p8:=hT.step k7 z7 e8
 by_cases z8:r8.code=0
 rotate_left
 ·obtain⟨cs,hq⟩:=p8.2 z8
  refine⟨rfl,aA hq ?_⟩;try simp only[I,B,D,RX,aB,aC,aE,↓KW,↓aD,seval,bf]
  exact u8 z8 _ _ ⟨rfl,trivial⟩
 refine⟨rfl,aq (p8.1 z8) ?_⟩;try simp only[I,B,D,RX,aB,aC,aE,↓KW,↓aD,seval,bf,ji]
 refine bp ?_;try simp only[I,B,D,RX,aB,aC,aE,↓KW,↓aD,seval,bf,ji]
 obtain⟨v9,r9,e9,k9,u9,hQ⟩:=aS hQ k8
 have p9:=hT.step k8 z8 e9
 by_cases z9:r9.code=0
 rotate_left
 ·obtain⟨cs,hq⟩:=p9.2 z9
  refine⟨rfl,aA hq ?_⟩;try simp only[I,B,D,RX,aB,aC,aE,↓KW,↓aD,seval,bf]
  exact u9 z9 _ _ ⟨rfl,trivial⟩
 refine⟨rfl,aq (p9.1 z9) ?_⟩;try simp only[I,B,D,RX,aB,aC,aE,↓KW,↓aD,seval,bf,ji]
 refine bp ?_;try simp only[I,B,D,RX,aB,aC,aE,↓KW,↓aD,seval,bf,ji]
 obtain⟨v10,r10,e10,k10,u10,hQ⟩:=aS hQ k9
 have p10:=(hN 1 3 (by decide) (by decide)).step k9 z9 e10
 by_cases z10:r10.code=0
 rotate_left
 ·obtain⟨cs,hq⟩:=p10.2 z10
  refine⟨rfl,aA hq ?_⟩;try simp only[I,B,D,RX,aB,aC,aE,↓KW,↓aD,seval,bf]
  exact u10 z10 _ _ ⟨rfl,trivial⟩
 refine⟨rfl,aq (p10.1 z10) ?_⟩;try simp only[I,B,D,RX,aB,aC,aE,↓KW,↓aD,seval,bf,ji]
 obtain⟨v11,r11,e11,k11,u11,hQ⟩:=aS hQ k10
 have p11:=hY.step k10 z10 e11
 by_cases z11:r11.code=0
 rotate_left
 ·obtain⟨cs,hq⟩:=p11.2 z11
  refine⟨rfl,aA hq ?_⟩;try simp only[I,B,D,RX,aB,aC,aE,↓KW,↓aD,seval,bf]
  exact u11 z11 _ _ ⟨rfl,trivial⟩
 refine⟨rfl,aq (p11.1 z11) ?_⟩;try simp only[I,B,D,RX,aB,aC,aE,↓KW,↓aD,seval,bf,ji]
 obtain⟨v12,r12,e12,k12,u12,hQ⟩:=jB hQ k11
 have p12:=hY.step k11 z11 e12
 by_cases z12:r12.code=0
 rotate_left
 ·obtain⟨cs,hq⟩:=p12.2 z12
  refine⟨rfl,aA hq ?_⟩;try simp only[I,B,D,RX,aB,aC,aE,↓KW,↓aD,seval,bf]
  exact u12 z12 _ _ ⟨rfl,trivial⟩
 refine⟨rfl,aq (p12.1 z12) ?_⟩;try simp only[I,B,D,RX,aB,aC,aE,↓KW,↓aD,seval,bf,ji]
 refine iF hQ z12 ?_;try simp only[I,B,D,RX,aB,aC,aE,↓KW,↓aD,seval,gI,Ph.cells]
theorem UG.ok{fS fT fN e:Nat} (hc:gB true P f=some (iz fS fT fN)) (hS:Gf.Spec (Pure P) e fS) (hT:vT.Spec (Pure P) e fT) (hN:wj.Spec (Pure P) e fN):UG.Spec (Pure P) e f:=by
 refine nF hm hc (by show 1<=44;decide) fun r hr hz Q hQ=>ay (keep:=[]) (i:=0) ?_
 unfold CE at hQ;rw[qQ]at hQ;try simp only[I,B,D,RX,aB,aC,aE,↓KW,↓aD,seval,iz,Z.H,bf,eY]
 refine bp ?_;try simp only[I,B,D,RX,aB,aC,aE,↓KW,↓aD,seval,bf,ji]
 obtain⟨v0,r0,e0,k0,u0,hQ⟩:=aS hQ hr
 have p0:=hS.step hr hz e0
 by_cases z0:r0.code=0
 rotate_left
 ·obtain⟨cs,hq⟩:=p0.2 z0
  refine⟨rfl,aA hq ?_⟩;try simp only[I,B,D,RX,aB,aC,aE,↓KW,↓aD,seval,bf]
  exact u0 z0 _ _ ⟨rfl,trivial⟩
 refine⟨rfl,aq (p0.1 z0) ?_⟩;try simp only[I,B,D,RX,aB,aC,aE,↓KW,↓aD,seval,bf,ji]
 refine bp ?_;try simp only[I,B,D,RX,aB,aC,aE,↓KW,↓aD,seval,bf,ji]
 obtain⟨v1,r1,e1,k1,u1,hQ⟩:=aS hQ k0
 have p1:=hS.step k0 z0 e1
 by_cases z1:r1.code=0
 rotate_left
 ·obtain⟨cs,hq⟩:=p1.2 z1
  refine⟨rfl,aA hq ?_⟩;try simp only[I,B,D,RX,aB,aC,aE,↓KW,↓aD,seval,bf]
  exact u1 z1 _ _ ⟨rfl,trivial⟩
 refine⟨rfl,aq (p1.1 z1) ?_⟩;try simp only[I,B,D,RX,aB,aC,aE,↓KW,↓aD,seval,bf,ji]
 refine bp ?_;try simp only[I,B,D,RX,aB,aC,aE,↓KW,↓aD,seval,bf,ji]
 obtain⟨v2,r2,e2,k2,u2,hQ⟩:=aS hQ k1
 have p2:=hS.step k1 z1 e2
 by_cases z2:r2.code=0
 rotate_left
 ·obtain⟨cs,hq⟩:=p2.2 z2
  refine⟨rfl,aA hq ?_⟩;try simp only[I,B,D,RX,aB,aC,aE,↓KW,↓aD,seval,bf]
  exact u2 z2 _ _ ⟨rfl,trivial⟩
 refine⟨rfl,aq (p2.1 z2) ?_⟩;try simp only[I,B,D,RX,aB,aC,aE,↓KW,↓aD,seval,bf,ji]
 refine bp ?_;try simp only[I,B,D,RX,aB,aC,aE,↓KW,↓aD,seval,bf,ji]
 obtain⟨v3,r3,e3,k3,u3,hQ⟩:=aS hQ k2
 have p3:=hS.step k2 z2 e3
 by_cases z3:r3.code=0
 rotate_left
 ·obtain⟨cs,hq⟩:=p3.2 z3
  refine⟨rfl,aA hq ?_⟩;try simp only[I,B,D,RX,aB,aC,aE,↓KW,↓aD,seval,bf]
  exact u3 z3 _ _ ⟨rfl,trivial⟩
 refine⟨rfl,aq (p3.1 z3) ?_⟩;try simp only[I,B,D,RX,aB,aC,aE,↓KW,↓aD,seval,bf,ji]
 refine bp ?_;try simp only[I,B,D,RX,aB,aC,aE,↓KW,↓aD,seval,bf,ji]
 refine bp ?_;try simp only[I,B,D,RX,aB,aC,aE,↓KW,↓aD,seval,bf,ji]
 obtain⟨v4,r4,e4,k4,u4,hQ⟩:=aS hQ k3
 have p4:=hT.step k3 z3 e4
 by_cases z4:r4.code=0
 rotate_left
 ·obtain⟨cs,hq⟩:=p4.2 z4
  refine⟨rfl,aA hq ?_⟩;try simp only[I,B,D,RX,aB,aC,aE,↓KW,↓aD,seval,bf]
  exact u4 z4 _ _ ⟨rfl,trivial⟩
 refine⟨rfl,aq (p4.1 z4) ?_⟩;try simp only[I,B,D,RX,aB,aC,aE,↓KW,↓aD,seval,bf,ji]
 refine bp ?_;try simp only[I,B,D,RX,aB,aC,aE,↓KW,↓aD,seval,bf,ji]
 obtain⟨v5,r5,e5,k5,u5,hQ⟩:=aS hQ k4
 have p5:=hT.step k4 z4 e5
 by_cases z5:r5.code=0
 rotate_left
 ·obtain⟨cs,hq⟩:=p5.2 z5
  refine⟨rfl,aA hq ?_⟩;try simp only[I,B,D,RX,aB,aC,aE,↓KW,↓aD,seval,bf]
  exact u5 z5 _ _ ⟨rfl,trivial⟩
 refine⟨rfl,aq (p5.1 z5) ?_⟩;try simp only[I,B,D,RX,aB,aC,aE,↓KW,↓aD,seval,bf,ji]
 refine bp ?_;try simp only[I,B,D,RX,aB,aC,aE,↓KW,↓aD,seval,bf,ji]
 obtain⟨v6,r6,e6,k6,u6,hQ⟩:=aS hQ k5
 have p6:=hT.step k5 z5 e6
 by_cases z6:r6.code=0
 rotate_left
 ·obtain⟨cs,hq⟩:=p6.2 z6
  refine⟨rfl,aA hq ?_⟩;try simp only[I,B,D,RX,aB,aC,aE,↓KW,↓aD,seval,bf]
  exact u6 z6 _ _ ⟨rfl,trivial⟩
 refine⟨rfl,aq (p6.1 z6) ?_⟩;try simp only[I,B,D,RX,aB,aC,aE,↓KW,↓aD,seval,bf,ji]
 refine bp ?_;try simp only[I,B,D,RX,aB,aC,aE,↓KW,↓aD,seval,bf,ji]
 obtain⟨v7,r7,e7,k7,u7,hQ⟩:=aS hQ k6
 have p7:=hT.step k6 z6 e7
 by_cases z7:r7.code=0
 rotate_left
 ·obtain⟨cs,hq⟩:=p7.2 z7
  refine⟨rfl,aA hq ?_⟩;try simp only[I,B,D,RX,aB,aC,aE,↓KW,↓aD,seval,bf]
  exact u7 z7 _ _ ⟨rfl,trivial⟩
 refine⟨rfl,aq (p7.1 z7) ?_⟩;try simp only[I,B,D,RX,aB,aC,aE,↓KW,↓aD,seval,bf,ji]
 refine bp ?_;try simp only[I,B,D,RX,aB,aC,aE,↓KW,↓aD,seval,bf,ji]
 obtain⟨v8,r8,e8,k8,u8,hQ⟩:=aS hQ k7
 have p8:=hT.step k7 z7 e8
 by_cases z8:r8.code=0
 rotate_left
 ·obtain⟨cs,hq⟩:=p8.2 z8
  refine⟨rfl,aA hq ?_⟩;try simp only[I,B,D,RX,aB,aC,aE,↓KW,↓aD,seval,bf]
  exact u8 z8 _ _ ⟨rfl,trivial⟩
 refine⟨rfl,aq (p8.1 z8) ?_⟩;try simp only[I,B,D,RX,aB,aC,aE,↓KW,↓aD,seval,bf,ji]
 refine bp ?_;try simp only[I,B,D,RX,aB,aC,aE,↓KW,↓aD,seval,bf,ji]
 obtain⟨v9,r9,e9,k9,u9,hQ⟩:=aS hQ k8
 have p9:=hT.step k8 z8 e9
 by_cases z9:r9.code=0
 rotate_left
 ·obtain⟨cs,hq⟩:=p9.2 z9
  refine⟨rfl,aA hq ?_⟩;try simp only[I,B,D,RX,aB,aC,aE,↓KW,↓aD,seval,bf]
  exact u9 z9 _ _ ⟨rfl,trivial⟩
 refine⟨rfl,aq (p9.1 z9) ?_⟩;try simp only[I,B,D,RX,aB,aC,aE,↓KW,↓aD,seval,bf,ji]
 refine bp ?_;try simp only[I,B,D,RX,aB,aC,aE,↓KW,↓aD,seval,bf,ji]
 obtain⟨v10,r10,e10,k10,u10,hQ⟩:=jB hQ k9
 have p10:=(hN 4 2147483647 (by decide) (by decide)).step k9 z9 e10
 by_cases z10:r10.code=0
 rotate_left
 ·obtain⟨cs,hq⟩:=p10.2 z10
  refine⟨rfl,aA hq ?_⟩;try simp only[I,B,D,RX,aB,aC,aE,↓KW,↓aD,seval,bf]
  exact u10 z10 _ _ ⟨rfl,trivial⟩
 refine⟨rfl,aq (p10.1 z10) ?_⟩;try simp only[I,B,D,RX,aB,aC,aE,↓KW,↓aD,seval,bf,ji]
 refine iF hQ z10 ?_;try simp only[I,B,D,RX,aB,aC,aE,↓KW,↓aD,seval,iz,Rl.cells]
end
theorem CL{α:Type} {e:Nat} {res:List eZ} {Q:Exit->S->Prop} {c:Cd α} {enc:List α->AV} {n i:Nat} {r:aY} (hQ:Q=gJ e res enc ((c.rep (n-i)).m r)) (h:i<n) (hr:r.Ok):
  ∃v r',c.m r=(v,r')/\r'.Ok/\(r'.code≠0->∀s cs,fJ s.boxes 0 [cs]->Q (.panic (dz (up e r'))) s)/\Q=gJ e res (fun y=>enc (v::y)) ((c.rep (n-(i+1))).m r'):=by
 have hQ':Q=gJ e res (fun x=>enc (x.1::x.2)) ((c.seq fun _=>c.rep (n-(i+1))).m r):=by
  rw[show n-i=(n-(i+1))+1 by omega]at hQ
  rw[hQ];funext ex s;cases ex<;>rfl
 exact aS hQ' hr
theorem zW{α:Type} {e:Nat} {res:List eZ} {Q:Exit->S->Prop} {c:Cd α} {enc:List α->AV} {n i:Nat} {r:aY} (hQ:Q=gJ e res enc ((c.rep (n-i)).m r)) (h:i=n):Q=gJ e res enc ([],r):=by
 subst h;rw[Nat.sub_self]at hQ;exact hQ
section
variable{P:Program} (hm:P.follows .mixedOrders=true) {f:Nat}
include hm
theorem Ja.ok{fN eI e:Nat} (hc:gB true P f=some (dh fN eI)) (hN:wj.Spec (Pure P) e fN):Ja.Spec (Pure P) e f:=by
 refine nF hm hc (by show 1<=15;decide) fun r hr hz Q hQ=>ay (keep:=[]) (i:=0) ?_
 unfold lR Cd.many at hQ;rw[qQ]at hQ;try simp only[I,B,D,RX,aB,aC,aE,↓KW,↓aD,seval,dh,Z.H,bf]
 obtain⟨v0,r0,e0,k0,u0,hQ⟩:=aS hQ hr
 have p0:=(hN 1 8 (by decide) (by decide)).step hr hz e0
 by_cases z0:r0.code=0
 rotate_left
 ·obtain⟨cs,hq⟩:=p0.2 z0
  refine⟨rfl,aA hq ?_⟩;try simp only[I,B,D,RX,aB,aC,aE,↓KW,↓aD,seval,bf]
  exact u0 z0 _ _ ⟨rfl,trivial⟩
 refine⟨rfl,aq (p0.1 z0) ?_⟩;try simp only[I,B,D,RX,aB,aC,aE,↓KW,↓aD,seval,bf]
 have hb:0<=v0/\v0<=8:=by have:=uv r 1 8 (by decide);rw[show eW r 1 0 8=(v0,r0)from e0]at this;exact this
 obtain⟨N,rfl,hN8⟩:∃N:Nat,v0=(N:Int)/\N<=8:=⟨v0.toNat,by omega,by omega⟩
 simp only[Int.toNat_natCast]at hQ
 refine aP (fun x:List Int×aY=>(⟨[(5,.dat (I N) none),(6,.dat (I x.1.length) none),(3,d6 aG x.1 0),(1,.pt 2 [(0,0)])],[(0,⟨x.2.cells,[]⟩)],bW x.1 0 eI,400⟩:S)) (fun x=>N-x.1.length) (fun x=>x.1.length<=N/\x.2.Ok/\x.2.code=0/\Q=gJ e (dh fN eI).res (fun y=>aJ aG (bw (x.1++y))) (((dV 7 (by decide)).rep (N-x.1.length)).m x.2)) ?_ ([],r0) ⟨by simp,k0,z0,hQ⟩ ?_
 ·intro x hx A back
  obtain⟨L,q⟩:=x;obtain⟨hL,hq,hz,hQ⟩:=hx;simp only at hL hq hz hQ
  cases L with
  |nil=>
   try simp only[I,B,D,RX,aB,aC,aE,↓KW,↓aD,seval,bf,d6,bW,List.length_nil]
   refine ax (fun h=>?_) (fun h=>?_)<;>try simp only[I,B,D,RX,aB,aC,aE,↓KW,↓aD,seval,h]
   ·have h3:0<N:=by have:=of_decide_eq_true h;simpa using this
    obtain⟨v1,r1,e1,k1,u1,hQ⟩:=CL hQ h3 hq
    have p1:=(hN 1 7 (by decide) (by decide)).step hq hz e1
    by_cases z1:r1.code=0
    rotate_left
    ·obtain⟨cs,hq'⟩:=p1.2 z1
     refine⟨rfl,aA hq' ?_⟩;try simp only[I,B,D,RX,aB,aC,aE,↓KW,↓aD,seval,bf]
     exact u1 z1 _ _ ⟨rfl,trivial⟩
    refine⟨rfl,aq (p1.1 z1) ?_⟩;try simp only[I,B,D,RX,aB,aC,aE,↓KW,↓aD,seval,bf]
    refine back ([v1],r1) _ ⟨by simp at h3⊢;omega,k1,z1,hQ⟩ (by simp at h3⊢;omega) ?_
    refine ai (by decide) ?_ ?_ ?_ ?_<;>simp[LX,I,B,D,d6,bW,cK,aG,ji]
   ·have h3:0=N:=by have:=of_decide_eq_false h;omega
    have hQ:=zW hQ h3
    refine iF hQ hz ?_;try simp only[I,B,D,RX,aB,aC,aE,↓KW,↓aD,seval,dh,List.append_nil,bw,aJ]
  |cons y ys=>
   have hw1:IntKind.i64.wrap ((ys.length:Int)+1+1)=(ys.length:Int)+1+1:=bq (by omega) (by simp only[List.length_cons]at hL;omega)
   try simp only[I,B,D,RX,aB,aC,aE,↓KW,↓aD,seval,bf,d6,bW,reduceCtorEq]
   refine ax (fun h=>?_) (fun h=>?_)<;>try simp only[I,B,D,RX,aB,aC,aE,↓KW,↓aD,seval,h]
   ·have h3:(y::ys).length<N:=by have:=of_decide_eq_true h;simp only[List.length_cons]at this⊢;omega
    obtain⟨v1,r1,e1,k1,u1,hQ⟩:=CL hQ h3 hq
    have p1:=(hN 1 7 (by decide) (by decide)).step hq hz e1
    by_cases z1:r1.code=0
    rotate_left
    ·obtain⟨cs,hq'⟩:=p1.2 z1
     refine⟨rfl,aA hq' ?_⟩;try simp only[I,B,D,RX,aB,aC,aE,↓KW,↓aD,seval,bf]
     exact u1 z1 _ _ ⟨rfl,trivial⟩
    refine⟨rfl,aq (p1.1 z1) ?_⟩;try simp only[I,B,D,RX,aB,aC,aE,↓KW,↓aD,seval,bf]
    repeat(refine And.intro (by first|omega|(simp at h3⊢;omega)) ?_)
    refine back ((y::ys)++[v1],r1) _ ⟨by simp at h3⊢;omega,k1,z1,by rw[hQ];simp⟩ (by simp at h3⊢;omega) ?_
    refine ai (by decide) ?_ ?_ ?_ ?_<;>simp[LX,I,B,D,d6,bW,cK,aG,hw1]
   ·have h3:(y::ys).length=N:=by have:=of_decide_eq_false h;simp only[List.length_cons]at this hL⊢;omega
    have hQ:=zW hQ h3
    refine iF hQ hz ?_;try simp only[I,B,D,RX,aB,aC,aE,↓KW,↓aD,seval,dh,List.append_nil,bw,aJ,reduceCtorEq]
 ·refine ai (by decide) ?_ ?_ ?_ ?_<;>simp[LX,I,B,D,d6,bW,cK]
end
section
variable{α β γ:Type} {e:Nat} {res:List eZ} {Q:Exit->S->Prop}
theorem oR{a:Cd α} {b:α->Cd β} {c:α×β->Cd γ} {enc:(α×β)×γ->AV} {r:aY}:gJ e res enc (((a.seq b).seq c).m r)=gJ e res (fun x=>enc ((x.1,x.2.1),x.2.2)) ((a.seq fun x=>(b x).seq fun y=>c (x,y)).m r):=by
 funext ex s;cases ex<;>rfl
theorem rF{a:Cd α} {f:α->β} {g:β->α} {h:∀x,a.v x->g (f x)=x} {c:β->Cd γ} {enc:β×γ->AV} {r:aY}:gJ e res enc (((a.map f g h).seq c).m r)=gJ e res (fun x=>enc (f x.1,x.2)) ((a.seq fun x=>c (f x)).m r):=by
 funext ex s;cases ex<;>rfl
theorem gj{c:Cd α} {R:List α->Cd γ} {enc:List α×γ->AV} {n i:Nat} {r:aY} (hQ:Q=gJ e res enc (((c.rep (n-i)).seq R).m r)) (h:i<n) (hr:r.Ok):
  ∃v r',c.m r=(v,r')/\r'.Ok/\(r'.code≠0->∀s cs,fJ s.boxes 0 [cs]->Q (.panic (dz (up e r'))) s)/\Q=gJ e res (fun y=>enc (v::y.1,y.2)) (((c.rep (n-(i+1))).seq fun l=>R (v::l)).m r'):=by
 have hQ':Q=gJ e res (fun x=>enc (x.1::x.2.1,x.2.2)) ((c.seq fun v=>(c.rep (n-(i+1))).seq fun l=>R (v::l)).m r):=by
  rw[show n-i=(n-(i+1))+1 by omega]at hQ
  rw[hQ];funext ex s;cases ex<;>rfl
 exact aS hQ' hr
theorem eO{c:Cd α} {R:List α->Cd γ} {enc:List α×γ->AV} {n i:Nat} {r:aY} (hQ:Q=gJ e res enc (((c.rep (n-i)).seq R).m r)) (h:i=n):Q=gJ e res (fun y=>enc ([],y)) ((R []).m r):=by
 subst h;rw[Nat.sub_self]at hQ;rw[hQ];funext ex s;cases ex<;>rfl
end
def UH{α:Type} (ex:Exit) (st:α->S) (J:α->Prop) (Q:Exit->S->Prop) (e:Exit) (s:S):Prop:=(e=ex/\∃y,J y/\Le s (st y))\/(e≠ex/\Q e s)
theorem jU{α:Type} {ex:Exit} {st:α->S} {J:α->Prop} {Q:Exit->S->Prop} {s:S} (y:α) (hy:J y) (hle:Le s (st y)):UH ex st J Q ex s:=.inl ⟨rfl,y,hy,hle⟩
theorem oS{C:bt} {c:aX} {Q:Exit->S->Prop} {s:S} {F:S->Prop} {α:Type} (ex:Exit) (st:α->S) (J:α->Prop) (hQ:∀s',Q ex s'=down F s') (h1:aw C c (UH ex st J Q) s) (h2:∀y,J y->F (st y)):aw C c Q s:=by
 refine gL (fun e s' h=>?_) h1
 rcases h with⟨rfl,y,hy,hle⟩|⟨_,h⟩
 ·rw[hQ];exact qS hle (h2 y hy)
 ·exact h
def Jc.Spec(C:bt) (e f:Nat):Prop:=pF o6 (fun t=>.agg t.cells) [] C e f
section
variable{P:Program} (hm:P.follows .mixedOrders=true) {f:Nat}
include hm
theorem Jc.ok{fP fN fW eG fS fD eD fR eR fT eB e:Nat} (hc:gB true P f=some (dP fP fN fW eG fS fD eD fR eR fT eB)) (hP:UF.Spec (Pure P) e fP) (hN:wj.Spec (Pure P) e fN) (hW:Ja.Spec (Pure P) e fW) (hS:Gf.Spec (Pure P) e fS) (hD:Jb.Spec (Pure P) e fD) (hR:UG.Spec (Pure P) e fR) (hT:vT.Spec (Pure P) e fT):Jc.Spec (Pure P) e f:=by
 refine nF hm hc (by show 1<=118;decide) fun r hr hz Q hQ=>ay (keep:=[0,3,6,9,12,15,18,21]) (i:=0) ?_
 have z0:cR=bX (pad default []) [] (pad 0 []) [] [] [] 0 0 0 0 0 (pad 0 []) 0 0:=rfl
 have p0:(pad (0:Int) []).length=8:=rfl
 unfold o6 at hQ;rw[qQ]at hQ
 obtain⟨RES,hRES⟩:∃R,R=(dP fP fN fW eG fS fD eD fR eR fT eB).res:=⟨_,rfl⟩
 rw[<-hRES]at hQ;try simp only[I,B,D,RY,aB,aC,aE,↓KW,↓aD,seval,dP,Z.H,bf,EI]
 refine oS (.exit 0) (fun y:List Ph×aY=>(⟨[(3,.ptr 6 0),(2,.ptr 5 0),(1,.pt 2 [(0,0)])],[(6,⟨(bX y.1 [] (pad 0 []) [] [] [] 0 0 0 0 0 (pad 0 []) 0 0).cells,[]⟩),(5,⟨cR.cells,[]⟩),(0,⟨y.2.cells,[]⟩)],[],400⟩:S)) (fun y=>y.1.length=8/\y.2.Ok/\y.2.code=0/\Q=gJ e RES (fun(b,c,d,e,f,g,h,i,j,k,l,m,n)=>AV.agg (bX y.1 b c d e f g h i j k l m n).cells) ((y9.seq fun _=>(kL.rep 8).seq fun _=>nj.seq fun _=>rL.seq fun _=>pE.seq fun _=>aQ.seq fun _=>aQ.seq fun _=>aQ.seq fun _=>aQ.seq fun _=>aQ.seq fun _=>((dV 2 (by decide)).rep 8).seq fun _=>dO.seq fun _=>dO).m y.2)) (fun _=>rfl) ?_ ?_
 ·refine aP (fun x:List Ph×aY=>(⟨[(11,.dat (I x.1.length) none),(3,.ptr 6 0),(2,.ptr 5 0),(1,.pt 2 [(0,0)])],[(6,⟨(bX (pad default x.1) [] (pad 0 []) [] [] [] 0 0 0 0 0 (pad 0 []) 0 0).cells,[]⟩),(5,⟨cR.cells,[]⟩),(0,⟨x.2.cells,[]⟩)],[],400⟩:S)) (fun x=>8-x.1.length) (fun x=>x.1.length<=8/\x.2.Ok/\x.2.code=0/\Q=gJ e RES (fun y:List Ph×_=>(fun(b,c,d,e,f,g,h,i,j,k,l,m,n)=>AV.agg (bX (x.1++y.1) b c d e f g h i j k l m n).cells) y.2) (((zS.rep (8-x.1.length)).seq fun _=>y9.seq fun _=>(kL.rep 8).seq fun _=>nj.seq fun _=>rL.seq fun _=>pE.seq fun _=>aQ.seq fun _=>aQ.seq fun _=>aQ.seq fun _=>aQ.seq fun _=>aQ.seq fun _=>((dV 2 (by decide)).rep 8).seq fun _=>dO.seq fun _=>dO).m x.2)) ?_ ([],r) ⟨by simp,hr,hz,by rw[hQ];rfl⟩ ?_
  ·intro x hx A back
   obtain⟨L,q⟩:=x;obtain⟨hL,hq,hz,hQ⟩:=hx;simp only at hL hq hz hQ
   have ln:(bX (pad default L) [] (pad 0 []) [] [] [] 0 0 0 0 0 (pad 0 []) 0 0).Ln:=gy (Bc hL) p0 p0
   have hln:=ln.len
   have hw:=aN (k:=L.length) (by omega)
   try simp only[I,B,D,RY,aB,aC,aE,↓KW,↓aD,seval,bf]
   refine ax (fun h=>?_) (fun h=>?_)<;>try simp only[I,B,D,RY,aB,aC,aE,↓KW,↓aD,seval,h]
   ·have h3:L.length<8:=by have:=of_decide_eq_true h;omega
    obtain⟨a,q',ea,ka,ua,hQ⟩:=gj hQ h3 hq
    have pa:=pF.step hP hq hz ea
    have hs:setCells (bX (pad default L) [] (pad 0 []) [] [] [] 0 0 0 0 0 (pad 0 []) 0 0).cells (L.length*13) a.cells=(bX (pad default (L++[a])) [] (pad 0 []) [] [] [] 0 0 0 0 0 (pad 0 []) 0 0).cells:=by
     rw[ln.zM h3 a];simp only[bX,Bd h3]
    by_cases za:q'.code=0
    rotate_left
    ·obtain⟨cs,hq'⟩:=pa.2 za
     refine⟨rfl,aA hq' ?_⟩;try simp only[I,B,D,RY,aB,aC,aE,↓KW,↓aD,seval,bf]
     refine .inr ⟨(by intro h;cases h),?_⟩
     exact ua za _ _ ⟨rfl,trivial⟩
    refine⟨rfl,aq (pa.1 za) ?_⟩;try simp only[I,B,D,RY,aB,aC,aE,↓KW,↓aD,seval,bf,hs,Ph.len]
    repeat(refine And.intro (by first|omega|(simp;omega)) ?_)
    try simp only[I,B,D,RY,aB,aC,aE,↓KW,↓aD,seval,bf,hs,Ph.len]
    refine back (L++[a],q') _ ⟨by show(L++[a]).length<=8;simp;omega,ka,za,?_⟩ (by show 8-(L++[a]).length<8-L.length;simp;omega) ?_
    ·rw[hQ];simp only[List.length_append,List.length_singleton,List.append_assoc,List.singleton_append]
    refine ai (by decide) ?_ ?_ ?_ ?_<;>simp[LX,I,B,D,hs,hw,List.length_append,cK]
   ·have h3:L.length=8:=by have:=of_decide_eq_false h;omega
    have hQ:=eO hQ h3
    refine jU (L,q) ⟨h3,hq,hz,by rw[hQ];simp only[List.append_nil]⟩ ?_
    refine ai (by decide) ?_ ?_ ?_ ?_<;>simp[LX,I,B,D,Bb h3,cK]
  ·refine ai (by decide) ?_ ?_ ?_ ?_<;>simp[LX,I,B,D,z0,cK]
 ·rintro⟨phs,r1⟩ ⟨l1,k1,z1,hQ⟩
  simp only at l1 k1 z1 hQ⊢;try simp only[I,B,D,RY,aB,aC,aE,↓KW,↓aD,seval,bf]
  have hQ:=hQ
  unfold y9 Cd.many at hQ;rw[rF,oR]at hQ;obtain⟨n,r2,en,kr2,un,hQ⟩:=aS hQ k1
  have pn:=(hN 1 4 (by decide) (by decide)).step k1 z1 en
  by_cases zr2:r2.code=0
  rotate_left
  ·obtain⟨cs,hq'⟩:=pn.2 zr2
   refine⟨rfl,aA hq' ?_⟩;try simp only[I,B,D,RY,aB,aC,aE,↓KW,↓aD,seval,bf]
   exact un zr2 _ _ ⟨rfl,trivial⟩
  refine⟨rfl,aq (pn.1 zr2) ?_⟩;try simp only[I,B,D,RY,aB,aC,aE,↓KW,↓aD,seval,bf]
  have hb:0<=n/\n<=4:=by have:=uv r1 1 4 (by decide);rw[show eW r1 1 0 4=(n,r2)from en]at this;exact this
  obtain⟨N1,rfl,hN1⟩:∃N:Nat,n=(N:Int)/\N<=4:=⟨n.toNat,by omega,by omega⟩
  simp only[Int.toNat_natCast]at hQ
  refine oS (.exit 2) (fun y:List Gr×aY=>(⟨[(3,.ptr 6 0),(2,.ptr 5 0),(1,.pt 2 [(0,0)])],[(6,⟨(bX phs y.1 (pad 0 []) [] [] [] 0 0 0 0 0 (pad 0 []) 0 0).cells,[]⟩),(5,⟨cR.cells,[]⟩),(0,⟨y.2.cells,[]⟩)],[],400⟩:S)) (fun y=>y.2.Ok/\y.2.code=0/\Q=gJ e RES (fun(c,d,e,f,g,h,i,j,k,l,m,n)=>AV.agg (bX phs y.1 c d e f g h i j k l m n).cells) (((kL.rep 8).seq fun _=>nj.seq fun _=>rL.seq fun _=>pE.seq fun _=>aQ.seq fun _=>aQ.seq fun _=>aQ.seq fun _=>aQ.seq fun _=>aQ.seq fun _=>((dV 2 (by decide)).rep 8).seq fun _=>dO.seq fun _=>dO).m y.2)) (fun _=>rfl) ?_ ?_
  ·refine aP (fun x:List Gr×aY=>(⟨[(22,.dat (I x.1.length) none),(21,.dat (I N1) none),(3,.ptr 6 0),(2,.ptr 5 0),(1,.pt 2 [(0,0)])],[(6,⟨(bX phs x.1 (pad 0 []) [] [] [] 0 0 0 0 0 (pad 0 []) 0 0).cells,if x.1=[]then[]else[(104,0)]⟩),(5,⟨cR.cells,[]⟩),(0,⟨x.2.cells,[]⟩)],bW x.1 0 eG,400⟩:S)) (fun x=>N1-x.1.length) (fun x=>x.1.length<=N1/\x.2.Ok/\x.2.code=0/\Q=gJ e RES (fun y:List Gr×_=>(fun(c,d,e,f,g,h,i,j,k,l,m,n)=>AV.agg (bX phs (x.1++y.1) c d e f g h i j k l m n).cells) y.2) (((CD.rep (N1-x.1.length)).seq fun _=>(kL.rep 8).seq fun _=>nj.seq fun _=>rL.seq fun _=>pE.seq fun _=>aQ.seq fun _=>aQ.seq fun _=>aQ.seq fun _=>aQ.seq fun _=>aQ.seq fun _=>((dV 2 (by decide)).rep 8).seq fun _=>dO.seq fun _=>dO).m x.2)) ?_ ([],r2) ⟨by simp,kr2,zr2,by rw[hQ];rfl⟩ ?_
   ·intro x hx A back
    obtain⟨L,q⟩:=x;obtain⟨hL,hq,hz,hQ⟩:=hx;simp only at hL hq hz hQ
    have ln:(bX phs L (pad 0 []) [] [] [] 0 0 0 0 0 (pad 0 []) 0 0).Ln:=gy l1 p0 p0
    have hln:=ln.len
    have hat:=Tb.yl ln.phases
    have hset:∀a:Gr,setCells (bX phs L (pad 0 []) [] [] [] 0 0 0 0 0 (pad 0 []) 0 0).cells 104 [aJ Gr.cells (some (L++[a]))]=(bX phs (L++[a]) (pad 0 []) [] [] [] 0 0 0 0 0 (pad 0 []) 0 0).cells:=fun a=>by
     rw[Tb.zb ln.phases (some (L++[a]))];simp[bX,bw]
    have hatr:(bX phs L (pad 0 []) [] [] [] 0 0 0 0 0 (pad 0 []) 0 0).groups=bw L:=rfl
    rw[hatr]at hat;simp only[aO,List.map_append,List.map_cons,List.map_nil]at hset
    cases L with
    |nil=>
     simp only[List.map_nil,List.nil_append,bw,if_true,aR]at hset hat
     have hw1:IntKind.i64.wrap 1=1:=by decide
     try simp only[I,B,D,RY,aB,aC,aE,↓KW,↓aD,seval,bf,bw,bW,List.length_nil]
     refine ax (fun h=>?_) (fun h=>?_)<;>try simp only[I,B,D,RY,aB,aC,aE,↓KW,↓aD,seval,hat,h]
     ·have h3:0<N1:=by have:=of_decide_eq_true h;simpa using this
      obtain⟨a,q',ea,ka,ua,hQ⟩:=gj hQ h3 hq
      obtain⟨x1,q1,ea1⟩:∃x1 q1,lR.m q=(x1,q1):=⟨_,_,rfl⟩
      obtain⟨x2,q2,ea2⟩:∃x2 q2,lR.m q1=(x2,q2):=⟨_,_,rfl⟩
      have ha:a=⟨bw x1,bw x2⟩/\q'=q2:=by have:=ea;simp only[CD,Cd.map,Cd.seq,ea1,ea2,Prod.mk.injEq]at this;exact⟨this.1.symm,this.2.symm⟩
      obtain⟨ha,rfl⟩:=ha
      have kq1:q1.Ok:=by have:=lR.ok q hq;rw[ea1]at this;exact this
      have pa1:=pF.step hW hq hz ea1
      by_cases za1:q1.code=0
      rotate_left
      ·have hst:=lR.stay q1 za1
       rw[ea2]at hst;simp only at hst;subst hst;obtain⟨cs,hq'⟩:=pa1.2 za1;refine⟨rfl,aA hq' ?_⟩;try simp only[I,B,D,RY,aB,aC,aE,↓KW,↓aD,seval,bf]
       refine .inr ⟨(by intro h;cases h),?_⟩
       exact ua za1 _ _ ⟨rfl,trivial⟩
      refine⟨rfl,aq (pa1.1 za1) ?_⟩;try simp only[I,B,D,RY,aB,aC,aE,↓KW,↓aD,seval,bf]
      have pa2:=pF.step hW kq1 za1 ea2
      have hset:=hset a
      have hac:a.cells=[aJ aG (bw x1),aJ aG (bw x2)]:=by rw[ha];rfl
      rw[hac]at hset
      by_cases za:q'.code=0
      rotate_left
      ·obtain⟨cs,hq'⟩:=pa2.2 za
       refine xS rfl ?_;try simp only[I,B,D,RY,aB,aC,aE,↓KW,↓aD,seval,bf,hat,hln]
       refine⟨rfl,mh hq' ?_⟩;try simp only[I,B,D,RY,aB,aC,aE,↓KW,↓aD,seval,bf,hat,hln]
       refine .inr ⟨(by intro h;cases h),?_⟩
       exact ua za _ _ ⟨rfl,trivial⟩
      refine xR rfl ?_;try simp only[I,B,D,RY,aB,aC,aE,↓KW,↓aD,seval,bf,hat,hln]
      refine⟨rfl,bg (pa2.1 za) ?_⟩;try simp only[I,B,D,RY,aB,aC,aE,↓KW,↓aD,seval,bf,hset,hat,hln,bB,eU,Gr.len']
      repeat(refine And.intro (by first|omega|(simp at h3⊢;omega)) ?_)
      try simp only[I,B,D,RY,aB,aC,aE,↓KW,↓aD,seval,bf,hset,hat,hln,bB,eU,Gr.len']
      refine back ([a],q') _ ⟨by simp at h3⊢;omega,ka,za,by rw[hQ];rfl⟩ (by simp at h3⊢;omega) ?_
      refine ai (by decide) ?_ ?_ ?_ ?_<;>simp[LX,I,B,D,hset,hw1,bw,bB,cK]
     ·have h3:0=N1:=by have:=of_decide_eq_false h;omega
      have hQ:=eO hQ h3
      refine jU ([],q) ⟨hq,hz,by rw[hQ];simp only[List.append_nil]⟩ ?_
      refine ai (by decide) ?_ ?_ ?_ ?_<;>simp[LX,I,B,D,bw,cK]
    |cons y ys=>
     simp only[bw,reduceCtorEq,if_false,aO]at hset hat
     have hw1:IntKind.i64.wrap ((ys.length:Int)+1+1)=(ys.length:Int)+1+1:=bq (by omega) (by simp only[List.length_cons]at hL;omega)
     try simp only[I,B,D,RY,aB,aC,aE,↓KW,↓aD,seval,bf,bw,bW,reduceCtorEq]
     refine ax (fun h=>?_) (fun h=>?_)<;>try simp only[I,B,D,RY,aB,aC,aE,↓KW,↓aD,seval,hat,h]
     ·have h3:(y::ys).length<N1:=by have:=of_decide_eq_true h;simp only[List.length_cons]at this⊢;omega
      obtain⟨a,q',ea,ka,ua,hQ⟩:=gj hQ h3 hq
      obtain⟨x1,q1,ea1⟩:∃x1 q1,lR.m q=(x1,q1):=⟨_,_,rfl⟩
      obtain⟨x2,q2,ea2⟩:∃x2 q2,lR.m q1=(x2,q2):=⟨_,_,rfl⟩
      have ha:a=⟨bw x1,bw x2⟩/\q'=q2:=by have:=ea;simp only[CD,Cd.map,Cd.seq,ea1,ea2,Prod.mk.injEq]at this;exact⟨this.1.symm,this.2.symm⟩
      obtain⟨ha,rfl⟩:=ha
      have kq1:q1.Ok:=by have:=lR.ok q hq;rw[ea1]at this;exact this
      have pa1:=pF.step hW hq hz ea1
      by_cases za1:q1.code=0
      rotate_left
      ·have hst:=lR.stay q1 za1
       rw[ea2]at hst;simp only at hst;subst hst;obtain⟨cs,hq'⟩:=pa1.2 za1;refine⟨rfl,aA hq' ?_⟩;try simp only[I,B,D,RY,aB,aC,aE,↓KW,↓aD,seval,bf]
       refine .inr ⟨(by intro h;cases h),?_⟩
       exact ua za1 _ _ ⟨rfl,trivial⟩
      refine⟨rfl,aq (pa1.1 za1) ?_⟩;try simp only[I,B,D,RY,aB,aC,aE,↓KW,↓aD,seval,bf]
      have pa2:=pF.step hW kq1 za1 ea2
      have hset:=hset a
      have hac:a.cells=[aJ aG (bw x1),aJ aG (bw x2)]:=by rw[ha];rfl
      rw[hac]at hset
      by_cases za:q'.code=0
      rotate_left
      ·obtain⟨cs,hq'⟩:=pa2.2 za
       refine xS rfl ?_;try simp only[I,B,D,RY,aB,aC,aE,↓KW,↓aD,seval,bf,hat,hln]
       refine⟨rfl,mh hq' ?_⟩;try simp only[I,B,D,RY,aB,aC,aE,↓KW,↓aD,seval,bf,hat,hln]
       refine .inr ⟨(by intro h;cases h),?_⟩
       exact ua za _ _ ⟨rfl,trivial⟩
      refine xR rfl ?_;try simp only[I,B,D,RY,aB,aC,aE,↓KW,↓aD,seval,bf,hat,hln]
      refine⟨rfl,bg (pa2.1 za) ?_⟩;try simp only[I,B,D,RY,aB,aC,aE,↓KW,↓aD,seval,bf,hset,hat,hln,bB,eU,Gr.len']
      repeat(refine And.intro (by first|omega|(simp at h3⊢;omega)) ?_)
      try simp only[I,B,D,RY,aB,aC,aE,↓KW,↓aD,seval,bf,hset,hat,hln,bB,eU,Gr.len']
      refine back ((y::ys)++[a],q') _ ⟨by simp at h3⊢;omega,ka,za,by rw[hQ];simp⟩ (by simp at h3⊢;omega) ?_
      refine ai (by decide) ?_ ?_ ?_ ?_<;>simp[LX,I,B,D,hset,hw1,bw,bB,cK]
     ·have h3:(y::ys).length=N1:=by have:=of_decide_eq_false h;simp only[List.length_cons]at this hL⊢;omega
      have hQ:=eO hQ h3
      refine jU ((y::ys),q) ⟨hq,hz,by rw[hQ];simp only[List.append_nil]⟩ ?_
      refine ai (by decide) ?_ ?_ ?_ ?_<;>simp[LX,I,B,D,bw,cK]
   ·refine ai (by decide) ?_ ?_ ?_ ?_<;>simp[LX,I,B,D,bw,bW,z0,cK]
  ·rintro⟨grs,r3⟩ ⟨k3,z3,hQ⟩
   simp only at k3 z3 hQ⊢;try simp only[I,B,D,RY,aB,aC,aE,↓KW,↓aD,seval,bf]
   refine oS (.exit 4) (fun y:List Int×aY=>(⟨[(3,.ptr 6 0),(2,.ptr 5 0),(1,.pt 2 [(0,0)])],[(6,⟨(bX phs grs y.1 [] [] [] 0 0 0 0 0 (pad 0 []) 0 0).cells,[]⟩),(5,⟨cR.cells,[]⟩),(0,⟨y.2.cells,[]⟩)],[],400⟩:S)) (fun y=>y.1.length=8/\y.2.Ok/\y.2.code=0/\Q=gJ e RES (fun(d,e,f,g,h,i,j,k,l,m,n)=>AV.agg (bX phs grs y.1 d e f g h i j k l m n).cells) ((nj.seq fun _=>rL.seq fun _=>pE.seq fun _=>aQ.seq fun _=>aQ.seq fun _=>aQ.seq fun _=>aQ.seq fun _=>aQ.seq fun _=>((dV 2 (by decide)).rep 8).seq fun _=>dO.seq fun _=>dO).m y.2)) (fun _=>rfl) ?_ ?_
   ·refine aP (fun x:List Int×aY=>(⟨[(36,.dat (I x.1.length) none),(3,.ptr 6 0),(2,.ptr 5 0),(1,.pt 2 [(0,0)])],[(6,⟨(bX phs grs (pad 0 x.1) [] [] [] 0 0 0 0 0 (pad 0 []) 0 0).cells,[]⟩),(5,⟨cR.cells,[]⟩),(0,⟨x.2.cells,[]⟩)],[],400⟩:S)) (fun x=>8-x.1.length) (fun x=>x.1.length<=8/\x.2.Ok/\x.2.code=0/\Q=gJ e RES (fun y:List Int×_=>(fun(d,e,f,g,h,i,j,k,l,m,n)=>AV.agg (bX phs grs (x.1++y.1) d e f g h i j k l m n).cells) y.2) (((kL.rep (8-x.1.length)).seq fun _=>nj.seq fun _=>rL.seq fun _=>pE.seq fun _=>aQ.seq fun _=>aQ.seq fun _=>aQ.seq fun _=>aQ.seq fun _=>aQ.seq fun _=>((dV 2 (by decide)).rep 8).seq fun _=>dO.seq fun _=>dO).m x.2)) ?_ ([],r3) ⟨by simp,k3,z3,by rw[hQ];rfl⟩ ?_
    ·intro x hx A back
     obtain⟨L,q⟩:=x;obtain⟨hL,hq,hz,hQ⟩:=hx;simp only at hL hq hz hQ
     have ln:(bX phs grs (pad 0 L) [] [] [] 0 0 0 0 0 (pad 0 []) 0 0).Ln:=gy l1 (Bc hL) p0
     have hln:=ln.len
     have hw:=aN (k:=L.length) (by omega)
     try simp only[I,B,D,RY,aB,aC,aE,↓KW,↓aD,seval,bf]
     refine ax (fun h=>?_) (fun h=>?_)<;>try simp only[I,B,D,RY,aB,aC,aE,↓KW,↓aD,seval,h]
     ·have h3:L.length<8:=by have:=of_decide_eq_true h;omega
      obtain⟨a,q',ea,ka,ua,hQ⟩:=gj hQ h3 hq
      have pa:=pF.step hS hq hz ea
      have hs:setCells (bX phs grs (pad 0 L) [] [] [] 0 0 0 0 0 (pad 0 []) 0 0).cells (105+L.length) [I a]=(bX phs grs (pad 0 (L++[a])) [] [] [] 0 0 0 0 0 (pad 0 []) 0 0).cells:=by
       rw[ln.oH h3 a];simp only[bX,Bd h3]
      by_cases za:q'.code=0
      rotate_left
      ·obtain⟨cs,hq'⟩:=pa.2 za
       refine⟨rfl,aA hq' ?_⟩;try simp only[I,B,D,RY,aB,aC,aE,↓KW,↓aD,seval,bf]
       refine .inr ⟨(by intro h;cases h),?_⟩
       exact ua za _ _ ⟨rfl,trivial⟩
      refine⟨rfl,aq (pa.1 za) ?_⟩;try simp only[I,B,D,RY,aB,aC,aE,↓KW,↓aD,seval,bf,hs,Ph.len]
      repeat(refine And.intro (by first|omega|(simp;omega)) ?_)
      try simp only[I,B,D,RY,aB,aC,aE,↓KW,↓aD,seval,bf,hs,Ph.len]
      refine back (L++[a],q') _ ⟨by show(L++[a]).length<=8;simp;omega,ka,za,?_⟩ (by show 8-(L++[a]).length<8-L.length;simp;omega) ?_
      ·rw[hQ];simp only[List.length_append,List.length_singleton,List.append_assoc,List.singleton_append]
      refine ai (by decide) ?_ ?_ ?_ ?_<;>simp[LX,I,B,D,hs,hw,List.length_append,cK]
     ·have h3:L.length=8:=by have:=of_decide_eq_false h;omega
      have hQ:=eO hQ h3
      refine jU (L,q) ⟨h3,hq,hz,by rw[hQ];simp only[List.append_nil]⟩ ?_
      refine ai (by decide) ?_ ?_ ?_ ?_<;>simp[LX,I,B,D,Bb h3,cK]
    ·refine ai (by decide) ?_ ?_ ?_ ?_<;>simp[LX,I,B,D,z0,cK]
   ·rintro⟨cf,r4⟩ ⟨l4,k4,z4,hQ⟩
    simp only at l4 k4 z4 hQ⊢;try simp only[I,B,D,RY,aB,aC,aE,↓KW,↓aD,seval,bf]
    have hQ:=hQ
    unfold nj Cd.many at hQ;rw[rF,oR]at hQ;obtain⟨n,r5,en,kr5,un,hQ⟩:=aS hQ k4
    have pn:=(hN 1 16 (by decide) (by decide)).step k4 z4 en
    by_cases zr5:r5.code=0
    rotate_left
    ·obtain⟨cs,hq'⟩:=pn.2 zr5
     refine⟨rfl,aA hq' ?_⟩;try simp only[I,B,D,RY,aB,aC,aE,↓KW,↓aD,seval,bf]
     exact un zr5 _ _ ⟨rfl,trivial⟩
    refine⟨rfl,aq (pn.1 zr5) ?_⟩;try simp only[I,B,D,RY,aB,aC,aE,↓KW,↓aD,seval,bf]
    have hb:0<=n/\n<=16:=by have:=uv r4 1 16 (by decide);rw[show eW r4 1 0 16=(n,r5)from en]at this;exact this
    obtain⟨N2,rfl,hN2⟩:∃N:Nat,n=(N:Int)/\N<=16:=⟨n.toNat,by omega,by omega⟩
    simp only[Int.toNat_natCast]at hQ
    refine oS (.exit 6) (fun y:List gQ×aY=>(⟨[(3,.ptr 6 0),(2,.ptr 5 0),(1,.pt 2 [(0,0)])],[(6,⟨(bX phs grs cf y.1 [] [] 0 0 0 0 0 (pad 0 []) 0 0).cells,[]⟩),(5,⟨cR.cells,[]⟩),(0,⟨y.2.cells,[]⟩)],[],400⟩:S)) (fun y=>y.2.Ok/\y.2.code=0/\Q=gJ e RES (fun(e,f,g,h,i,j,k,l,m,n)=>AV.agg (bX phs grs cf y.1 e f g h i j k l m n).cells) ((rL.seq fun _=>pE.seq fun _=>aQ.seq fun _=>aQ.seq fun _=>aQ.seq fun _=>aQ.seq fun _=>aQ.seq fun _=>((dV 2 (by decide)).rep 8).seq fun _=>dO.seq fun _=>dO).m y.2)) (fun _=>rfl) ?_ ?_
    ·refine aP (fun x:List gQ×aY=>(⟨[(47,.dat (I x.1.length) none),(46,.dat (I N2) none),(3,.ptr 6 0),(2,.ptr 5 0),(1,.pt 2 [(0,0)])],[(6,⟨(bX phs grs cf x.1 [] [] 0 0 0 0 0 (pad 0 []) 0 0).cells,if x.1=[]then[]else[(113,0)]⟩),(5,⟨cR.cells,[]⟩),(0,⟨x.2.cells,[]⟩)],bW x.1 0 eD,400⟩:S)) (fun x=>N2-x.1.length) (fun x=>x.1.length<=N2/\x.2.Ok/\x.2.code=0/\Q=gJ e RES (fun y:List gQ×_=>(fun(e,f,g,h,i,j,k,l,m,n)=>AV.agg (bX phs grs cf (x.1++y.1) e f g h i j k l m n).cells) y.2) (((qL.rep (N2-x.1.length)).seq fun _=>rL.seq fun _=>pE.seq fun _=>aQ.seq fun _=>aQ.seq fun _=>aQ.seq fun _=>aQ.seq fun _=>aQ.seq fun _=>((dV 2 (by decide)).rep 8).seq fun _=>dO.seq fun _=>dO).m x.2)) ?_ ([],r5) ⟨by simp,kr5,zr5,by rw[hQ];rfl⟩ ?_
     ·intro x hx A back
      obtain⟨L,q⟩:=x;obtain⟨hL,hq,hz,hQ⟩:=hx;simp only at hL hq hz hQ
      have ln:(bX phs grs cf L [] [] 0 0 0 0 0 (pad 0 []) 0 0).Ln:=gy l1 l4 p0
      have hln:=ln.len
      have hat:=ln.EF
      have hset:∀a:gQ,setCells (bX phs grs cf L [] [] 0 0 0 0 0 (pad 0 []) 0 0).cells 113 [aJ gQ.cells (some (L++[a]))]=(bX phs grs cf (L++[a]) [] [] 0 0 0 0 0 (pad 0 []) 0 0).cells:=fun a=>by
       rw[ln.yj (some (L++[a]))];simp[bX,bw]
      have hatr:(bX phs grs cf L [] [] 0 0 0 0 0 (pad 0 []) 0 0).aI=bw L:=rfl
      rw[hatr]at hat;simp only[aO,List.map_append,List.map_cons,List.map_nil]at hset
      cases L with
      |nil=>
       simp only[List.map_nil,List.nil_append,bw,if_true,aR]at hset hat
       have hw1:IntKind.i64.wrap 1=1:=by decide
       try simp only[I,B,D,RY,aB,aC,aE,↓KW,↓aD,seval,bf,bw,bW,List.length_nil]
       refine ax (fun h=>?_) (fun h=>?_)<;>try simp only[I,B,D,RY,aB,aC,aE,↓KW,↓aD,seval,hat,h]
       ·have h3:0<N2:=by have:=of_decide_eq_true h;simpa using this
        obtain⟨a,q',ea,ka,ua,hQ⟩:=gj hQ h3 hq
        have pa:=pF.step hD hq hz ea
        have hset:=hset a
        by_cases za:q'.code=0
        rotate_left
        ·obtain⟨cs,hq'⟩:=pa.2 za
         refine xS rfl ?_;try simp only[I,B,D,RY,aB,aC,aE,↓KW,↓aD,seval,bf,hat,hln]
         refine⟨rfl,mh hq' ?_⟩;try simp only[I,B,D,RY,aB,aC,aE,↓KW,↓aD,seval,bf,hat,hln]
         refine .inr ⟨(by intro h;cases h),?_⟩
         exact ua za _ _ ⟨rfl,trivial⟩
        refine xR rfl ?_;try simp only[I,B,D,RY,aB,aC,aE,↓KW,↓aD,seval,bf,hat,hln]
        refine⟨rfl,bg (pa.1 za) ?_⟩;try simp only[I,B,D,RY,aB,aC,aE,↓KW,↓aD,seval,bf,hset,hat,hln,bB,eU,gQ.len']
        repeat(refine And.intro (by first|omega|(simp at h3⊢;omega)) ?_)
        try simp only[I,B,D,RY,aB,aC,aE,↓KW,↓aD,seval,bf,hset,hat,hln,bB,eU,gQ.len']
        refine back ([a],q') _ ⟨by simp at h3⊢;omega,ka,za,by rw[hQ];rfl⟩ (by simp at h3⊢;omega) ?_
        refine ai (by decide) ?_ ?_ ?_ ?_<;>simp[LX,I,B,D,hset,hw1,bw,bB,cK]
       ·have h3:0=N2:=by have:=of_decide_eq_false h;omega
        have hQ:=eO hQ h3
        refine jU ([],q) ⟨hq,hz,by rw[hQ];simp only[List.append_nil]⟩ ?_
        refine ai (by decide) ?_ ?_ ?_ ?_<;>simp[LX,I,B,D,bw,cK]
      |cons y ys=>
       simp only[bw,reduceCtorEq,if_false,aO]at hset hat
       have hw1:IntKind.i64.wrap ((ys.length:Int)+1+1)=(ys.length:Int)+1+1:=bq (by omega) (by simp only[List.length_cons]at hL;omega)
       try simp only[I,B,D,RY,aB,aC,aE,↓KW,↓aD,seval,bf,bw,bW,reduceCtorEq]
       refine ax (fun h=>?_) (fun h=>?_)<;>try simp only[I,B,D,RY,aB,aC,aE,↓KW,↓aD,seval,hat,h]
       ·have h3:(y::ys).length<N2:=by have:=of_decide_eq_true h;simp only[List.length_cons]at this⊢;omega
        obtain⟨a,q',ea,ka,ua,hQ⟩:=gj hQ h3 hq
        have pa:=pF.step hD hq hz ea
        have hset:=hset a
        by_cases za:q'.code=0
        rotate_left
        ·obtain⟨cs,hq'⟩:=pa.2 za
         refine xS rfl ?_;try simp only[I,B,D,RY,aB,aC,aE,↓KW,↓aD,seval,bf,hat,hln]
         refine⟨rfl,mh hq' ?_⟩;try simp only[I,B,D,RY,aB,aC,aE,↓KW,↓aD,seval,bf,hat,hln]
         refine .inr ⟨(by intro h;cases h),?_⟩
         exact ua za _ _ ⟨rfl,trivial⟩
        refine xR rfl ?_;try simp only[I,B,D,RY,aB,aC,aE,↓KW,↓aD,seval,bf,hat,hln]
        refine⟨rfl,bg (pa.1 za) ?_⟩;try simp only[I,B,D,RY,aB,aC,aE,↓KW,↓aD,seval,bf,hset,hat,hln,bB,eU,gQ.len']
        repeat(refine And.intro (by first|omega|(simp at h3⊢;omega)) ?_)
        try simp only[I,B,D,RY,aB,aC,aE,↓KW,↓aD,seval,bf,hset,hat,hln,bB,eU,gQ.len']
        refine back ((y::ys)++[a],q') _ ⟨by simp at h3⊢;omega,ka,za,by rw[hQ];simp⟩ (by simp at h3⊢;omega) ?_
        refine ai (by decide) ?_ ?_ ?_ ?_<;>simp[LX,I,B,D,hset,hw1,bw,bB,cK]
       ·have h3:(y::ys).length=N2:=by have:=of_decide_eq_false h;simp only[List.length_cons]at this hL⊢;omega
        have hQ:=eO hQ h3
        refine jU ((y::ys),q) ⟨hq,hz,by rw[hQ];simp only[List.append_nil]⟩ ?_
        refine ai (by decide) ?_ ?_ ?_ ?_<;>simp[LX,I,B,D,bw,cK]
     ·refine ai (by decide) ?_ ?_ ?_ ?_<;>simp[LX,I,B,D,bw,bW,z0,cK]
    ·rintro⟨ds,r6⟩ ⟨k6,z6,hQ⟩
     simp only at k6 z6 hQ⊢;try simp only[I,B,D,RY,aB,aC,aE,↓KW,↓aD,seval,bf]
     have hQ:=hQ
     unfold rL Cd.many at hQ;rw[rF,oR]at hQ;obtain⟨n,r7,en,kr7,un,hQ⟩:=aS hQ k6
     have pn:=(hN 1 4 (by decide) (by decide)).step k6 z6 en
     by_cases zr7:r7.code=0
     rotate_left
     ·obtain⟨cs,hq'⟩:=pn.2 zr7
      refine⟨rfl,aA hq' ?_⟩;try simp only[I,B,D,RY,aB,aC,aE,↓KW,↓aD,seval,bf]
      exact un zr7 _ _ ⟨rfl,trivial⟩
     refine⟨rfl,aq (pn.1 zr7) ?_⟩;try simp only[I,B,D,RY,aB,aC,aE,↓KW,↓aD,seval,bf]
     have hb:0<=n/\n<=4:=by have:=uv r6 1 4 (by decide);rw[show eW r6 1 0 4=(n,r7)from en]at this;exact this
     obtain⟨N3,rfl,hN3⟩:∃N:Nat,n=(N:Int)/\N<=4:=⟨n.toNat,by omega,by omega⟩
     simp only[Int.toNat_natCast]at hQ
     refine oS (.exit 8) (fun y:List Rl×aY=>(⟨[(3,.ptr 6 0),(2,.ptr 5 0),(1,.pt 2 [(0,0)])],[(6,⟨(bX phs grs cf ds y.1 [] 0 0 0 0 0 (pad 0 []) 0 0).cells,[]⟩),(5,⟨cR.cells,[]⟩),(0,⟨y.2.cells,[]⟩)],[],400⟩:S)) (fun y=>y.2.Ok/\y.2.code=0/\Q=gJ e RES (fun(f,g,h,i,j,k,l,m,n)=>AV.agg (bX phs grs cf ds y.1 f g h i j k l m n).cells) ((pE.seq fun _=>aQ.seq fun _=>aQ.seq fun _=>aQ.seq fun _=>aQ.seq fun _=>aQ.seq fun _=>((dV 2 (by decide)).rep 8).seq fun _=>dO.seq fun _=>dO).m y.2)) (fun _=>rfl) ?_ ?_
     ·refine aP (fun x:List Rl×aY=>(⟨[(59,.dat (I x.1.length) none),(58,.dat (I N3) none),(3,.ptr 6 0),(2,.ptr 5 0),(1,.pt 2 [(0,0)])],[(6,⟨(bX phs grs cf ds x.1 [] 0 0 0 0 0 (pad 0 []) 0 0).cells,if x.1=[]then[]else[(114,0)]⟩),(5,⟨cR.cells,[]⟩),(0,⟨x.2.cells,[]⟩)],bW x.1 0 eR,400⟩:S)) (fun x=>N3-x.1.length) (fun x=>x.1.length<=N3/\x.2.Ok/\x.2.code=0/\Q=gJ e RES (fun y:List Rl×_=>(fun(f,g,h,i,j,k,l,m,n)=>AV.agg (bX phs grs cf ds (x.1++y.1) f g h i j k l m n).cells) y.2) (((CE.rep (N3-x.1.length)).seq fun _=>pE.seq fun _=>aQ.seq fun _=>aQ.seq fun _=>aQ.seq fun _=>aQ.seq fun _=>aQ.seq fun _=>((dV 2 (by decide)).rep 8).seq fun _=>dO.seq fun _=>dO).m x.2)) ?_ ([],r7) ⟨by simp,kr7,zr7,by rw[hQ];rfl⟩ ?_
      ·intro x hx A back
       obtain⟨L,q⟩:=x;obtain⟨hL,hq,hz,hQ⟩:=hx;simp only at hL hq hz hQ
       have ln:(bX phs grs cf ds L [] 0 0 0 0 0 (pad 0 []) 0 0).Ln:=gy l1 l4 p0
       have hln:=ln.len
       have hat:=ln.Ct
       have hset:∀a:Rl,setCells (bX phs grs cf ds L [] 0 0 0 0 0 (pad 0 []) 0 0).cells 114 [aJ Rl.cells (some (L++[a]))]=(bX phs grs cf ds (L++[a]) [] 0 0 0 0 0 (pad 0 []) 0 0).cells:=fun a=>by
        rw[ln.zN (some (L++[a]))];simp[bX,bw]
       have hatr:(bX phs grs cf ds L [] 0 0 0 0 0 (pad 0 []) 0 0).aZ=bw L:=rfl
       rw[hatr]at hat;simp only[aO,List.map_append,List.map_cons,List.map_nil]at hset
       cases L with
       |nil=>
        simp only[List.map_nil,List.nil_append,bw,if_true,aR]at hset hat
        have hw1:IntKind.i64.wrap 1=1:=by decide
        try simp only[I,B,D,RY,aB,aC,aE,↓KW,↓aD,seval,bf,bw,bW,List.length_nil]
        refine ax (fun h=>?_) (fun h=>?_)<;>try simp only[I,B,D,RY,aB,aC,aE,↓KW,↓aD,seval,hat,h]
        ·have h3:0<N3:=by have:=of_decide_eq_true h;simpa using this
         obtain⟨a,q',ea,ka,ua,hQ⟩:=gj hQ h3 hq
         have pa:=pF.step hR hq hz ea
         have hset:=hset a
         by_cases za:q'.code=0
         rotate_left
         ·obtain⟨cs,hq'⟩:=pa.2 za
          refine xS rfl ?_;try simp only[I,B,D,RY,aB,aC,aE,↓KW,↓aD,seval,bf,hat,hln]
          refine⟨rfl,mh hq' ?_⟩;try simp only[I,B,D,RY,aB,aC,aE,↓KW,↓aD,seval,bf,hat,hln]
          refine .inr ⟨(by intro h;cases h),?_⟩
          exact ua za _ _ ⟨rfl,trivial⟩
         refine xR rfl ?_;try simp only[I,B,D,RY,aB,aC,aE,↓KW,↓aD,seval,bf,hat,hln]
         refine⟨rfl,bg (pa.1 za) ?_⟩;try simp only[I,B,D,RY,aB,aC,aE,↓KW,↓aD,seval,bf,hset,hat,hln,bB,eU,Rl.len']
         repeat(refine And.intro (by first|omega|(simp at h3⊢;omega)) ?_)
         try simp only[I,B,D,RY,aB,aC,aE,↓KW,↓aD,seval,bf,hset,hat,hln,bB,eU,Rl.len']
         refine back ([a],q') _ ⟨by simp at h3⊢;omega,ka,za,by rw[hQ];rfl⟩ (by simp at h3⊢;omega) ?_
         refine ai (by decide) ?_ ?_ ?_ ?_<;>simp[LX,I,B,D,hset,hw1,bw,bB,cK]
        ·have h3:0=N3:=by have:=of_decide_eq_false h;omega
         have hQ:=eO hQ h3
         refine jU ([],q) ⟨hq,hz,by rw[hQ];simp only[List.append_nil]⟩ ?_
         refine ai (by decide) ?_ ?_ ?_ ?_<;>simp[LX,I,B,D,bw,cK]
       |cons y ys=>
        simp only[bw,reduceCtorEq,if_false,aO]at hset hat
        have hw1:IntKind.i64.wrap ((ys.length:Int)+1+1)=(ys.length:Int)+1+1:=bq (by omega) (by simp only[List.length_cons]at hL;omega)
        try simp only[I,B,D,RY,aB,aC,aE,↓KW,↓aD,seval,bf,bw,bW,reduceCtorEq]
        refine ax (fun h=>?_) (fun h=>?_)<;>try simp only[I,B,D,RY,aB,aC,aE,↓KW,↓aD,seval,hat,h]
        ·have h3:(y::ys).length<N3:=by have:=of_decide_eq_true h;simp only[List.length_cons]at this⊢;omega
         obtain⟨a,q',ea,ka,ua,hQ⟩:=gj hQ h3 hq
         have pa:=pF.step hR hq hz ea
         have hset:=hset a
         by_cases za:q'.code=0
         rotate_left
         ·obtain⟨cs,hq'⟩:=pa.2 za
          refine xS rfl ?_;try simp only[I,B,D,RY,aB,aC,aE,↓KW,↓aD,seval,bf,hat,hln]
          refine⟨rfl,mh hq' ?_⟩;try simp only[I,B,D,RY,aB,aC,aE,↓KW,↓aD,seval,bf,hat,hln]
          refine .inr ⟨(by intro h;cases h),?_⟩
          exact ua za _ _ ⟨rfl,trivial⟩
         refine xR rfl ?_;try simp only[I,B,D,RY,aB,aC,aE,↓KW,↓aD,seval,bf,hat,hln]
         refine⟨rfl,bg (pa.1 za) ?_⟩;try simp only[I,B,D,RY,aB,aC,aE,↓KW,↓aD,seval,bf,hset,hat,hln,bB,eU,Rl.len']
         repeat(refine And.intro (by first|omega|(simp at h3⊢;omega)) ?_)
         try simp only[I,B,D,RY,aB,aC,aE,↓KW,↓aD,seval,bf,hset,hat,hln,bB,eU,Rl.len']
         refine back ((y::ys)++[a],q') _ ⟨by simp at h3⊢;omega,ka,za,by rw[hQ];simp⟩ (by simp at h3⊢;omega) ?_
         refine ai (by decide) ?_ ?_ ?_ ?_<;>simp[LX,I,B,D,hset,hw1,bw,bB,cK]
        ·have h3:(y::ys).length=N3:=by have:=of_decide_eq_false h;simp only[List.length_cons]at this hL⊢;omega
         have hQ:=eO hQ h3
         refine jU ((y::ys),q) ⟨hq,hz,by rw[hQ];simp only[List.append_nil]⟩ ?_
         refine ai (by decide) ?_ ?_ ?_ ?_<;>simp[LX,I,B,D,bw,cK]
      ·refine ai (by decide) ?_ ?_ ?_ ?_<;>simp[LX,I,B,D,bw,bW,z0,cK]
     ·rintro⟨rs,r8⟩ ⟨k8,z8,hQ⟩
      simp only at k8 z8 hQ⊢;try simp only[I,B,D,RY,aB,aC,aE,↓KW,↓aD,seval,bf]
      have hQ:=hQ
      unfold pE Cd.many at hQ;rw[rF,oR]at hQ;obtain⟨n,r9,en,kr9,un,hQ⟩:=aS hQ k8
      have pn:=(hN 1 4 (by decide) (by decide)).step k8 z8 en
      by_cases zr9:r9.code=0
      rotate_left
      ·obtain⟨cs,hq'⟩:=pn.2 zr9
       refine⟨rfl,aA hq' ?_⟩;try simp only[I,B,D,RY,aB,aC,aE,↓KW,↓aD,seval,bf]
       exact un zr9 _ _ ⟨rfl,trivial⟩
      refine⟨rfl,aq (pn.1 zr9) ?_⟩;try simp only[I,B,D,RY,aB,aC,aE,↓KW,↓aD,seval,bf]
      have hb:0<=n/\n<=4:=by have:=uv r8 1 4 (by decide);rw[show eW r8 1 0 4=(n,r9)from en]at this;exact this
      obtain⟨N4,rfl,hN4⟩:∃N:Nat,n=(N:Int)/\N<=4:=⟨n.toNat,by omega,by omega⟩
      simp only[Int.toNat_natCast]at hQ
      refine oS (.exit 10) (fun y:List Bs×aY=>(⟨[(3,.ptr 6 0),(2,.ptr 5 0),(1,.pt 2 [(0,0)])],[(6,⟨(bX phs grs cf ds rs y.1 0 0 0 0 0 (pad 0 []) 0 0).cells,[]⟩),(5,⟨cR.cells,[]⟩),(0,⟨y.2.cells,[]⟩)],[],400⟩:S)) (fun y=>y.2.Ok/\y.2.code=0/\Q=gJ e RES (fun(g,h,i,j,k,l,m,n)=>AV.agg (bX phs grs cf ds rs y.1 g h i j k l m n).cells) ((aQ.seq fun _=>aQ.seq fun _=>aQ.seq fun _=>aQ.seq fun _=>aQ.seq fun _=>((dV 2 (by decide)).rep 8).seq fun _=>dO.seq fun _=>dO).m y.2)) (fun _=>rfl) ?_ ?_
      ·refine aP (fun x:List Bs×aY=>(⟨[(71,.dat (I x.1.length) none),(70,.dat (I N4) none),(3,.ptr 6 0),(2,.ptr 5 0),(1,.pt 2 [(0,0)])],[(6,⟨(bX phs grs cf ds rs x.1 0 0 0 0 0 (pad 0 []) 0 0).cells,if x.1=[]then[]else[(115,0)]⟩),(5,⟨cR.cells,[]⟩),(0,⟨x.2.cells,[]⟩)],bW x.1 0 eB,400⟩:S)) (fun x=>N4-x.1.length) (fun x=>x.1.length<=N4/\x.2.Ok/\x.2.code=0/\Q=gJ e RES (fun y:List Bs×_=>(fun(g,h,i,j,k,l,m,n)=>AV.agg (bX phs grs cf ds rs (x.1++y.1) g h i j k l m n).cells) y.2) (((CF.rep (N4-x.1.length)).seq fun _=>aQ.seq fun _=>aQ.seq fun _=>aQ.seq fun _=>aQ.seq fun _=>aQ.seq fun _=>((dV 2 (by decide)).rep 8).seq fun _=>dO.seq fun _=>dO).m x.2)) ?_ ([],r9) ⟨by simp,kr9,zr9,by rw[hQ];rfl⟩ ?_
       ·intro x hx A back
        obtain⟨L,q⟩:=x;obtain⟨hL,hq,hz,hQ⟩:=hx;simp only at hL hq hz hQ
        have ln:(bX phs grs cf ds rs L 0 0 0 0 0 (pad 0 []) 0 0).Ln:=gy l1 l4 p0
        have hln:=ln.len
        have hat:=ln.EG
        have hset:∀a:Bs,setCells (bX phs grs cf ds rs L 0 0 0 0 0 (pad 0 []) 0 0).cells 115 [aJ Bs.cells (some (L++[a]))]=(bX phs grs cf ds rs (L++[a]) 0 0 0 0 0 (pad 0 []) 0 0).cells:=fun a=>by
         rw[ln.zO (some (L++[a]))];simp[bX,bw]
        have hatr:(bX phs grs cf ds rs L 0 0 0 0 0 (pad 0 []) 0 0).bS=bw L:=rfl
        rw[hatr]at hat;simp only[aO,List.map_append,List.map_cons,List.map_nil]at hset
        cases L with
        |nil=>
         simp only[List.map_nil,List.nil_append,bw,if_true,aR]at hset hat
         have hw1:IntKind.i64.wrap 1=1:=by decide
         try simp only[I,B,D,RY,aB,aC,aE,↓KW,↓aD,seval,bf,bw,bW,List.length_nil]
         refine ax (fun h=>?_) (fun h=>?_)<;>try simp only[I,B,D,RY,aB,aC,aE,↓KW,↓aD,seval,hat,h]
         ·have h3:0<N4:=by have:=of_decide_eq_true h;simpa using this
          obtain⟨a,q',ea,ka,ua,hQ⟩:=gj hQ h3 hq
          obtain⟨x1,q1,ea1⟩:∃x1 q1,kL.m q=(x1,q1):=⟨_,_,rfl⟩
          obtain⟨x2,q2,ea2⟩:∃x2 q2,aQ.m q1=(x2,q2):=⟨_,_,rfl⟩
          have ha:a=⟨x1,x2⟩/\q'=q2:=by have:=ea;simp only[CF,Cd.map,Cd.seq,ea1,ea2,Prod.mk.injEq]at this;exact⟨this.1.symm,this.2.symm⟩
          obtain⟨ha,rfl⟩:=ha
          have kq1:q1.Ok:=by have:=kL.ok q hq;rw[ea1]at this;exact this
          have pa1:=pF.step hS hq hz ea1
          by_cases za1:q1.code=0
          rotate_left
          ·have hst:=aQ.stay q1 za1
           rw[ea2]at hst;simp only at hst;subst hst;obtain⟨cs,hq'⟩:=pa1.2 za1;refine⟨rfl,aA hq' ?_⟩;try simp only[I,B,D,RY,aB,aC,aE,↓KW,↓aD,seval,bf]
           refine .inr ⟨(by intro h;cases h),?_⟩
           exact ua za1 _ _ ⟨rfl,trivial⟩
          have hb0:setCells [.int .i64 0,.int .i64 0] 0 [AV.int .i64 x1,.int .i64 0]=[AV.int .i64 x1,.int .i64 0]:=rfl
          have hb2:setCells [AV.int .i64 x1,.int .i64 0] 1 [AV.int .i64 x2]=[AV.int .i64 x1,AV.int .i64 x2]:=rfl
          refine⟨rfl,aq (pa1.1 za1) ?_⟩;try simp only[I,B,D,RY,aB,aC,aE,↓KW,↓aD,seval,bf,hb0]
          have pa2:=pF.step hT kq1 za1 ea2
          have hset:=hset a
          have hac:a.cells=[I x1,I x2]:=by rw[ha];rfl
          rw[hac]at hset
          by_cases za:q'.code=0
          rotate_left
          ·obtain⟨cs,hq'⟩:=pa2.2 za
           refine⟨rfl,aA hq' ?_⟩;try simp only[I,B,D,RY,aB,aC,aE,↓KW,↓aD,seval,bf]
           refine .inr ⟨(by intro h;cases h),?_⟩
           exact ua za _ _ ⟨rfl,trivial⟩
          refine⟨rfl,aq (pa2.1 za) ?_⟩;try simp only[I,B,D,RY,aB,aC,aE,↓KW,↓aD,seval,bf,hset,hat,hln,bB,eU,Bs.len',hb0,hb2]
          repeat(refine And.intro (by first|omega|(simp at h3⊢;omega)) ?_)
          try simp only[I,B,D,RY,aB,aC,aE,↓KW,↓aD,seval,bf,hset,hat,hln,bB,eU,Bs.len',hb0,hb2]
          refine back ([a],q') _ ⟨by simp at h3⊢;omega,ka,za,by rw[hQ];rfl⟩ (by simp at h3⊢;omega) ?_
          refine ai (by decide) ?_ ?_ ?_ ?_<;>simp[LX,I,B,D,hset,hw1,bw,bB,cK]
         ·have h3:0=N4:=by have:=of_decide_eq_false h;omega
          have hQ:=eO hQ h3
          refine jU ([],q) ⟨hq,hz,by rw[hQ];simp only[List.append_nil]⟩ ?_
          refine ai (by decide) ?_ ?_ ?_ ?_<;>simp[LX,I,B,D,bw,cK]
        |cons y ys=>
         simp only[bw,reduceCtorEq,if_false,aO]at hset hat
         have hw1:IntKind.i64.wrap ((ys.length:Int)+1+1)=(ys.length:Int)+1+1:=bq (by omega) (by simp only[List.length_cons]at hL;omega)
         try simp only[I,B,D,RY,aB,aC,aE,↓KW,↓aD,seval,bf,bw,bW,reduceCtorEq]
         refine ax (fun h=>?_) (fun h=>?_)<;>try simp only[I,B,D,RY,aB,aC,aE,↓KW,↓aD,seval,hat,h]
         ·have h3:(y::ys).length<N4:=by have:=of_decide_eq_true h;simp only[List.length_cons]at this⊢;omega
          obtain⟨a,q',ea,ka,ua,hQ⟩:=gj hQ h3 hq
          obtain⟨x1,q1,ea1⟩:∃x1 q1,kL.m q=(x1,q1):=⟨_,_,rfl⟩
          obtain⟨x2,q2,ea2⟩:∃x2 q2,aQ.m q1=(x2,q2):=⟨_,_,rfl⟩
          have ha:a=⟨x1,x2⟩/\q'=q2:=by have:=ea;simp only[CF,Cd.map,Cd.seq,ea1,ea2,Prod.mk.injEq]at this;exact⟨this.1.symm,this.2.symm⟩
          obtain⟨ha,rfl⟩:=ha
          have kq1:q1.Ok:=by have:=kL.ok q hq;rw[ea1]at this;exact this
          have pa1:=pF.step hS hq hz ea1
          by_cases za1:q1.code=0
          rotate_left
          ·have hst:=aQ.stay q1 za1
           rw[ea2]at hst;simp only at hst;subst hst;obtain⟨cs,hq'⟩:=pa1.2 za1;refine⟨rfl,aA hq' ?_⟩;try simp only[I,B,D,RY,aB,aC,aE,↓KW,↓aD,seval,bf]
           refine .inr ⟨(by intro h;cases h),?_⟩
           exact ua za1 _ _ ⟨rfl,trivial⟩
          have hb0:setCells [.int .i64 0,.int .i64 0] 0 [AV.int .i64 x1,.int .i64 0]=[AV.int .i64 x1,.int .i64 0]:=rfl
          have hb2:setCells [AV.int .i64 x1,.int .i64 0] 1 [AV.int .i64 x2]=[AV.int .i64 x1,AV.int .i64 x2]:=rfl
          refine⟨rfl,aq (pa1.1 za1) ?_⟩;try simp only[I,B,D,RY,aB,aC,aE,↓KW,↓aD,seval,bf,hb0]
          have pa2:=pF.step hT kq1 za1 ea2
          have hset:=hset a
          have hac:a.cells=[I x1,I x2]:=by rw[ha];rfl
          rw[hac]at hset
          by_cases za:q'.code=0
          rotate_left
          ·obtain⟨cs,hq'⟩:=pa2.2 za
           refine⟨rfl,aA hq' ?_⟩;try simp only[I,B,D,RY,aB,aC,aE,↓KW,↓aD,seval,bf]
           refine .inr ⟨(by intro h;cases h),?_⟩
           exact ua za _ _ ⟨rfl,trivial⟩
          refine⟨rfl,aq (pa2.1 za) ?_⟩;try simp only[I,B,D,RY,aB,aC,aE,↓KW,↓aD,seval,bf,hset,hat,hln,bB,eU,Bs.len',hb0,hb2]
          repeat(refine And.intro (by first|omega|(simp at h3⊢;omega)) ?_)
          try simp only[I,B,D,RY,aB,aC,aE,↓KW,↓aD,seval,bf,hset,hat,hln,bB,eU,Bs.len',hb0,hb2]
          refine back ((y::ys)++[a],q') _ ⟨by simp at h3⊢;omega,ka,za,by rw[hQ];simp⟩ (by simp at h3⊢;omega) ?_
          refine ai (by decide) ?_ ?_ ?_ ?_<;>simp[LX,I,B,D,hset,hw1,bw,bB,cK]
         ·have h3:(y::ys).length=N4:=by have:=of_decide_eq_false h;simp only[List.length_cons]at this hL⊢;omega
          have hQ:=eO hQ h3
          refine jU ((y::ys),q) ⟨hq,hz,by rw[hQ];simp only[List.append_nil]⟩ ?_
          refine ai (by decide) ?_ ?_ ?_ ?_<;>simp[LX,I,B,D,bw,cK]
       ·refine ai (by decide) ?_ ?_ ?_ ?_<;>simp[LX,I,B,D,bw,bW,z0,cK]
      ·rintro⟨bs,r10⟩ ⟨k10,z10,hQ⟩
       simp only at k10 z10 hQ⊢;try simp only[I,B,D,RY,aB,aC,aE,↓KW,↓aD,seval,bf]
       refine bp ?_;try simp only[I,B,D,RY,aB,aC,aE,↓KW,↓aD,seval,bf,ji]
       obtain⟨a0,r11,e11,k11,u11,hQ⟩:=aS hQ k10
       have pa0:=pF.step hT k10 z10 e11
       by_cases z11:r11.code=0
       rotate_left
       ·obtain⟨cs,hq'⟩:=pa0.2 z11
        refine⟨rfl,aA hq' ?_⟩;try simp only[I,B,D,RY,aB,aC,aE,↓KW,↓aD,seval,bf]
        exact u11 z11 _ _ ⟨rfl,trivial⟩
       refine⟨rfl,aq (pa0.1 z11) ?_⟩
       have ln0:(bX phs grs cf ds rs bs 0 0 0 0 0 (pad 0 []) 0 0).Ln:=gy l1 l4 p0
       have hs0:setCells (bX phs grs cf ds rs bs 0 0 0 0 0 (pad 0 []) 0 0).cells 116 [I a0]=(bX phs grs cf ds rs bs a0 0 0 0 0 (pad 0 []) 0 0).cells:=(ln0.jf a0).1
       have hl0:=ln0.len
       try simp only[I,B,D,RY,aB,aC,aE,↓KW,↓aD,seval,bf,ji,hs0,hl0]
       refine bp ?_;try simp only[I,B,D,RY,aB,aC,aE,↓KW,↓aD,seval,bf,ji]
       obtain⟨a1,r12,e12,k12,u12,hQ⟩:=aS hQ k11
       have pa1:=pF.step hT k11 z11 e12
       by_cases z12:r12.code=0
       rotate_left
       ·obtain⟨cs,hq'⟩:=pa1.2 z12
        refine⟨rfl,aA hq' ?_⟩;try simp only[I,B,D,RY,aB,aC,aE,↓KW,↓aD,seval,bf]
        exact u12 z12 _ _ ⟨rfl,trivial⟩
       refine⟨rfl,aq (pa1.1 z12) ?_⟩
       have ln1:(bX phs grs cf ds rs bs a0 0 0 0 0 (pad 0 []) 0 0).Ln:=gy l1 l4 p0
       have hs1:setCells (bX phs grs cf ds rs bs a0 0 0 0 0 (pad 0 []) 0 0).cells 117 [I a1]=(bX phs grs cf ds rs bs a0 a1 0 0 0 (pad 0 []) 0 0).cells:=(ln1.jf a1).2.1
       have hl1:=ln1.len
       try simp only[I,B,D,RY,aB,aC,aE,↓KW,↓aD,seval,bf,ji,hs1,hl1]
       refine bp ?_;try simp only[I,B,D,RY,aB,aC,aE,↓KW,↓aD,seval,bf,ji]
       obtain⟨a2,r13,e13,k13,u13,hQ⟩:=aS hQ k12
       have pa2:=pF.step hT k12 z12 e13
       by_cases z13:r13.code=0
       rotate_left
       ·obtain⟨cs,hq'⟩:=pa2.2 z13
        refine⟨rfl,aA hq' ?_⟩;try simp only[I,B,D,RY,aB,aC,aE,↓KW,↓aD,seval,bf]
        exact u13 z13 _ _ ⟨rfl,trivial⟩
       refine⟨rfl,aq (pa2.1 z13) ?_⟩
       have ln2:(bX phs grs cf ds rs bs a0 a1 0 0 0 (pad 0 []) 0 0).Ln:=gy l1 l4 p0
       have hs2:setCells (bX phs grs cf ds rs bs a0 a1 0 0 0 (pad 0 []) 0 0).cells 118 [I a2]=(bX phs grs cf ds rs bs a0 a1 a2 0 0 (pad 0 []) 0 0).cells:=(ln2.jf a2).2.2.1
       have hl2:=ln2.len
       try simp only[I,B,D,RY,aB,aC,aE,↓KW,↓aD,seval,bf,ji,hs2,hl2]
       refine bp ?_;try simp only[I,B,D,RY,aB,aC,aE,↓KW,↓aD,seval,bf,ji]
       obtain⟨a3,r14,e14,k14,u14,hQ⟩:=aS hQ k13
       have pa3:=pF.step hT k13 z13 e14
       by_cases z14:r14.code=0
       rotate_left
       ·obtain⟨cs,hq'⟩:=pa3.2 z14
        refine⟨rfl,aA hq' ?_⟩;try simp only[I,B,D,RY,aB,aC,aE,↓KW,↓aD,seval,bf]
        exact u14 z14 _ _ ⟨rfl,trivial⟩
       refine⟨rfl,aq (pa3.1 z14) ?_⟩
       have ln3:(bX phs grs cf ds rs bs a0 a1 a2 0 0 (pad 0 []) 0 0).Ln:=gy l1 l4 p0
       have hs3:setCells (bX phs grs cf ds rs bs a0 a1 a2 0 0 (pad 0 []) 0 0).cells 119 [I a3]=(bX phs grs cf ds rs bs a0 a1 a2 a3 0 (pad 0 []) 0 0).cells:=(ln3.jf a3).2.2.2.1
       have hl3:=ln3.len
       try simp only[I,B,D,RY,aB,aC,aE,↓KW,↓aD,seval,bf,ji,hs3,hl3]
       refine bp ?_;try simp only[I,B,D,RY,aB,aC,aE,↓KW,↓aD,seval,bf,ji]
       obtain⟨a4,r15,e15,k15,u15,hQ⟩:=aS hQ k14
       have pa4:=pF.step hT k14 z14 e15
       by_cases z15:r15.code=0
       rotate_left
       ·obtain⟨cs,hq'⟩:=pa4.2 z15
        refine⟨rfl,aA hq' ?_⟩;try simp only[I,B,D,RY,aB,aC,aE,↓KW,↓aD,seval,bf]
        exact u15 z15 _ _ ⟨rfl,trivial⟩
       refine⟨rfl,aq (pa4.1 z15) ?_⟩
       have ln4:(bX phs grs cf ds rs bs a0 a1 a2 a3 0 (pad 0 []) 0 0).Ln:=gy l1 l4 p0
       have hs4:setCells (bX phs grs cf ds rs bs a0 a1 a2 a3 0 (pad 0 []) 0 0).cells 120 [I a4]=(bX phs grs cf ds rs bs a0 a1 a2 a3 a4 (pad 0 []) 0 0).cells:=(ln4.jf a4).2.2.2.2
       have hl4:=ln4.len
       try simp only[I,B,D,RY,aB,aC,aE,↓KW,↓aD,seval,bf,ji,hs4,hl4]
       clear ln0 hs0 hl0 ln1 hs1 hl1 ln2 hs2 hl2 ln3 hs3 hl3 ln4 hs4 hl4;refine bp ?_;try simp only[I,B,D,RY,aB,aC,aE,↓KW,↓aD,seval,bf,ji]
       refine iJ ?_;try simp only[I,B,D,RY,aB,aC,aE,↓KW,↓aD,seval,bf]
       refine oS (.exit 14) (fun y:List Int×aY=>(⟨[(3,.ptr 6 0),(2,.ptr 5 0),(1,.pt 2 [(0,0)])],[(6,⟨(bX phs grs cf ds rs bs a0 a1 a2 a3 a4 y.1 0 0).cells,[]⟩),(5,⟨cR.cells,[]⟩),(0,⟨y.2.cells,[]⟩)],[],400⟩:S)) (fun y=>y.1.length=8/\y.2.Ok/\y.2.code=0/\Q=gJ e RES (fun(m,n)=>AV.agg (bX phs grs cf ds rs bs a0 a1 a2 a3 a4 y.1 m n).cells) ((dO.seq fun _=>dO).m y.2)) (fun _=>rfl) ?_ ?_
       ·refine aP (fun x:List Int×aY=>(⟨[(102,.dat (I x.1.length) none),(3,.ptr 6 0),(2,.ptr 5 0),(1,.pt 2 [(0,0)])],[(6,⟨(bX phs grs cf ds rs bs a0 a1 a2 a3 a4 (pad 0 x.1) 0 0).cells,[]⟩),(5,⟨cR.cells,[]⟩),(0,⟨x.2.cells,[]⟩)],[],400⟩:S)) (fun x=>8-x.1.length) (fun x=>x.1.length<=8/\x.2.Ok/\x.2.code=0/\Q=gJ e RES (fun y:List Int×_=>(fun(m,n)=>AV.agg (bX phs grs cf ds rs bs a0 a1 a2 a3 a4 (x.1++y.1) m n).cells) y.2) ((((dV 2 (by decide)).rep (8-x.1.length)).seq fun _=>dO.seq fun _=>dO).m x.2)) ?_ ([],r15) ⟨by simp,k15,z15,by rw[hQ];rfl⟩ ?_
        ·intro x hx A back
         obtain⟨L,q⟩:=x;obtain⟨hL,hq,hz,hQ⟩:=hx;simp only at hL hq hz hQ
         have ln:(bX phs grs cf ds rs bs a0 a1 a2 a3 a4 (pad 0 L) 0 0).Ln:=gy l1 l4 (Bc hL)
         have hln:=ln.len
         have hw:=aN (k:=L.length) (by omega)
         try simp only[I,B,D,RY,aB,aC,aE,↓KW,↓aD,seval,bf]
         refine ax (fun h=>?_) (fun h=>?_)<;>try simp only[I,B,D,RY,aB,aC,aE,↓KW,↓aD,seval,h]
         ·have h3:L.length<8:=by have:=of_decide_eq_true h;omega
          obtain⟨a,q',ea,ka,ua,hQ⟩:=gj hQ h3 hq
          have pa:=pF.step (hN 1 2 (by decide) (by decide)) hq hz ea
          have hs:setCells (bX phs grs cf ds rs bs a0 a1 a2 a3 a4 (pad 0 L) 0 0).cells (121+L.length) [I a]=(bX phs grs cf ds rs bs a0 a1 a2 a3 a4 (pad 0 (L++[a])) 0 0).cells:=by
           rw[ln.uX h3 a];simp only[bX,Bd h3]
          by_cases za:q'.code=0
          rotate_left
          ·obtain⟨cs,hq'⟩:=pa.2 za
           refine⟨rfl,aA hq' ?_⟩;try simp only[I,B,D,RY,aB,aC,aE,↓KW,↓aD,seval,bf]
           refine .inr ⟨(by intro h;cases h),?_⟩
           exact ua za _ _ ⟨rfl,trivial⟩
          refine⟨rfl,aq (pa.1 za) ?_⟩;try simp only[I,B,D,RY,aB,aC,aE,↓KW,↓aD,seval,bf,hs,Ph.len]
          repeat(refine And.intro (by first|omega|(simp;omega)) ?_)
          try simp only[I,B,D,RY,aB,aC,aE,↓KW,↓aD,seval,bf,hs,Ph.len]
          refine back (L++[a],q') _ ⟨by show(L++[a]).length<=8;simp;omega,ka,za,?_⟩ (by show 8-(L++[a]).length<8-L.length;simp;omega) ?_
          ·rw[hQ];simp only[List.length_append,List.length_singleton,List.append_assoc,List.singleton_append]
          refine ai (by decide) ?_ ?_ ?_ ?_<;>simp[LX,I,B,D,hs,hw,List.length_append,cK]
         ·have h3:L.length=8:=by have:=of_decide_eq_false h;omega
          have hQ:=eO hQ h3
          refine jU (L,q) ⟨h3,hq,hz,by rw[hQ];simp only[List.append_nil]⟩ ?_
          refine ai (by decide) ?_ ?_ ?_ ?_<;>simp[LX,I,B,D,Bb h3,cK]
        ·refine ai (by decide) ?_ ?_ ?_ ?_<;>simp[LX,I,B,D,z0,cK]
       ·rintro⟨fl,r16⟩ ⟨l16,k16,z16,hQ⟩
        simp only at l16 k16 z16 hQ⊢;try simp only[I,B,D,RY,aB,aC,aE,↓KW,↓aD,seval,bf]
        have ln:(bX phs grs cf ds rs bs a0 a1 a2 a3 a4 fl 0 0).Ln:=gy l1 l4 l16
        have ln':∀w,(bX phs grs cf ds rs bs a0 a1 a2 a3 a4 fl w 0).Ln:=fun w=>gy l1 l4 l16
        have hl:=ln.len
        obtain⟨w,r17,e17,k17,u17,hQ⟩:=aS hQ k16
        have pa17:=pF.step (hN 4 2147483647 (by decide) (by decide)) k16 z16 e17
        by_cases z17:r17.code=0
        rotate_left
        ·obtain⟨cs,hq'⟩:=pa17.2 z17
         refine⟨rfl,aA hq' ?_⟩;try simp only[I,B,D,RY,aB,aC,aE,↓KW,↓aD,seval,bf]
         exact u17 z17 _ _ ⟨rfl,trivial⟩
        refine⟨rfl,aq (pa17.1 z17) ?_⟩
        have hs:setCells (bX phs grs cf ds rs bs a0 a1 a2 a3 a4 fl 0 0).cells 129 [I w]=(bX phs grs cf ds rs bs a0 a1 a2 a3 a4 fl w 0).cells:=(ln.uq w).1
        have hl':=(ln' w).len
        try simp only[I,B,D,RY,aB,aC,aE,↓KW,↓aD,seval,bf,hs,hl]
        obtain⟨s,r18,e18,k18,u18,hQ⟩:=jB hQ k17
        have pa18:=pF.step (hN 4 2147483647 (by decide) (by decide)) k17 z17 e18
        by_cases z18:r18.code=0
        rotate_left
        ·obtain⟨cs,hq'⟩:=pa18.2 z18
         refine⟨rfl,aA hq' ?_⟩;try simp only[I,B,D,RY,aB,aC,aE,↓KW,↓aD,seval,bf]
         exact u18 z18 _ _ ⟨rfl,trivial⟩
        refine⟨rfl,aq (pa18.1 z18) ?_⟩
        have hs':setCells (bX phs grs cf ds rs bs a0 a1 a2 a3 a4 fl w 0).cells 130 [I s]=(bX phs grs cf ds rs bs a0 a1 a2 a3 a4 fl w s).cells:=((ln' w).uq s).2
        have ln2:(bX phs grs cf ds rs bs a0 a1 a2 a3 a4 fl w s).Ln:=gy l1 l4 l16
        have hl2:=ln2.len
        have hw2:=ln2.whole
        have hz:setCells cR.cells 0 (bX phs grs cf ds rs bs a0 a1 a2 a3 a4 fl w s).cells=(bX phs grs cf ds rs bs a0 a1 a2 a3 a4 fl w s).cells:=gu (by rw[hl2];rfl)
        have hz0:cR.cells.length=131:=rfl
        try simp only[I,B,D,RY,aB,aC,aE,↓KW,↓aD,seval,bf,hs',hl',hw2,hl2,hz,hz0]
        refine iF hQ z18 ?_;rw[hRES];try simp only[I,B,D,RY,aB,aC,aE,↓KW,↓aD,seval,dP,z0,hw2,hl2]
end
end Go.Eng
