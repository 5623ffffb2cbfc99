/- Part 21 of the engine and its library. -/
import Derived.Test.YtjnbemnncjbmgaaGreatPkA20
set_option linter.all false
set_option maxRecDepth 10000
set_option maxHeartbeats 4000000
namespace Go.Eng
open Go
section
variable (C:aQ) (f:Nat)
def Ms:List AV:=[B true,I 50,I 20,I 200,I 300,I 50,I 35,I 10,I 0,I 0,I 0,B true,B false,B true,I 50,I 20,I 200,I 300,I 50,I 35,I 10,I 70,I 80,I 1,B true,B false,B true,I 50,I 20,I 200,I 300,I 50,I 35,I 10,I 0,I 0,I 0,B true,B false,B true,I 50,I 20,I 200,I 300,I 50,I 35,I 10,I 70,I 80,I 0,B true,B false,B true,I 50,I 20,I 200,I 300,I 50,I 35,I 10,I 0,I 0,I 0,B true,B false,B true,I 50,I 20,I 200,I 300,I 50,I 35,I 10,I 70,I 80,I 1,B true,B false,B true,I 50,I 20,I 200,I 300,I 50,I 35,I 10,I 0,I 0,I 0,B true,B false,B true,I 50,I 20,I 200,I 300,I 50,I 35,I 10,I 70,I 80,I 0,B true,B false,(.sl [[(.sl ([0,1].map λn=>[I n])),(.sl ([4,5].map λn=>[I n]))],[(.sl ([2,3].map λn=>[I n])),(.sl ([6,7].map λn=>[I n]))]]),I 206,I 205,I 59,I 55,I 236,I 220,I 179,I 115,(.sl [[I 0,(.float .f64 4621819117588971520),(.float .f64 4617315517961601024),(.float .f64 0),(.float .f64 4602678819172646912),I 6000,I 0],[I 1,(.float .f64 4621819117588971520),(.float .f64 4617315517961601024),(.float .f64 0),(.float .f64 4602678819172646912),I 6000,I 0],[I 2,(.float .f64 4621819117588971520),(.float .f64 4617315517961601024),(.float .f64 0),(.float .f64 4602678819172646912),I 6000,I 0],[I 3,(.float .f64 4621819117588971520),(.float .f64 4617315517961601024),(.float .f64 0),(.float .f64 4602678819172646912),I 6000,I 0],[I 4,(.float .f64 4621819117588971520),(.float .f64 4617315517961601024),(.float .f64 0),(.float .f64 4602678819172646912),I 6000,I 0],[I 5,(.float .f64 4621819117588971520),(.float .f64 4617315517961601024),(.float .f64 0),(.float .f64 4602678819172646912),I 6000,I 0],[I 6,(.float .f64 4621819117588971520),(.float .f64 4617315517961601024),(.float .f64 0),(.float .f64 4602678819172646912),I 6000,I 0],[I 7,(.float .f64 4621819117588971520),(.float .f64 4617315517961601024),(.float .f64 0),(.float .f64 4602678819172646912),I 6000,I 0]]),(.sl [[I 204,I 136,I 34,I 68,I 5,I 20,I 30,I 100,I 100,I 3000,I 4000]]),(.sl [[I 34,I 600]]),I 100,I 200,I 60,I 20,I 100,I 1,I 2,I 1,I 1,I 1,I 2,I 1,I 1,I 8640000,I 600]
def F5:AV:=.agg Ms
def ZG:AV:=.sl ([88,66,1,1,0,50,0,20,0,200,1,44,0,50,0,35,0,10,0,0,0,0,0,1,0,1,0,50,0,20,0,200,1,44,0,50,0,35,0,10,0,70,0,80,1,1,0,1,0,50,0,20,0,200,1,44,0,50,0,35,0,10,0,0,0,0,0,1,0,1,0,50,0,20,0,200,1,44,0,50,0,35,0,10,0,70,0,80,0,1,0,1,0,50,0,20,0,200,1,44,0,50,0,35,0,10,0,0,0,0,0,1,0,1,0,50,0,20,0,200,1,44,0,50,0,35,0,10,0,70,0,80,1,1,0,1,0,50,0,20,0,200,1,44,0,50,0,35,0,10,0,0,0,0,0,1,0,1,0,50,0,20,0,200,1,44,0,50,0,35,0,10,0,70,0,80,0,1,0,2,2,0,1,2,4,5,2,2,3,2,6,7,206,205,59,55,236,220,179,115,8,0,64,36,0,0,0,0,0,0,64,20,0,0,0,0,0,0,0,0,0,0,0,0,0,0,63,224,0,0,0,0,0,0,23,112,0,0,1,64,36,0,0,0,0,0,0,64,20,0,0,0,0,0,0,0,0,0,0,0,0,0,0,63,224,0,0,0,0,0,0,23,112,0,0,2,64,36,0,0,0,0,0,0,64,20,0,0,0,0,0,0,0,0,0,0,0,0,0,0,63,224,0,0,0,0,0,0,23,112,0,0,3,64,36,0,0,0,0,0,0,64,20,0,0,0,0,0,0,0,0,0,0,0,0,0,0,63,224,0,0,0,0,0,0,23,112,0,0,4,64,36,0,0,0,0,0,0,64,20,0,0,0,0,0,0,0,0,0,0,0,0,0,0,63,224,0,0,0,0,0,0,23,112,0,0,5,64,36,0,0,0,0,0,0,64,20,0,0,0,0,0,0,0,0,0,0,0,0,0,0,63,224,0,0,0,0,0,0,23,112,0,0,6,64,36,0,0,0,0,0,0,64,20,0,0,0,0,0,0,0,0,0,0,0,0,0,0,63,224,0,0,0,0,0,0,23,112,0,0,7,64,36,0,0,0,0,0,0,64,20,0,0,0,0,0,0,0,0,0,0,0,0,0,0,63,224,0,0,0,0,0,0,23,112,0,0,1,204,136,34,68,0,5,0,20,0,30,0,100,0,100,11,184,0,0,15,160,1,34,2,88,0,100,0,200,0,60,0,20,0,100,1,2,1,1,1,2,1,1,0,131,214,0,0,0,2,88,54,198].map λn=>[.int .u8 n])
def aiS:AV:=.agg [I 3983427,I 3983427,I 3983427,I 3983427,I 3983427,I 3983427,I 3983427,I 3983427,I 580,I 0,I 0,I 0]
theorem ZH:Ms.length=131:=rfl
noncomputable def mdE(a b f:Nat):Nat:=Bool.rec (Nat.land 1 (Nat.shiftRight a f)) 2 (Nat.beq (Nat.land 1 (Nat.shiftRight b f)) 1)
def itE(D:Nat):AV->Option (List (List AV))
 | .fn (.func f) [] [.ref [.int .i64 s]]=>if f=D then some (((List.range 8).filter λp=>tb s p).map λ(p:Nat)=>[I p])else none
 |_=>none
theorem aeH{C:aQ} {L:Nat} (h:iq.Spec C L):∀g xs,itE L g=some xs->C.i g xs:=by
 intro g xs D;unfold itE at D;split at D
 ·split at D
  ·rename_i s M;subst M;cases D;exact h s
  ·cases D
 ·cases D
def wR.Spec:Prop:=C.c f [] F5 none
def Jv.Spec:Prop:=C.c f [F5] (.de [aiS,.agg [I 0,I 0]]) none
def Jw.Spec:Prop:=C.c f [F5] (.de [ZG,I 0]) none
def Jy.Spec:Prop:=C.c f [ZG] (.de [F5,.agg [I 0,I 0]]) none
def Dj.Spec:Prop:=C.c f [F5,F5] (B true) none
def vO.Spec:Prop:=C.c f [] (B true) none
theorem F6{P:Program} (hm:P.follows .mixedOrders=true) {D a b f:Nat} {as:List AV} {r:AV} (hE:iq.Spec (Pure P) D) (h:evF (itE D) (mdE a b) 10000 P 100 f [] (as.map some)=some (.ret r none [])):(Pure P).c f as r none:=aiR hm (aeH hE) h
end
section
variable{P:Program} (hm:P.follows .mixedOrders=true) {f:Nat}
include hm
theorem vO.ok{fS fA R fD O:Nat} (hc:bF P f=some (AD fS fA R fD O)) (hS:wR.Spec (Pure P) fS) (hA:Jv.Spec (Pure P) fA) (hE:Jw.Spec (Pure P) R) (hD:Jy.Spec (Pure P) fD) (hM:Dj.Spec (Pure P) O):vO.Spec (Pure P) f:=by
 have D:setCells iR 0 Ms=Ms:=rfl
 have L:aB Ms 0 (some 131)=some (.agg Ms):=rfl
 have z3:iR.length=131:=rfl
 have z4:Ms[0]? =some (B true):=rfl
 have z5:=ZH
 have z6:gS ZG none=true:=rfl
 have z7:Hh.length=12:=rfl
 obtain⟨w,hw,M⟩:∃w,aiS=.agg w/\w.length=12:=⟨_,rfl,rfl⟩
 rw[wR.Spec,F5]at hS;rw[Jv.Spec,hw,F5]at hA;rw[Jw.Spec,F5]at hE;rw[Jy.Spec,F5]at hD;rw[Dj.Spec,F5]at hM;generalize Ms=l at*;generalize ZG=b at*
 have V:setCells [.int .i64 0,.int .i64 0] 0 [.int .i64 0,.int .i64 0]=[.int .i64 0,.int .i64 0]:=rfl
 have z9:([.int .i64 0,.int .i64 0]:List AV)[0]? =some (.int .i64 0):=rfl
 refine aq hm hc [] rfl ?_;try simp only[B,RY,↓KW,seval,AD,Z.H]
 refine af hS ?_;try simp only[RY,↓KW,seval,D,L,z3,z5]
 refine af hA ?_;try simp only[I,RY,↓KW,seval,D,L,z7,M]
 refine af hE ?_;try simp only[I,RY,↓KW,seval,V]
 refine af hD ?_;try simp only[I,RY,↓KW,seval,D,L,z3,z5,V,z9]
 refine af hM ?_;try simp only[B,RY,↓KW,seval,D,z4]
end
section
variable (C:aQ) (f:Nat)
def PL:List CK->List AV->Bool
 |[],[]=>true
 | .b::D,.bool _::as=>PL D as
 | .i::D,.int _ _::as=>PL D as
 |_,_=>false
theorem jO(D:List CK) (as:List AV) (h:PL D as=true):cq D as as=some true:=by
 fun_induction PL D as with
 |case1=>rfl
 |case2 D x as L=>simp[cq,rI,L h]
 |case3 D k x as L=>simp[cq,rI,L h]
 |case4=>cases h
def k96:List CK:=(List.replicate 8 [CK.i,.i,.i,.i,.i,.i,.i,.b,.b,.i,.i,.i]).flatten
theorem Rt{l:List Rn} (h:l.length=8):cq k96 (bU l) (bU l)=some true:=by
 match l,h with
 |[_,_,_,_,_,_,_,_],_=>exact jO _ _ rfl
theorem ZI{s:Rd} (h:s.lock.length=4):cq [.i,.i,.i,.i,.i,.i] s.cells s.cells=some true:=by
 obtain⟨lk,w,D⟩:=s
 match lk,h with
 |[_,_,_,_],_=>exact jO _ _ rfl
theorem ZJ{s:Pr} (h:s.held.length=4):cq [.i,.i,.i,.i,.i,.i,.i,.i] s.cells s.cells=some true:=by
 obtain⟨a,b,c,hd,D⟩:=s
 match hd,h with
 |[_,_,_,_],_=>exact jO _ _ rfl
theorem VP(s:gx):cq [.i,.i,.i,.b] s.cells s.cells=some true:=jO _ _ rfl
theorem ZK(s:Cs):cq [.i,.i] s.cells s.cells=some true:=jO _ _ rfl
theorem ZL(s:Ch):cq [.b,.i,.i,.i,.i,.i,.b] s.cells s.cells=some true:=jO _ _ rfl
def F7.Spec:Prop:=∀o:Option (List Ch),(o.getD []).length<=1000000->C.c f [aJ Ch.cells o,aJ Ch.cells o] (B true) none
def F8.Spec:Prop:=∀s:bB,s.Ok->(s.gH.getD []).length<=1000000->C.c f [.agg s.cells,.agg s.cells] (B true) none
end
section
variable{P:Program} (hm:P.follows .mixedOrders=true) {f:Nat}
include hm
theorem F7.ok(hc:bF P f=some lq):F7.Spec (Pure P) f:=by
 intro o ho
 have V:(((o.getD []).length:Int) !=((o.getD []).length:Int))=false:=py _
 refine aq hm hc [] rfl ?_;try simp only[I,B,D,RX,↓KW,seval,lq,Z.H,V]
 refine aK (λi:Nat=>(⟨[(5,.dat (I i) none),(0,.dat (aJ Ch.cells o) none),(1,.dat (aJ Ch.cells o) none)],[],[],400⟩:S)) (λi=>1000000-i) (λi=>i<=(o.getD []).length) ?_ 0 aaN ?_
 rotate_left
 ·refine ai aaO ?_ ?_ ?_ ?_<;>simp[LX,I,B,D]
 intro i hi A back
 have L:=aD (k:=i) aaN
 rcases bf (decide ((i:Int)<((o.getD []).length:Int)))with h|h
 ·try simp only[I,B,D,RX,↓KW,seval,h]
  try rfl
 ·have R:i<(o.getD []).length:=by have:=dT h;omega
  obtain⟨x,hx⟩:∃x,(o.getD [])[i]? =some x:=⟨_,eh R⟩
  have O:0<=(i:Int)/\(i:Int)<((o.getD []).length:Int):=aaN
  have M:x.cells.length=7/\aB x.cells 0 (some 7)=some (.agg x.cells):=⟨rfl,rfl⟩
  have hs:=ZL x
  have w:(true !=true)=false:=rfl
  try simp only[I,B,D,RX,↓KW,seval,h,hx,O,M,hs,w]
  refine back (i+1) _ aaN aaN ?_
  refine ai aaO ?_ ?_ ?_ ?_<;>simp[LX,I,B,D,L]
theorem F8.ok{R:Nat} (hc:bF P f=some (oB R)) (hC:F7.Spec (Pure P) R):F8.Spec (Pure P) f:=by
 intro s L hl
 have e1:=bB.len L
 have p0:=bB.wD L
 have p1:=bB.p96 L
 have p2:=bB.aiq L
 have V:=bB.adW L
 have p4:=bB.Y2 L
 have p5:=bB.adX L
 have O:=Rt L.runs
 have q1:=VP s.rings
 have q2:=ZI L.lock
 have q3:=ZJ L.held
 have q4:=ZK s.calls
 simp only[k96,List.replicate,aaf,List.flatten_nil,sa,ml,tp]at O
 have w:(true !=false)=true:=rfl
 have M:=dC w (dC e1 (dC p0 (dC p1 (dC p2 (dC V (dC p4 (dC p5 (dC O (dC q1 (dC q2 (dC q3 (q4))))))))))))
 refine aq hm hc [] rfl ?_;try simp only[I,B,D,RY,↓KW,seval,oB,Z.H,M]
 refine af (hC s.gH hl) ?_;try simp only[I,B,D,RY,↓KW,seval,M]
 try rfl
end
section
variable (t:Tb) (b:Bx) (x:Fr)
structure CI (t:Tb) (n:Nat) (b:Bx):Prop where
 inv:Inv t b
 si:SI t n b.st
theorem aeI:(gG t b x).st=b.st\/(gG t b x).st=fQ t\/∃i,(gG t b x).st=Mz t b.st i:=by
 unfold gG;split
 ·unfold sN;split<;>exact .inl rfl
 ·split
  ·unfold FQ;split
   ·exact .inr (.inl rfl)
   ·exact .inr (.inr ⟨_,rfl⟩)
  ·unfold sO;split<;>exact .inl rfl
theorem CI.Wi{t:Tb} {n:Nat}:CI t n (uf t):=⟨Inv.Wi t,LV⟩
theorem CI.step{t:Tb} {n:Nat} (g:TG t n) (D:CL t) {b:Bx} (h:CI t n b) {x:Fr} (L:(x.samples.getD []).length<=1000000):CI t n (gG t b x):=by
 refine⟨h.inv.step D L,?_⟩
 rcases aeI t b x with e|e|⟨i,e⟩<;>rw[e]
 ·exact h.si
 ·exact LV
 ·exact Zg g h.si i
theorem CI.run{t:Tb} {n:Nat} (g:TG t n) (M:CL t) {D:List Fr} (L:Y8 D):∀i,i<=D.length->CI t n (Bu t D i)
 |0,_=>CI.Wi
 |i+1,h=>by
  have e:D.getD i default=D[i]:=by simp[show i<D.length by omega]
  exact(CI.run g M L i aaN).step g M (by rw[e];exact L _ (xn _))
theorem Mt{t:Tb} {b:Bx} {x:Fr} (D:b.mode=2) (h:(gG t b x).mode=2):(gG t b x).st=Mz t b.st (e9 x b.lines).Wf/\AB t b x=gZ (gG t b x).st.runs:=by
 have O:¬b.mode=1:=by rw[D];decide
 have M:gG t b x=FQ t (ug b (e9 x b.lines).lines) (e9 x b.lines):=by unfold gG;rw[ge O,ib D]
 have R:AB t b x=RF t (ug b (e9 x b.lines).lines) (e9 x b.lines):=by unfold AB;rw[ge O,ib D]
 rw[M]at h;rw[M,R];unfold FQ at h⊢;unfold RF;split at h
 ·exact absurd (show(3:Int)=2 from h) aaO
 ·rename_i L
  rw[ge L,ge L];exact⟨rfl,rfl⟩
theorem VQ:AB t b x=rdL\/AB t b x=gP t\/(b.mode=2/\(gG t b x).mode=2/\AB t b x=gZ (gG t b x).st.runs):=by
 by_cases M:b.mode=1
 ·left;unfold AB;rw[ib M]
 by_cases D:b.mode=2
 ·by_cases L:(gG t b x).mode=2
  ·exact .inr (.inr ⟨D,L,(Mt D L).2⟩)
  ·right;left
   have R:gG t b x=FQ t (ug b (e9 x b.lines).lines) (e9 x b.lines):=by unfold gG;rw[ge M,ib D]
   have V:AB t b x=RF t (ug b (e9 x b.lines).lines) (e9 x b.lines):=by unfold AB;rw[ge M,ib D]
   rw[R]at L;rw[V];unfold FQ at L;unfold RF;split
   ·rfl
   ·rename_i O
    rw[ge O]at L;exact absurd D L
 ·right;left;unfold AB;rw[ge M,ge D]
theorem aeJ:(AB t b x).length=8:=by
 rcases VQ t b x with h|h|⟨_,_,h⟩<;>rw[h]
 ·rfl
 ·simp[gP,jd]
 ·exact lP _
end
section
variable {b:Bx} {c:Cu} {i k:Nat} {n:Int} {p:Ph} {r:Rn} {t:Tb} {x:Fr} (ln:Int) (o:Option (List Fr))
structure FG (t:Tb) (n:Nat):Prop where
 one:∃q:Nat,∀p,p<8->Ca t p=if q<n/\p=q then 2 else if p<n then 1 else 0
structure NI (p:Ph) (r:Rn) (n:Int):Prop where
 time:r.aA≠0->r.time=n+1
 yel:r.aA=2->r.time<=p.dQ
 clr:r.aA=3->r.time<=p.red
def aaL(p:Ph) (was D:Int) (n:Int) (e:Bool):Prop:=
 (was=0/\D=1)\/(was=1/\D=2/\(e=true\/p.min<=n+1))\/(was=2/\D=3/\n+1=p.dQ/\0<p.red)\/(was=2/\D=0/\n+1=p.dQ/\p.red=0)\/(was=3/\D=0/\n+1=p.red)
theorem Jz(h:0<=n) (D:n<=1501):bM n=n+1:=by
 have e:gN n 0 9999=n:=by
  unfold gN
  split<;>(try split)<;>omega
 unfold bM;rw[e]
 exact aY aaN aaN
theorem Ru(h:c.fin=false):(gF p r c).aA=1/\(gF p r c).time=bM r.time:=by
 unfold gF;rw[h];simp only[eQ,il];split
 ·exact⟨rfl,rfl⟩
 ·split<;>exact⟨rfl,rfl⟩
theorem Rv(h:c.fin=true):(gF p r c).aA=2/\(gF p r c).time=1:=by
 unfold gF;rw[h];simp only[kv]
 split<;>exact⟨rfl,rfl⟩
theorem VR{e:Bool} (hc:0<=r.aA/\r.aA<=3) (N:NI p r n) (hn:0<=n/\n<=1500) (Z:r.aA≠0->1<=p.dQ/\0<=p.red) (hf:c.fin=true->r.aA=1->p.min<=r.time\/e=true):
  ((cj p r c).aA=r.aA/\NI p (cj p r c) (n+1))\/((cj p r c).aA≠r.aA/\NI p (cj p r c) 0/\aaL p r.aA (cj p r c).aA n e):=by
 have O:r.aA=0\/r.aA=1\/r.aA=2\/r.aA=3:=aaN
 rcases O with h|h|h|h
 ·have L:cj p r c=Gt p r c:=by simp[cj,h]
  rw[L,h];unfold Gt;split
  ·right
   exact⟨by simp[qh],⟨λ_=>rfl,λh=>absurd h (by simp[qh]),λh=>absurd h (by simp[qh])⟩,.inl ⟨rfl,rfl⟩⟩
  ·left
   exact⟨rfl,⟨λh=>absurd rfl h,λh=>absurd h (by simp[qh]),λh=>absurd h (by simp[qh])⟩⟩
 ·have L:cj p r c=gF p r c:=by simp[cj,h]
  have V:=N.time aaN
  rw[L,h]
  cases D:c.fin with
  |false=>
   obtain⟨M,R⟩:=Ru (p:=p) (r:=r) D
   rw[Jz aaN aaN]at R
   left
   exact⟨M,⟨λ_=>aaN,λh=>aaN,λh=>aaN⟩⟩
  |true=>
   obtain⟨M,R⟩:=Rv (p:=p) (r:=r) D
   right
   refine⟨aaN,⟨λ_=>aaN,λ_=>by have:=Z aaN;omega,λh=>aaN⟩,.inr (.inl ⟨rfl,M,?_⟩)⟩
   rcases hf D h with h|h
   ·right;omega
   ·left;exact h
 ·have L:cj p r c=nD p r:=by simp[cj,h]
  have V:=N.time aaN
  have t2:=N.yel h
  have t3:=Z aaN
  rw[L,h];unfold nD;split
  ·left
   have m:=Jz (n:=r.time) aaN aaN
   exact⟨rfl,⟨λ_=>by show bM r.time=_;omega,λ_=>by show bM r.time<=_;omega,λh=>absurd h (by simp[qh])⟩⟩
  ·split
   ·right
    exact⟨by simp[qh],⟨λ_=>rfl,λh=>absurd h (by simp[qh]),λ_=>by show(1:Int)<=_;omega⟩,.inr (.inr (.inl ⟨rfl,rfl,aaN,aaN⟩))⟩
   ·right
    exact⟨by simp[qh],⟨λh=>absurd rfl h,λh=>absurd h (by simp[qh]),λh=>absurd h (by simp[qh])⟩,.inr (.inr (.inr (.inl ⟨rfl,rfl,aaN,aaN⟩)))⟩
 ·have L:cj p r c=vF p r:=by simp[cj,h]
  have V:=N.time aaN
  have t2:=N.clr h
  rw[L,h];unfold vF;split
  ·left
   have m:=Jz (n:=r.time) aaN aaN
   exact⟨rfl,⟨λ_=>by show bM r.time=_;omega,λh=>absurd h (by simp[qh]),λ_=>by show bM r.time<=_;omega⟩⟩
  ·right
   exact⟨by simp[qh],⟨λh=>absurd rfl h,λh=>absurd h (by simp[qh]),λh=>absurd h (by simp[qh])⟩,.inr (.inr (.inr (.inr ⟨rfl,rfl,aaN⟩)))⟩
def RI(b:Bx):Prop:=b.mode≠2->∀p:Nat,p<8->(b.st.rn p).aA=0
theorem JA(t:Tb):∀p:Nat,p<8->((fQ t).rn p).aA=0:=λp D=>by rw[FE t D];rfl
theorem PM(h:RI b):(b.mode=2/\(gG t b x).mode=2)\/∀p:Nat,p<8->((gG t b x).st.rn p).aA=0:=by
 by_cases M:b.mode=1
 ·right
  have L:gG t b x=sN t b (e9 x b.lines).lines:=by unfold gG;rw[ib M]
  rw[L];unfold sN
  split<;>exact h (by rw[M];decide)
 ·by_cases D:b.mode=2
  ·have L:gG t b x=FQ t (ug b (e9 x b.lines).lines) (e9 x b.lines):=by unfold gG;rw[ge M,ib D]
   rw[L];unfold FQ;split
   ·right;exact JA t
   ·left;exact⟨D,D⟩
  ·right
   have L:gG t b x=sO t b (e9 x b.lines).lines (e9 x b.lines).reset:=by unfold gG;rw[ge M,ge D]
   rw[L];unfold sO
   split<;>exact h D
theorem RI.next(h:RI b):RI (gG t b x):=λL=>by
 rcases PM (t:=t) (x:=x) h with⟨_,D⟩|D
 ·exact absurd D L
 ·exact D
def aiT(b:Bx):Bool:=b.st.pre.ay==1||b.st.pre.ay==3
def nxt(b D:Bx) (n:Nat->Int) (p:Nat):Int:=if b.mode=2/\D.mode=2 then(if(b.st.rn p).aA=(D.st.rn p).aA then n p+1 else 0)else 0
def NIs(t:Tb) (b:Bx) (n:Nat->Int):Prop:=∀p:Nat,p<8->NI (aV t p) (b.st.rn p) (n p)
theorem NI.red(h:r.aA=0):NI p r n:=⟨λD=>absurd h D,λD=>aaN,λD=>aaN⟩
theorem ZM{n:Nat} (g:TG t n) (I:CI t n b) {k:Nat->Int} (N:NIs t b k) (hk:∀p,0<=k p/\k p<=1500) (R:b.mode=2) (V:(gG t b x).mode=2):∀p:Nat,p<8->
  (((gG t b x).st.rn p).aA=(b.st.rn p).aA/\NI (aV t p) ((gG t b x).st.rn p) (k p+1))\/
  (((gG t b x).st.rn p).aA≠(b.st.rn p).aA/\NI (aV t p) ((gG t b x).st.rn p) 0/\aaL (aV t p) (b.st.rn p).aA ((gG t b x).st.rn p).aA (k p) (aiT (gG t b x))):=λp D=>by
 obtain⟨e,_⟩:=Mt (x:=x) R V
 obtain⟨_,o⟩:=U5 g I.si (e9 x b.lines).Wf
 unfold aiT;rw[e,Av t b.st _ D]
 refine VR (I.si.run p D).col (N p D) (hk p) (λh=>?_) (λM Z=>?_)
 ·have L:p<n:=by
   by_cases h4:p<n
   ·exact h4
   ·have:=I.si.off p D aaN
    unfold dX at this
    have O:=(I.si.run p D).col
    have:(b.st.rn p).aA=0:=by
     simp only[ed,bne_iff_ne,ne_eq]at this;omega
    exact absurd this h
  have:=g.ph p L
  have h5:=this.dQ
  have h6:=this.red
  omega
 ·rw[(Aw t b.st _ D).2.1]at M
  rcases o.fin p D M Z with h|h|h
  ·left;exact h.1
  ·right
   show((uj t b.st (e9 x b.lines).Wf).1.ay==1||(uj t b.st (e9 x b.lines).Wf).1.ay==3)=true
   rw[h];rfl
  ·right
   show((uj t b.st (e9 x b.lines).Wf).1.ay==1||(uj t b.st (e9 x b.lines).Wf).1.ay==3)=true
   rw[h];rfl
theorem VS{n:Nat} (g:TG t n) (I:CI t n b) (R:RI b) {k:Nat->Int} (N:NIs t b k) (hk:∀p,0<=k p/\k p<=1500):NIs t (gG t b x) (nxt b (gG t b x) k):=λp M=>by
 rcases PM (t:=t) (x:=x) R with⟨O,D⟩|D
 ·unfold nxt
  rw[ib ⟨O,D⟩]
  rcases ZM g I N hk O D p M with⟨h4,L⟩|⟨h4,L,_⟩
  ·rw[ib h4.symm];exact L
  ·rw[ge (λh=>h4 h.symm)];exact L
 ·exact NI.red (D p M)
def VT(t:Tb) (D:List Fr):Nat->Nat->Int
 |0,_=>0
 |i+1,p=>nxt (Bu t D i) (Bu t D (i+1)) (VT t D i) p
theorem F9(t:Tb) (D:List Fr):∀i p,0<=VT t D i p/\VT t D i p<=i
 |0,_=>⟨yv _,yv _⟩
 |i+1,p=>by
  have:=F9 t D i p
  unfold VT nxt;split
  ·split<;>omega
  ·omega
structure KI (t:Tb) (b:Bx) (k:Nat->Int):Prop where
 red:RI b
 ns:NIs t b k
theorem KI.run{t:Tb} {n:Nat} (g:TG t n) (M:CL t) {D:List Fr} (L:Y8 D) (R:D.length<=1500):∀i,i<=D.length->KI t (Bu t D i) (VT t D i)
 |0,_=>⟨λ_=>JA t,λp O=>NI.red (JA t p O)⟩
 |i+1,h=>by
  have K:=KI.run g M L R i aaN
  have I:=CI.run g M L i aaN
  exact⟨K.red.next,VS g I K.red K.ns (λp=>by have:=F9 t D i p;omega)⟩
structure FI (t:Tb) (b:Bx) (i:Nat):Prop where
 fault:b.mode=3->b.fault≠0
 time:b.mode=1->0<=b.time/\b.time<=(i:Int)/\(b.time=0\/b.time<t.start)
theorem vP(h:0<=n) (D:n<=9999):gU n=n+1:=by
 unfold gU gN
 split<;>(try split)<;>omega
theorem FI.Wi(t:Tb):FI t (uf t) 0:=⟨λh=>absurd (show(1:Int)=3 from h) aaO,λ_=>⟨yv _,yv _,.inl rfl⟩⟩
theorem VU(O:FI t b i) (hi:i<1500) (hm:b.mode=1\/b.mode=2\/b.mode=3):
  (b.mode=1/\(gG t b x).mode=1/\(gG t b x).time=b.time+1/\b.time+1<t.start)\/
  (b.mode=1/\(gG t b x).mode=2/\b.time+1=max 1 t.start)\/
  (b.mode=2/\(gG t b x).mode=2)\/
  (b.mode=2/\(gG t b x).mode=3/\AB t b x=gP t/\(gG t b x).fault≠0)\/
  (b.mode=3/\(gG t b x).mode=3/\AB t b x=gP t/\(gG t b x).fault≠0)\/
  (b.mode=3/\(gG t b x).mode=1/\(gG t b x).time=0):=by
 rcases hm with h|h|h
 ·obtain⟨V,Z,h3⟩:=O.time h
  have D:gG t b x=sN t b (e9 x b.lines).lines:=by unfold gG;rw[ib h]
  have M:=vP V (show b.time<=9999 by omega)
  rw[D];unfold sN;rw[M]
  by_cases h4:t.start<=b.time+1
  ·right;left
   rw[ib (by simpa using h4)]
   exact⟨h,rfl,aaN⟩
  ·left
   rw[ge (by simpa using h4)]
   exact⟨h,h,rfl,aaN⟩
 ·have L:¬b.mode=1:=by rw[h];decide
  have D:gG t b x=FQ t (ug b (e9 x b.lines).lines) (e9 x b.lines):=by unfold gG;rw[ge L,ib h]
  have M:AB t b x=RF t (ug b (e9 x b.lines).lines) (e9 x b.lines):=by unfold AB;rw[ge L,ib h]
  rw[D,M];unfold FQ RF
  by_cases h4:(HJ t (ug b (e9 x b.lines).lines) (e9 x b.lines) !=0)=true
  ·right;right;right;left
   rw[ib h4,ib h4]
   exact⟨h,rfl,rfl,by simpa using h4⟩
  ·right;right;left
   rw[ge h4];exact⟨h,h⟩
 ·have L:¬b.mode=1:=by rw[h];decide
  have R:¬b.mode=2:=by rw[h];decide
  have D:gG t b x=sO t b (e9 x b.lines).lines (e9 x b.lines).reset:=by unfold gG;rw[ge L,ge R]
  have M:AB t b x=gP t:=by unfold AB;rw[ge L,ge R]
  rw[D,M];unfold sO;split
  ·right;right;right;right;right
   exact⟨h,rfl,rfl⟩
  ·right;right;right;right;left
   exact⟨h,h,rfl,O.fault h⟩
theorem FI.next(D:FI t b i) (L:i<1500) (hm:b.mode=1\/b.mode=2\/b.mode=3):FI t (gG t b x) (i+1):=by
 rcases VU (x:=x) D L hm with⟨a,c,d,e⟩|⟨a,c,d⟩|⟨a,c⟩|⟨a,c,d,e⟩|⟨a,c,d,e⟩|⟨a,c,d⟩
 ·have:=D.time a
  exact⟨λh=>absurd (c.symm.trans h) aaO,λ_=>by rw[d];omega⟩
 ·exact⟨λh=>absurd (c.symm.trans h) aaO,λh=>absurd (c.symm.trans h) aaO⟩
 ·exact⟨λh=>absurd (c.symm.trans h) aaO,λh=>absurd (c.symm.trans h) aaO⟩
 ·exact⟨λ_=>e,λh=>absurd (c.symm.trans h) aaO⟩
 ·exact⟨λ_=>e,λh=>absurd (c.symm.trans h) aaO⟩
 ·exact⟨λh=>absurd (c.symm.trans h) aaO,λ_=>by rw[d];omega⟩
theorem FI.run{t:Tb} (M:CL t) {D:List Fr} (L:Y8 D) (O:D.length<=1500):∀i,i<=D.length->FI t (Bu t D i) i
 |0,_=>FI.Wi t
 |i+1,h=>(FI.run M L O i aaN).next aaN (Inv.run M L i aaN).mode
theorem VV(hk:k<8):fe (2^k)=[k]:=by
 have e:k=0\/k=1\/k=2\/k=3\/k=4\/k=5\/k=6\/k=7:=aaN
 rcases e with rfl|rfl|rfl|rfl|rfl|rfl|rfl|rfl<;>decide+kernel
theorem Rw(h:dL .i64 (tZ r) 4=0):tZ r=1\/tZ r=2:=by
 unfold tZ at h⊢;split at h
 ·split at h
  ·exact absurd h (by decide+kernel)
  ·split at h<;>exact absurd h (by decide+kernel)
 ·rename_i D
  rw[ge D];split
  ·exact .inr rfl
  ·exact .inl rfl
theorem Mu{m:Mn} {l:List Rn} (hk:k<8) (D:(aV t k).on=true) (h:dL .i64 (nj (gZ l) k) 4=0):(iY t m (CJ (gZ l) (2^k)) !=0)=true:=by
 have L:CJ (gZ l) (2^k)=(gZ l).set k (AQ .i64 (nj (gZ l) k) 4):=by
  rw[CJ,VV hk];rfl
 have O:nj (CJ (gZ l) (2^k)) k=AQ .i64 (nj (gZ l) k) 4:=by
  rw[L,nj,ia,List.getElem?_set_self (by rw[lP];exact hk)];rfl
 have M:is2 (CJ (gZ l) (2^k)) k=true:=by
  unfold is2;rw[O,FK l hk];rw[FK l hk]at h
  rcases Rw h with e|e<;>rw[e]<;>decide+kernel
 have R:ue t (is2 (CJ (gZ l) (2^k)))=true:=by
  unfold ue;rw[List.any_eq_true]
  exact⟨k,j9.2 hk,by rw[D,M];rfl⟩
 unfold iY;rw[R];split
 ·rfl
 ·rfl
def xF(k:Nat) (ln:Int):Fr:=⟨none,0,0,ln,2^k,false⟩
theorem aeK(hk:k<8) {ln:Int} (h:0<=ln/\ln<=15):Df (xF k ln)=true:=by
 unfold Df pG Wb
 have e:k=0\/k=1\/k=2\/k=3\/k=4\/k=5\/k=6\/k=7:=aaN
 rcases e with rfl|rfl|rfl|rfl|rfl|rfl|rfl|rfl<;>simp[xF,Fr.fm,h]
def emF:Fr:=⟨none,0,0,0,0,false⟩
def ZN:Fr:=⟨none,0,0,0,0,true⟩
theorem VW:e9 emF ln=emF:=by
 have:Df emF=true:=by unfold Df pG Wb;simp[emF,Fr.fm]
 unfold e9;rw[this];rfl
theorem VX:e9 ZN ln=ZN:=by
 have:Df ZN=true:=by unfold Df pG Wb;simp[ZN,Fr.fm]
 unfold e9;rw[this];rfl
theorem ZO(l:Option (List Int)):(0<=(eJ l).start/\(eJ l).start<=8000)/\0<=(eJ l).least/\(eJ l).least<=8000:=by
 have M:=bt l 180 (n:=8) aaO aaO
 have D:=bt l 182 (n:=12) aaO aaO
 have O:(eJ l).start=dN l 180 8:=rfl
 have L:(eJ l).least=dN l 182 12:=rfl
 omega
def HV(t:Tb):Nat->Bx
 |0=>uf t
 |i+1=>gG t (HV t i) emF
def JB(t:Tb) (b:Bx):Nat->Bx
 |0=>b
 |i+1=>gG t (JB t b i) ZN
theorem rF{n:Nat} (h:n<=100000):IntKind.i64.wrap ((n:Int)+1)=((n+1:Nat):Int):=by
 rw[aY aaN aaN];omega
def Gg(t:Tb):Nat:=(max 1 t.start).toNat
def JC(t:Tb):Nat:=(max 1 t.least).toNat
theorem VY{t:Tb} (h:t.start<=8000):∀i,i<Gg t->HV t i=⟨1,i,0,fQ t,ga,0,i⟩
 |0,_=>rfl
 |i+1,L=>by
  have D:=VY h i aaN
  have M:(i:Int)+1<t.start/\(i:Int)+1<8000:=by unfold Gg at L;omega
  rw[HV,D];unfold gG;rw[ib rfl,VW];unfold sN
  rw[show gU (i:Int)=(i:Int)+1 from vP aaN aaN]
  rw[ge (by simp;omega)]
  show Bx.mk 1 ((i:Int)+1) 0 (fQ t) ga 0 (IntKind.i64.wrap ((i:Int)+1))=_
  rw[rF aaN];rfl
theorem ZP(h:t.start<=8000):HV t (Gg t)=⟨2,0,0,fQ t,ga,0,(Gg t:Nat)⟩:=by
 obtain⟨m,hm⟩:∃m,Gg t=m+1:=⟨Gg t-1,by unfold Gg;omega⟩
 have D:t.start<=(m:Int)+1/\(m:Int)+1<=8001:=by unfold Gg at hm;omega
 rw[hm,HV,VY h m aaN]
 unfold gG;rw[ib rfl,VW];unfold sN
 rw[show gU (m:Int)=(m:Int)+1 from vP aaN aaN]
 rw[ib (by simp;omega)]
 show Bx.mk 2 0 0 (fQ t) ga 0 (IntKind.i64.wrap ((m:Int)+1))=_
 rw[rF aaN]
theorem VZ{t:Tb} (h:t.least<=8000) (F:Int) {k:Nat} (hk:k<=10000):∀i,i<JC t->JB t ⟨3,0,F,fQ t,ga,0,k⟩ i=⟨3,i,F,fQ t,ga,0,(k+i:Nat)⟩
 |0,_=>rfl
 |i+1,L=>by
  have D:=VZ h F hk i aaN
  have M:(i:Int)+1<t.least/\(i:Int)+1<8000:=by unfold JC at L;omega
  rw[JB,D];unfold gG
  rw[ge (show ¬(3:Int)=1 by decide),ge (show ¬(3:Int)=2 by decide),VX]
  unfold sO
  rw[show gU (i:Int)=(i:Int)+1 from vP aaN aaN]
  rw[ge (by simp;omega)]
  show Bx.mk 3 ((i:Int)+1) F (fQ t) ga 0 (IntKind.i64.wrap (((k+i:Nat):Int)+1))=_
  rw[rF aaN];rfl
theorem ZQ(h:t.least<=8000) (F:Int) (hk:k<=10000):JB t ⟨3,0,F,fQ t,ga,0,k⟩ (JC t)={uf t with tick:=(k+JC t:Nat)}:=by
 obtain⟨m,hm⟩:∃m,JC t=m+1:=⟨JC t-1,by unfold JC;omega⟩
 have D:t.least<=(m:Int)+1/\(m:Int)+1<=8001:=by unfold JC at hm;omega
 rw[hm,JB,VZ h F hk m aaN]
 unfold gG
 rw[ge (show ¬(3:Int)=1 by decide),ge (show ¬(3:Int)=2 by decide),VX]
 unfold sO
 rw[show gU (m:Int)=(m:Int)+1 from vP aaN aaN]
 rw[ib (by simp[ZN];omega)]
 show Bx.mk 1 0 0 (fQ t) ga 0 (IntKind.i64.wrap (((k+m:Nat):Int)+1))=_
 rw[rF aaN];rfl
theorem V0(hk:k<8) (M:(aV t k).on=true) (T:Int):
  ((gG t ⟨2,0,0,fQ t,ga,0,T⟩ (xF k 0)).mode=2/\tb (Wd (gG t ⟨2,0,0,fQ t,ga,0,T⟩ (xF k 0)).st) k=true)\/
  ∃F:Int,gG t ⟨2,0,0,fQ t,ga,0,T⟩ (xF k 0)=⟨3,0,F,fQ t,ga,0,IntKind.i64.wrap (T+1)⟩:=by
 have Z:e9 (xF k 0) 0=xF k 0:=by unfold e9;rw[aeK hk aaO];rfl
 have V:gG t ⟨2,0,0,fQ t,ga,0,T⟩ (xF k 0)=FQ t (ug ⟨2,0,0,fQ t,ga,0,T⟩ 0) (xF k 0):=by
  unfold gG
  rw[ge (show ¬(2:Int)=1 by decide),ib rfl]
  show FQ t (ug _ (e9 (xF k 0) 0).lines) (e9 (xF k 0) 0)=_
  rw[Z];rfl
 rw[V];unfold FQ
 cases hF:(HJ t (ug ⟨2,0,0,fQ t,ga,0,T⟩ 0) (xF k 0) !=0)with
 |true=>exact .inr ⟨HJ t (ug ⟨2,0,0,fQ t,ga,0,T⟩ 0) (xF k 0),rfl⟩
 |false=>
  refine .inl ⟨rfl,?_⟩
  show tb (Wd (Cy t (ug ⟨2,0,0,fQ t,ga,0,T⟩ 0) (xF k 0))) k=true
  have h4:¬dL .i64 (nj (Pb t (ug ⟨2,0,0,fQ t,ga,0,T⟩ 0) (xF k 0)) k) 4=0:=λh4=>by
   have L:=Mu (t:=t) (m:=ga) (l:=(Cy t (ug ⟨2,0,0,fQ t,ga,0,T⟩ 0) (xF k 0)).runs) hk M h4
   have e:t5 t (ug ⟨2,0,0,fQ t,ga,0,T⟩ 0) (xF k 0)=CJ (gZ (Cy t (ug ⟨2,0,0,fQ t,ga,0,T⟩ 0) (xF k 0)).runs) (2^k):=rfl
   rw[<-e]at L
   have O:(iY t ga (t5 t (ug ⟨2,0,0,fQ t,ga,0,T⟩ 0) (xF k 0))==0)=false:=by simpa using L
   have R:(HJ t (ug ⟨2,0,0,fQ t,ga,0,T⟩ 0) (xF k 0) !=0)=true:=by
    unfold HJ
    rw[show(ug ⟨2,0,0,fQ t,ga,0,T⟩ 0).bV=ga from rfl,O,pc,ge aaO]
    exact L
   rw[R]at hF;cases hF
  rw[Wd,EL];simp only[hk,decide_true,pA];unfold Pb at h4;rw[FK _ hk]at h4
  have D:(aX (Cy t (ug ⟨2,0,0,fQ t,ga,0,T⟩ 0) (xF k 0)).runs k).aA=1:=by
   generalize aX (Cy t (ug ⟨2,0,0,fQ t,ga,0,T⟩ 0) (xF k 0)).runs k=r at*
   by_cases D:r.aA=1
   ·exact D
   ·exfalso;apply h4
    unfold tZ
    rw[ge (by simpa using D)]
    split<;>decide+kernel
  show((Cy t (ug ⟨2,0,0,fQ t,ga,0,T⟩ 0) (xF k 0)).rn k).aA==1
  rw[show((Cy t (ug ⟨2,0,0,fQ t,ga,0,T⟩ 0) (xF k 0)).rn k).aA=1 from D];rfl
theorem HW(t:Tb) (b:Bx) (k:Int) (x:Fr):gG t {b with tick:=k} x={gG t b x with tick:=IntKind.i64.wrap (k+1)}/\AB t {b with tick:=k} x=AB t b x:=by
 constructor
 ·unfold gG
  split
  ·unfold sN;split<;>rfl
  ·split
   ·unfold FQ
    have e:HJ t (ug {b with tick:=k} (e9 x b.lines).lines) (e9 x b.lines)=HJ t (ug b (e9 x b.lines).lines) (e9 x b.lines):=rfl
    show(if(HJ t (ug {b with tick:=k} (e9 x b.lines).lines) (e9 x b.lines) !=0)=true then _ else _)=_
    rw[e]
    split<;>rfl
   ·unfold sO;split<;>rfl
 ·rfl
def Gh(t:Tb) (T:Int) (D:List Fr):Nat->Bx
 |0=>{uf t with tick:=T}
 |i+1=>gG t (Gh t T D i) (D.getD i default)
theorem NW(t:Tb) (T:Int) (D:List Fr):∀i,∃k:Int,Gh t T D i={Bu t D i with tick:=k}
 |0=>⟨T,rfl⟩
 |i+1=>by
  obtain⟨k,hk⟩:=NW t T D i;refine⟨IntKind.i64.wrap (k+1),?_⟩;rw[Gh,hk,(HW t (Bu t D i) k _).1];rfl
def AO.Spec(C:aQ) (f:Nat):Prop:=∀(l sc:Option (List Int)) (p:Int),C.c f [aJ aH l,aJ aH sc,I p] (B true) none
def vQ:Option (List Fr):=if(o.getD []).length>500 then some ((o.getD []).take 500)else o
theorem Ry{o:Option (List Fr)} (h:Y8 (o.getD [])):Y8 ((vQ o).getD []):=by
 unfold vQ;split
 ·exact λx D=>h x (ul D)
 ·exact h
theorem Rz:((vQ o).getD []).length<=500:=by
 unfold vQ;split
 ·simp;omega
 ·omega
theorem aeL{o:Option (List Fr)} (h:500<(o.getD []).length):H6 (aJ Fr.cells o) (List.map Fr.cells (o.getD [])) 0 500=AV.sl (List.take 500 (List.map Fr.cells (o.getD []))):=by
 cases o with
 |none=>simp at h
 |some l=>simp[bu,H6]
theorem Inv.tick{t:Tb} {b:Bx} (h:Inv t b) (k:Int):Inv t {b with tick:=k}:=⟨⟨h.t6.st,h.t6.bV⟩,h.mode,h.chs,h.lns⟩
theorem JD{t:Tb} (D:CL t):∀i,Inv t (HV t i)
 |0=>Inv.Wi t
 |i+1=>(JD D i).step D aaO
theorem JE{t:Tb} (D:CL t) {b:Bx} (h:Inv t b):∀i,Inv t (JB t b i)
 |0=>h
 |i+1=>(JE D h i).step D aaO
end
section
variable{P:Program} (hm:P.follows .mixedOrders=true) {f:Nat}
include hm
theorem AO.ok{fT fC fP fA fB fS fG fE:Nat} (hc:bF P f=some (t7 fT fC fP fA fB fS fG fE)) (hT:Table.Spec (Pure P) fT) (hC:FA.Spec (Pure P) fC) (hP:Place.Spec (Pure P) fP) (hA:vO.Spec (Pure P) fA) (hB:zN.Spec (Pure P) fB) (hS:FT.Spec (Pure P) fS) (hG:zF.Spec (Pure P) fG) (hE:F8.Spec (Pure P) fE):AO.Spec (Pure P) f:=by
 intro l sc p
 have R:=CL.table l
 have cb:=ZO l
 obtain⟨t,bj⟩:∃t,eJ l=t:=⟨_,rfl⟩
 obtain⟨V,a6⟩:∃x,d9 (wL false (sc.getD []))=x:=⟨_,rfl⟩
 have bw:V.getD []=wL false (sc.getD []):=by rw[<-a6,ez]
 have b6:Y8 (V.getD []):=by rw[bw];exact NJ _ _
 have cT:=hT l
 rw[bj]at cT R cb
 have cC:=hC sc false
 rw[a6]at cC
 have ht:=R.tok
 have c5:=KU (v:=p) (n:=8) aaO aaO
 have cP:=hP p 8 aaO
 obtain⟨k,hk⟩:∃k:Nat,place p 8=k:=⟨(place p 8).toNat,aaN⟩
 rw[hk]at cP c5
 have a2:k<8:=aaN
 have bm:=Tb.len ht
 have c8:=Tb.whole ht
 have z1:iR.length=131:=rfl
 have z2:setCells iR 0 t.cells=t.cells:=bp (by rw[bm];rfl)
 have z3:aP.length=138:=rfl
 have a5:=Ry b6
 have di:=Rz V
 have ag:vQ V=vQ V:=rfl
 conv at ag=>rhs;unfold vQ
 clear bj a6 bw
 have c7:t.cells[118]? =some (I t.start):=Tb.tail_at ht 2 aaN
 have db:t.cells[120]? =some (I t.least):=Tb.tail_at ht 4 aaN
 have O:=dC bm (dC c8 (dC z1 (dC z2 (dC z3 (dC c7 (db))))))
 refine aq hm hc [0] rfl ?_;try simp only[I,B,D,RY,↓KW,seval,t7,Z.H,O]
 refine af cT ?_;try simp only[I,B,D,RY,↓KW,seval,O]
 refine af cC ?_;try simp only[I,B,D,RY,↓KW,seval,O]
 apply adY (λ_:Unit=>(⟨[(2,.dat (I p) none),(7,.ptr 7 0),(8,.dat (aJ Fr.cells (vQ V)) none)],[(7,⟨t.cells,[]⟩)],[],20⟩:S)) (λ_=>True)
 ·intro back
  rcases bf (decide (((V.getD []).length:Int)>500))with h|h
  ·have h5:vQ V=V:=by rw[ag,ge (by have:=dE h;omega)]
   try simp only[I,B,D,RY,↓KW,seval,h,O]
   refine back () _ trivial ?_
   refine ai aaO ?_ ?_ ?_ ?_<;>simp[LX,I,B,D,h5]
  ·have h5:vQ V=some ((V.getD []).take 500):=by rw[ag,ib (by have:=dT h;omega)]
   have h6:(0:Int)<=500/\(500:Int)<=((V.getD []).length:Int):=by have:=dT h;omega
   try simp only[I,B,D,RY,↓KW,seval,h,h6,O]
   refine⟨λ_ _=>rfl,?_⟩
   refine back () _ trivial ?_
   have h7:=aeL (o:=V) (by have:=dT h;omega)
   refine ai aaO ?_ ?_ ?_ ?_<;>simp[LX,I,B,D,h5,h7,bu,List.map_take]
 rintro _ _
 generalize vQ V=go at*;clear ag
 have ci:0<=(k:Int)/\(k:Int)<8:=aaN
 have da:t.phases[k]? =some (aV t k):=by rw[eh (by rw[ht.phases];exact a2)];simp[aV,ht.phases,a2]
 have ca:=(Tb.A8 da).1
 have b5:k*13<=118:=aaN
 have b8:k<=7:=aaN
 have ad:=dC ci (dC ca (dC b5 (dC b8 (O))))
 try simp only[I,B,D,RY,↓KW,seval,O]
 refine af cP ?_
 rcases bf (aV t k).on with ho|ho
 ·try simp only[I,B,D,RY,↓KW,seval,ho,ad]
  refine af hA ?_;try simp only[I,B,D,RY,↓KW,seval,O]
 have am:(uf t).Ok:=C0 t
 have b0:=Bx.len am
 have b1:=Bx.whole am
 have b2:setCells aP 0 (uf t).cells=(uf t).cells:=bp (by rw[b0];rfl)
 try simp only[I,B,D,RY,↓KW,seval,ho,ad]
 refine af (hB t ht) ?_;try simp only[I,B,D,RY,↓KW,seval,b0,b1,b2,O]
 have ba:(if t.start>1 then t.start else 1)=(Gg t:Int):=by unfold Gg;split<;>omega
 have dj:Gg t<=8000:=by unfold Gg;omega
 have au:(if t.least>1 then t.least else 1)=(JC t:Int):=by unfold JC;split<;>omega
 have dk:JC t<=8000:=by unfold JC;omega
 refine aK (λi:Nat=>(⟨[(11,.dat (I i) none),(7,.ptr 7 0),(10,.ptr 31 0),(9,.dat (I k) none),(8,.dat (aJ Fr.cells go) none)],[(7,⟨t.cells,[]⟩),(31,⟨(HV t i).cells,[]⟩)],[],400⟩:S)) (λi=>8000-i) (λi=>i<=Gg t) ?_ 0 aaN ?_
 rotate_left
 ·refine ai aaO ?_ ?_ ?_ ?_<;>simp[LX,I,B,D,HV]
 intro i hi A back
 have cx:=aD (k:=i) aaN
 have hI:=JD R i
 have hJ:=JD R (i+1)
 have b3:=Bx.len hI.t6
 have b4:=Bx.whole hI.t6
 have c1:=Bx.len hJ.t6
 have c4:=Bx.whole hJ.t6
 rcases bf (decide ((i:Int)<(Gg t:Int)))with h|h
 rotate_left
 ·have h1:i<Gg t:=by have:=dT h;omega
  have cS:=hS t (HV t i) emF (hI.ins R aaO)
  rw[mJ,show gG t (HV t i) emF=HV t (i+1)from rfl,show emF.cells=[.aU,.int .i64 0,.int .i64 0,.int .i64 0,.int .i64 0,.bool false]from rfl]at cS
  have c3:setCells (HV t i).cells 0 (HV t (i+1)).cells=(HV t (i+1)).cells:=bp (by rw[b3,c1])
  try simp only[I,B,D,RY,↓KW,seval,ba,h,b3,b4,c1,c3,c4,O]
  refine af cS ?_;try simp only[I,B,D,RY,↓KW,seval,b3,b4,c1,c3,c4,O]
  refine back (i+1) _ aaN aaN ?_
  refine ai aaO ?_ ?_ ?_ ?_<;>simp[LX,I,B,D,cx]
 have he:i=Gg t:=by have:=dE h;omega
 have cp:HV t i=⟨2,0,0,fQ t,ga,0,(Gg t:Nat)⟩:=by rw[he];exact ZP aaN
 have bi:=V0 (t:=t) a2 ho (Gg t:Nat)
 have cX:=hS t (HV t i) (xF k 0) (hI.ins R (by simp[xF]))
 have hK:=hI.step R (x:=xF k 0) (by simp[xF])
 rw[mJ]at cX;rw[<-cp]at bi;generalize dl:gG t (HV t i) (xF k 0)=x1 at*;generalize AB t (HV t i) (xF k 0)=L1 at*;generalize evS t (HV t i) (xF k 0)=e1 at*
 have d1:=Bx.len hK.t6
 have d4:=Bx.whole hK.t6
 have d3:setCells (HV t i).cells 0 x1.cells=x1.cells:=bp (by rw[b3,d1])
 have d0:x1.cells[0]? =some (I x1.mode):=rfl
 have c0:IntKind.i64.wrap (1*2^k)=2^k:=by
  have e:k=0\/k=1\/k=2\/k=3\/k=4\/k=5\/k=6\/k=7:=aaN
  rcases e with rfl|rfl|rfl|rfl|rfl|rfl|rfl|rfl<;>rfl
 have cu:min k IntKind.i64.bits=k:=by simp[IntKind.bits];omega
 have hu:IntKind.u64.wrap (k:Int)=k:=by
  have e:k=0\/k=1\/k=2\/k=3\/k=4\/k=5\/k=6\/k=7:=aaN
  rcases e with rfl|rfl|rfl|rfl|rfl|rfl|rfl|rfl<;>rfl
 rw[show(xF k 0).cells=[.aU,.int .i64 0,.int .i64 0,.int .i64 0,.int .i64 (2^k),.bool false]from rfl]at cX
 have ab:=dC d1 (dC d4 (dC d3 (dC d0 (dC c0 (dC cu (dC hu (dC b3 (dC b4 (ad)))))))))
 try simp only[I,B,D,RY,↓KW,seval,ba,h,ab]
 refine af cX ?_
 have w0:(true&&true)=true:=rfl
 rcases bi with⟨ct,df⟩|⟨F,bs⟩
 ·--it is not found:its phase is green
  have an:(x1.mode !=3)=true:=by rw[ct];rfl
  have s1:=Bx.De hK.t6
  have r1:aB x1.cells 3 (some 96)=some (.agg (bU x1.st.runs)):=by
   have e:=bB.wD hK.t6.st
   have l1:=bB.len hK.t6.st
   simp only[aB,l1,d1]at e⊢
   rw[ib aaN]at e
   rw[ib aaN]
   have e2:x1.cells=I x1.mode::I x1.time::I x1.fault::(x1.st.cells++(x1.bV.cells++[I x1.lines,I x1.tick])):=rfl
   rw[e2,show(3:Nat)=0+1+1+1 from rfl,mf,mf,mf,kh,Fd aaN]
   exact e
  have cG:=hG x1.st.runs hK.t6.st.runs
  rw[LP x1.st.runs 8 aaN]at cG
  have co:dL .i64 ((Wd x1.st).fdiv (2^k)) 1=1:=by
   have h1:tb ((Wd x1.st).fdiv (2^k)) 0=tb (Wd x1.st) k:=by
    rw[sB _ aaN,sB _ aaN]
    simp
   rw[zB,h1,df];rfl
  rw[show mC (λp=>gp (aX x1.st.runs p)) 8=Wd x1.st from rfl]at cG
  try simp only[I,B,D,RY,↓KW,seval,an,r1,ab]
  refine af cG ?_;try simp only[I,B,D,RY,↓KW,seval,co,ab]
  refine af hA ?_;try simp only[I,B,D,RY,↓KW,seval]
 have an:(x1.mode !=3)=false:=by rw[bs];rfl
 have b7:x1=⟨3,0,F,fQ t,ga,0,((Gg t+1:Nat):Int)⟩:=by rw[bs,rF aaN]
 try simp only[I,B,D,RY,↓KW,seval,an,ab]
 refine aK (λj:Nat=>(⟨[(12,.dat (I j) none),(7,.ptr 7 0),(10,.ptr 31 0),(8,.dat (aJ Fr.cells go) none)],[(7,⟨t.cells,[]⟩),(31,⟨(JB t x1 j).cells,[]⟩)],[],450⟩:S)) (λi=>8000-i) (λi=>i<=JC t) ?_ 0 aaN ?_
 rotate_left
 ·refine ai aaO ?_ ?_ ?_ ?_<;>simp[LX,I,B,D,JB]
 intro j hj A3 a9;clear d1 d3 d4 d0
 have ck:=aD (k:=j) aaN
 have ae:=JE R hK j
 have ar:=JE R hK (j+1)
 have d3:=Bx.len ae.t6
 have d4:=Bx.whole ae.t6
 have ak:=Bx.len ar.t6
 have e4:=Bx.whole ar.t6
 have d0:(JB t x1 j).cells[0]? =some (I (JB t x1 j).mode):=rfl
 rcases bf (decide ((j:Int)<(JC t:Int)))with g|g
 rotate_left
 ·have g1:j<JC t:=by have:=dT g;omega
  have cS:=hS t (JB t x1 j) ZN (ae.ins R aaO)
  rw[mJ,show gG t (JB t x1 j) ZN=JB t x1 (j+1)from rfl,show ZN.cells=[.aU,.int .i64 0,.int .i64 0,.int .i64 0,.int .i64 0,.bool true]from rfl]at cS
  have c3:setCells (JB t x1 j).cells 0 (JB t x1 (j+1)).cells=(JB t x1 (j+1)).cells:=bp (by rw[d3,ak])
  try simp only[I,B,D,RY,↓KW,seval,au,g,d3,d4,ak,c3,e4,O]
  refine af cS ?_;try simp only[I,B,D,RY,↓KW,seval,d3,d4,ak,c3,e4,O]
  refine a9 (j+1) _ aaN aaN ?_
  refine ai aaO ?_ ?_ ?_ ?_<;>simp[LX,I,B,D,ck]
 have c6:j=JC t:=by have:=dE g;omega
 have a7:JB t x1 j={uf t with tick:=((Gg t+1+JC t:Nat):Int)}:=by rw[c6,b7];exact ZQ aaN F aaN
 have bo:((JB t x1 j).mode !=1)=false:=by rw[a7];rfl
 try simp only[I,B,D,RY,↓KW,seval,au,g,d0,d3,d4,bo,O]
 refine af (hB t ht) ?_
 have bl:JB t x1 j=Gh t ((Gg t+1+JC t:Nat):Int) (go.getD []) 0:=a7
 generalize((Gg t+1+JC t:Nat):Int)=T at*;rw[bl];try simp only[I,B,D,RY,↓KW,seval,au,g,b0,b1,b2,O]
 refine aK (λi:Nat=>(⟨[(14,.dat (I i) none),(8,.dat (aJ Fr.cells go) none),(7,.ptr 7 0),(10,.ptr 31 0),(13,.ptr 460 0)],[(7,⟨t.cells,[]⟩),(31,⟨(Gh t T (go.getD []) i).cells,[]⟩),(460,⟨(Bu t (go.getD []) i).cells,[]⟩)],[],500⟩:S)) (λi=>500-i) (λi=>i<=(go.getD []).length) ?_ 0 aaN ?_
 rotate_left
 ·refine ai aaO ?_ ?_ ?_ ?_<;>simp[LX,I,B,D,Bu,Gh]
 intro M ce A4 a8;clear d3 d4 ak e4 d0 bo a7 bl ae ar hI hJ b3 b4 c1 c4 cX hK
 have cy:=aD (k:=M) aaN
 obtain⟨q,hq⟩:=NW t T (go.getD []) M
 have hY:=Inv.run R a5 M ce
 have hX:Inv t (Gh t T (go.getD []) M):=by rw[hq];exact hY.tick q
 have y3:=Bx.len hY.t6
 have y4:=Bx.whole hY.t6
 have x3:=Bx.len hX.t6
 have x4:=Bx.whole hX.t6
 rcases bf (decide ((M:Int)<((go.getD []).length:Int)))with g2|g2
 ·try simp only[I,B,D,RY,↓KW,seval,g2,O]
  refine af hA ?_;try simp only[I,B,D,RY,↓KW,seval,O]
 have g3:M<(go.getD []).length:=by have:=dT g2;omega
 obtain⟨fr,a4⟩:∃x,(go.getD [])[M]? =some x:=⟨_,eh g3⟩
 have bd:(go.getD []).getD M default=fr:=by rw[ia,a4];rfl
 have be:(fr.samples.getD []).length<=1000000:=a5 fr (et a4)
 have hy:0<=(M:Int)/\(M:Int)<((go.getD []).length:Int):=aaN
 obtain⟨g4,g5,_,_,_⟩:=Wh fr
 have cY:=hS t (Bu t (go.getD []) M) fr (hY.ins R be)
 have cX:=hS t (Gh t T (go.getD []) M) fr (hX.ins R be)
 have nY:gG t (Bu t (go.getD []) M) fr=Bu t (go.getD []) (M+1):=by rw[<-bd];rfl
 have nX:gG t (Gh t T (go.getD []) M) fr=Gh t T (go.getD []) (M+1):=by rw[<-bd];rfl
 have hl:AB t (Gh t T (go.getD []) M) fr=AB t (Bu t (go.getD []) M) fr:=by rw[hq];exact(HW t _ q fr).2
 have al:=aeJ t (Bu t (go.getD []) M) fr
 obtain⟨q',a3⟩:=NW t T (go.getD []) (M+1)
 have cr:(Gh t T (go.getD []) (M+1)).st=(Bu t (go.getD []) (M+1)).st:=by rw[a3]
 have cv:((Gh t T (go.getD []) (M+1)).mode !=(Bu t (go.getD []) (M+1)).mode)=false:=by rw[a3];exact py _
 have ac:=Inv.run R a5 (M+1) aaN
 have ao:Inv t (Gh t T (go.getD []) (M+1)):=by rw[a3];exact ac.tick q'
 rw[mJ,nY]at cY;rw[mJ,nX,hl]at cX
 have y5:=Bx.len ac.t6
 have y6:=Bx.whole ac.t6
 have x5:=Bx.len ao.t6
 have x6:=Bx.whole ao.t6
 have sY:=Bx.De ac.t6
 have sX:=Bx.De ao.t6
 rw[cr]at sX
 have cE:=hE _ ac.t6.st ac.chs
 have y7:setCells (Bu t (go.getD []) M).cells 0 (Bu t (go.getD []) (M+1)).cells=(Bu t (go.getD []) (M+1)).cells:=bp (by rw[y3,y5])
 have x7:setCells (Gh t T (go.getD []) M).cells 0 (Gh t T (go.getD []) (M+1)).cells=(Gh t T (go.getD []) (M+1)).cells:=bp (by rw[x3,x5])
 have y8:(Bu t (go.getD []) (M+1)).cells[0]? =some (I (Bu t (go.getD []) (M+1)).mode):=rfl
 have x8:(Gh t T (go.getD []) (M+1)).cells[0]? =some (I (Gh t T (go.getD []) (M+1)).mode):=rfl
 generalize AB t (Bu t (go.getD []) M) fr=L at*;generalize evS t (Bu t (go.getD []) M) fr=ev at*;generalize evS t (Gh t T (go.getD []) M) fr=ev' at*;generalize c2:Bu t (go.getD []) (M+1)=Y' at*;generalize ch:Gh t T (go.getD []) (M+1)=X' at*;generalize Bu t (go.getD []) M=Y at*
 generalize Gh t T (go.getD []) M=X at*
 have l1:(L.map I).length=8:=by simp[al]
 have l2:setCells [.int .i64 0,.int .i64 0,.int .i64 0,.int .i64 0,.int .i64 0,.int .i64 0,.int .i64 0,.int .i64 0] 0 (L.map I)=L.map I:=bp (by rw[l1];rfl)
 have l3:aB (L.map I) 0 (some 8)=some (.agg (L.map I)):=by
  simp only[aB,l1,kh]
  rw[ib aaN,<-l1,kf]
 have l4:=jO [.i,.i,.i,.i,.i,.i,.i,.i] (L.map I) (by match L,al with|[_,_,_,_,_,_,_,_],_=>rfl)
 have w1:(true !=true)=false:=rfl
 have aa:=dC hy (dC a4 (dC g4 (dC g5 (dC y3 (dC y4 (dC x3 (dC x4 (dC y5 (dC y6 (dC x5 (dC x6 (dC sY (dC sX (dC y7 (dC x7 (dC y8 (dC x8 (dC l1 (dC l2 (dC l3 (dC l4 (dC w1 (dC cv (O))))))))))))))))))))))))
 try simp only[I,B,D,RY,↓KW,seval,g2,aa]
 refine af cX ?_;try simp only[I,B,D,RY,↓KW,seval,aa]
 refine af cY ?_;try simp only[I,B,D,RY,↓KW,seval,aa]
 refine af cE ?_;try simp only[I,B,D,RY,↓KW,seval,aa]
 refine a8 (M+1) _ aaN aaN ?_
 refine ai aaO ?_ ?_ ?_ ?_<;>simp[LX,I,B,D,cy,c2,ch]
end
section
variable {α:Type} {a:α} {l:List α} {β:Type} {R:α->β->Prop} {m:List β}
def Al{α β:Type} (R:α->β->Prop):List α->List β->Prop
 |[],[]=>True
 |a::l,b::m=>R a b/\Al R l m
 |_,_=>False
theorem Al.len{α β:Type} {R:α->β->Prop}:∀{l:List α} {m:List β},Al R l m->l.length=m.length
 |[],[],_=>rfl
 |a::l,b::m,h=>by simp[Al.len h.2]
 |[],b::m,h=>h.elim
 |a::l,[],h=>h.elim
theorem Al.get{α β:Type} {R:α->β->Prop}:∀{l:List α} {m:List β},Al R l m->∀(i:Nat) (a:α) (b:β),l[i]? =some a->m[i]? =some b->R a b
 |a::l,b::m,h,0,x,y,D,L=>by simp at D L;subst D;subst L;exact h.1
 |a::l,b::m,h,i+1,x,y,D,L=>Al.get h.2 i x y (by simpa using D) (by simpa using L)
 |[],_,_,i,_,_,D,_=>by simp at D
theorem Al.mk{α β:Type} {R:α->β->Prop}:∀{l:List α} {m:List β},l.length=m.length->(∀(i:Nat) (a:α) (b:β),l[i]? =some a->m[i]? =some b->R a b)->Al R l m
 |[],[],_,_=>trivial
 |a::l,b::m,h,f=>⟨f 0 a b rfl rfl,Al.mk (by simpa using h) λi x y L D=>f (i+1) x y (by simpa using L) (by simpa using D)⟩
theorem Al.append{α β:Type} {R:α->β->Prop}:∀{l:List α} {m:List β} {D:List α} {L:List β},Al R l m->Al R D L->Al R (l++D) (m++L)
 |[],[],_,_,_,h=>h
 |a::l,b::m,_,_,h,M=>⟨h.1,Al.append h.2 M⟩
theorem Al.n:Al R ([]:List α) ([]:List β):=trivial
theorem Al.c{b:β} (h:R a b) (t:Al R l m):Al R (a::l) (b::m):=⟨h,t⟩
theorem Al.JF(h:Al R [] m):m=[]:=by
 cases m with
 |nil=>rfl
 |cons b m=>exact h.elim
theorem Al.cons_inv(h:Al R (a::l) m):∃b D,m=b::D/\R a b/\Al R l D:=by
 cases m with
 |nil=>exact h.elim
 |cons b m=>exact⟨b,m,rfl,h.1,h.2⟩
inductive Z' where
 |bool
 |int (k:IntKind)
 |flt (k:FloatKind)
 |str
inductive Ty where
 |sc (s:Z')
 |sl (l:List Ty)
def wS(D:TypeId->Nat) (F:TypeId->Option (List Ty)):Nat->List (Nat×TypeId)->Option (List Ty)
 |_,[]=>some []
 |o,f::r=>if f.1=o then match F f.2 with
   |some l=>if D f.2=l.length then match wS D F (o+l.length) r with
    |some m=>some (l++m)
    |none=>none
    else none
   |none=>none
  else none
def NX(P:Program):Nat->TypeId->Option (List Ty)
 |0,_=>none
 |n+1,t=>match P.underlying t with
  |some .bool=>some [.sc .bool]
  |some (.int k)=>some [.sc (.int k)]
  |some (.float k)=>some [.sc (.flt k)]
  |some .string=>some [.sc .str]
  |some (.slice e)=>match NX P n e with
   |some l=>if P.cellsOf e=l.length/\0<l.length then some [.sl l]else none
   |none=>none
  |some (.struct D)=>match wS P.cellsOf (NX P n) 0 (D.toList.map λf=>(f.offset,f.type))with
   |some l=>if P.cellsOf t=l.length then some l else none
   |none=>none
  |some (.array k e)=>match wS P.cellsOf (NX P n) 0 ((List.range k).map λi=>(i*P.cellsOf e,e))with
   |some l=>if P.cellsOf t=l.length then some l else none
   |none=>none
  |_=>none
def ScV:Z'->AV->Prop
 | .bool,.bool _=>True
 | .int k,.int D n=>D=k/\(Lit.int k n).wf=true
 | .flt k,.float D b=>D=k/\(Lit.float k b).wf=true
 | .str,.str s=>s.size<=maxLen
 |_,_=>False
mutual
def Bz:Ty->AV->Prop
 | .sc s,a=>ScV s a
 | .sl _,.aU=>True
 | .sl l,.sl xs=>xs.length<=maxLen/\∀r∈xs,Mv l r
 |_,_=>False
def Mv:List Ty->List AV->Prop
 |[],[]=>True
 |t::l,a::r=>Bz t a/\Mv l r
 |_,_=>False
end
theorem JG:∀{l:List Ty} {as:List AV},Mv l as↔Al Bz l as
 |[],[]=>by simp[Mv,Al]
 |t::l,a::r=>by simp only[Mv,Al];rw[JG (l:=l) (as:=r)]
 |[],a::r=>by simp[Mv,Al]
 |t::l,[]=>by simp[Mv,Al]
def Ga(W:World):Nat->Nat->Prop:=λb _=>b<W.heap.size
theorem ZR{W:World} {a:Addr} {v:Value} (h:W.cell? a=some v):a.block<W.heap.size:=by
 unfold World.cell? at h;split at h
 ·rename_i D;exact oP D
 ·cases h
theorem ScV.scalar{s:Z'} {a:AV} (h:ScV s a):a.scalar=true:=by cases s<;>cases a<;>first|exact h.elim|rfl
theorem Bz.scalar{s:Ty} {a:AV} (h:Bz s a):a.scalar=true:=by
 cases s with
 |sc s=>exact ScV.scalar (by simpa[Bz]using h)
 |sl l=>cases a<;>first|rfl|(simp[Bz]at h)
end
section
variable{H:Type} {enc:TypeId×Value->H} {P:Program} {W:World} {base:Nat}
open Go.ChangeShapes Go.WideShapes Go.ChangeAt Go.RowKit
section
variable {a:AV} {k:IntKind} {n:Nat} {t:TypeId} {v:Value}
theorem NY{L:Nat->Bool} {held:Bool} {O D:Nat} {cs:List Value} {x:DataW H×List MemPlace} {k:FloatKind} (M:P.underlying t=some (.float k)) (h:DataW.trod enc P W O L held D t cs=some x):∃n,cs=[.float k n]/\(Lit.float k n).wf=true:=by
 cases D with
 |zero=>simp[DataW.trod]at h
 |succ n=>
  unfold DataW.trod at h;rw[M]at h
  split at h<;>simp_all
theorem yF{sp:TypeId->Nat} {G:TypeId->Option (List Ty)} {Tr:TypeId->List Value->Prop}
  (each:∀t l cs,G t=some l->Tr t cs->∃as,Al Bz l as/\Al (DV W (Ga W)) as cs):∀(ps:List (Nat×TypeId)) (o:Nat) (l:List Ty) (cs:List Value),wS sp G o ps=some l->cs.length=o+l.length->
   (∀(i:Nat) (f:Nat×TypeId),ps[i]? =some f->Tr f.2 ((cs.drop f.1).take (sp f.2)))->∃as,Al Bz l as/\Al (DV W (Ga W)) as (cs.drop o)
 |[],o,l,cs,h,L,_=>by
  simp only[wS,gc]at h;subst h;refine⟨[],trivial,?_⟩
  rw[mn (by simp at L;omega)];trivial
 |f::ps,o,l,cs,h,L,D=>by
  simp only[wS]at h
  split at h<;>try(cases h;done)
  rename_i ho
  split at h<;>try(cases h;done)
  rename_i l1 V
  split at h<;>try(cases h;done)
  rename_i ac
  split at h<;>try(cases h;done)
  rename_i m hm;cases h
  have h0:=D 0 f rfl
  rw[ho,ac]at h0;obtain⟨Z,R,O⟩:=each f.2 l1 _ V h0
  obtain⟨ab,aa,M⟩:=yF each ps (o+l1.length) m cs hm (by rw[L];simp;omega) (λi g hg=>D (i+1) g (by simpa using hg))
  refine⟨Z++ab,R.append aa,?_⟩
  have:=O.append M
  rw[<-te,List.take_append_drop]at this;exact this
omit H enc P W base in
theorem NZ{w:World} {b o:Nat} {D:Option Nat} (h:w.cell? ⟨b,o,D⟩=some v):D=none:=by
 cases D with
 |none=>rfl
 |some x=>unfold World.cell? at h;split at h<;>simp at h
theorem JH{a:Addr} (h:a.spot=none):a.add n=⟨a.block,a.off+n,none⟩:=by
 obtain⟨b,o,s⟩:=a;simp only at h;subst h;unfold Addr.add;split
 ·rename_i D;subst D;rfl
 ·rfl
theorem Dk:∀(n:Nat) (t:TypeId) (l:List Ty),NX P n t=some l->∀(cs:List Value) (x:DataW H×List MemPlace) (D:Nat),
  DataW.trod enc P W 0 (λ_=>true) true D t cs=some x->∃as,Al Bz l as/\Al (DV W (Ga W)) as cs
 |0,t,l,h,cs,x,D,hx=>by cases h
 |n+1,t,l,h,cs,x,D,hx=>by
  simp only[NX]at h;split at h
  ·rename_i R;cases h
   obtain⟨b,rfl,_⟩:=DataW.trod_bool R hx
   exact⟨[.bool b],⟨by simp[Bz,ScV],trivial⟩,⟨.bool b,trivial⟩⟩
  ·rename_i k R;cases h
   obtain⟨m,rfl,_,hw⟩:=DataW.trod_int R hx
   exact⟨[.int k m],⟨by simp only[Bz];exact⟨rfl,hw⟩,trivial⟩,⟨.int k m,trivial⟩⟩
  ·rename_i k R;cases h
   obtain⟨m,rfl,hw⟩:=NY R hx
   exact⟨[.float k m],⟨by simp only[Bz];exact⟨rfl,hw⟩,trivial⟩,⟨.float k m,trivial⟩⟩
  ·rename_i R;cases h
   obtain⟨s,rfl,_,hw⟩:=DataW.trod_string R hx
   exact⟨[.str s],⟨by simp only[Bz];exact hw,trivial⟩,⟨.str s,trivial⟩⟩
  ·rename_i e R
   split at h<;>try(cases h;done)
   rename_i le a2
   split at h<;>try(cases h;done)
   rename_i aa;cases h;obtain⟨aa,a4⟩:=aa
   rcases DataW.trod_slice R hx with⟨rfl,_⟩|⟨a,len,cap,elems,rest,k,_,rfl,_,_,a8,a6,a5,ak,ag,_⟩
   ·exact⟨[.aU],⟨by simp[Bz],trivial⟩,⟨.aU,trivial⟩⟩
   have Z:∀(y:DataW H×List MemPlace),(W.cells? 0 (a.add (0*P.cellsOf e)) (P.cellsOf e)).bind (DataW.trod enc P W 0 (λ_=>true) true k e)=some y->a.spot=none:=by
    intro y hy;rw[io]at hy;obtain⟨cs,ac,_⟩:=hy
    obtain⟨_,ae,hcell⟩:=World.cells?_some ac
    have h0:=hcell 0 aaN
    obtain⟨v,hv⟩:∃v,cs[0]? =some v:=⟨_,eh aaN⟩
    rw[hv]at h0;obtain⟨b,o,sp⟩:=a;simp only[Nat.zero_mul,Addr.add,kv]at h0;exact NZ h0
   have L:cap=0\/a.spot=none:=by
    rcases FS cap with h|h
    ·exact .inl h
    right
    rcases FS len with h'|h'
    ·obtain⟨a7,am⟩:=ag rfl
     have:=am 0 aaN
     obtain⟨y,hy⟩:∃y,rest[0]? =some y:=⟨_,eh aaN⟩
     rw[hy,h',kr]at this;exact Z y this
    ·have:=ak 0 h'
     obtain⟨y,hy⟩:∃y,elems[0]? =some y:=⟨_,eh aaN⟩
     rw[hy]at this;exact Z y this
   rcases L with rfl|L
   ·have:len=0:=aaN
    subst this
    exact⟨[.sl []],⟨by simp[Bz],trivial⟩,⟨.PV a,trivial⟩⟩
   have each:∀i,i<len->∃as cs,Al Bz le as/\Al (DV W (Ga W)) as cs/\∀j,j<le.length->W.cell? ⟨a.block,a.off+i*le.length+j,none⟩=cs[j]?:=by
    intro i V
    have he:=ak i V
    have:elems[i]?≠none:=by simp;omega
    obtain⟨y,hy⟩:=QP.1 this;rw[hy,io]at he;obtain⟨cs,ac,an⟩:=he
    obtain⟨_,ae,hcell⟩:=World.cells?_some ac
    obtain⟨as,au,ar⟩:=Dk n e le a2 cs y k an
    refine⟨as,cs,au,ar,λj hj=>?_⟩
    have:=hcell j aaN
    rw[<-this,JH (a:=a.add _) (by rw[JH L]),JH L,aa]
   obtain⟨rows,ao,ad,hr⟩:∃rows:List (List AV),rows.length=len/\(∀r∈rows,Al Bz le r)/\∀i r,rows[i]? =some r->∃cs,Al (DV W (Ga W)) r cs/\∀j,j<le.length->W.cell? ⟨a.block,a.off+i*le.length+j,none⟩=cs[j]?:=by
    refine⟨(List.range len).map λi=>if h:i<len then(each i h).choose else[],aaP,?_,?_⟩
    ·intro r hr
     obtain⟨i,V,rfl⟩:=ne.1 hr;rw[j9]at V;rw[dif_pos V];exact(each i V).choose_spec.choose_spec.1
    ·intro i r hr
     rw[kx,eg]at hr;obtain⟨k,hk,rfl⟩:=hr
     have V:=(em.1 hk).1
     simp at V;rw[mr V]at hk;cases hk;rw[dif_pos V];exact⟨_,(each i V).choose_spec.choose_spec.2⟩
   obtain⟨b,off,a3⟩:=a;simp only at L hr;subst L
   refine⟨[.sl rows],⟨by simp only[Bz];exact⟨aaN,λr hr=>JG.2 (ad r hr)⟩,trivial⟩,?_,trivial⟩
   have hz:∀(i:Nat) (r:List AV),rows[i]? =some r->r.length=le.length:=λi r h=>(ad r (et h)).len.symm
   have at_:∀(i j:Nat) (r:List AV) (x:AV),rows[i]? =some r->r[j]? =some x->∃v,W.cell? ⟨b,off+i*le.length+j,none⟩=some v/\DV W (Ga W) x v:=by
    intro i j r x O h2;obtain⟨cs,hd,hc⟩:=hr i r O
    have hj:j<le.length:=by have:=(em.1 h2).1;have:=hz i r O;omega
    obtain⟨v,hv⟩:∃v,cs[j]? =some v:=⟨_,eh (by have:=hd.len;have:=hz i r O;omega)⟩
    exact⟨v,(hc j hj).trans hv,hd.get j x v h2 hv⟩
   have key:=DV.sl (w:=W) (π:=Ga W) rows b off cap le.length (λi j=>(W.cell? ⟨b,off+i*le.length+j,none⟩).getD default) aaN hz
    (λi j r x O h2=>by
     obtain⟨t,R⟩:∃t,le[j]? =some t:=⟨_,eh (by have:=(em.1 h2).1;have:=hz i r O;omega)⟩
     exact Bz.scalar ((ad r (et O)).get j t x R h2))
    (λi j r x O h2=>by obtain⟨v,hv,_⟩:=at_ i j r x O h2;exact ZR hv)
    (λi j r x O h2=>by obtain⟨v,hv,_⟩:=at_ i j r x O h2;rw[hv];rfl)
    (λi j r x O h2=>by obtain⟨v,hv,hd⟩:=at_ i j r x O h2;rw[hv];exact hd)
   rw[ao]at key;exact key
  ·rename_i fs R
   split at h<;>try(cases h;done)
   rename_i l' ab
   split at h<;>try(cases h;done)
   rename_i aa;cases h;obtain⟨xs,k,_,_,ae,al,hf⟩:=DataW.trod_struct R hx
   have:=yF (W:=W) (Tr:=λt cs=>∃x D,DataW.trod enc P W 0 (λ_=>true) true D t cs=some x) (λt l cs O ⟨x,D,h3⟩=>Dk n t l O cs x D h3) _ 0 l cs ab aaN (λi f M=>by
    rw[kx,eg]at M;obtain⟨f,M,rfl⟩:=M
    have O:=hf i f (by simpa using M)
    have:xs[i]?≠none:=by
     have:=(em.1 M).1
     simp at this⊢;omega
    obtain⟨y,hy⟩:=QP.1 this
    exact⟨y,k,O.trans hy⟩)
   simpa using this
  ·rename_i q e R
   split at h<;>try(cases h;done)
   rename_i l' ab
   split at h<;>try(cases h;done)
   rename_i aa;cases h;obtain⟨xs,k,_,_,ae,al,hf⟩:=DataW.trod_array R hx
   have:=yF (W:=W) (Tr:=λt cs=>∃x D,DataW.trod enc P W 0 (λ_=>true) true D t cs=some x) (λt l cs O ⟨x,D,h3⟩=>Dk n t l O cs x D h3) _ 0 l cs ab aaN (λi f M=>by
    rw[kx,eg]at M;obtain⟨f,M,rfl⟩:=M
    have V:=(em.1 M).1
    simp at V;rw[mr V]at M;cases M
    have O:=hf i V
    have:xs[i]?≠none:=by simp;omega
    obtain⟨y,hy⟩:=QP.1 this
    exact⟨y,k,O.trans hy⟩)
   simpa using this
  ·cases h
def isAgg(P:Program) (t:TypeId):Bool:=match P.underlying t with
 |some (.struct _)|some (.array _ _)=>true
 |_=>false
theorem RA{k:Ty} {d:DataW H} {p:List MemPlace} (hl:NX P n t=some [k]) (L:isAgg P t=false) (D:Value.okWide P W .any base t v) (h:DataW.Trod enc P W 0 (λ_=>true) true t v d p):∃a,Bz k a/\DV W (Ga W) a v:=by
 obtain⟨V,Z⟩:=h
 obtain⟨as,ht,hd⟩:=Dk n t [k] hl _ _ _ Z
 obtain⟨a,aa,rfl,hk,M⟩:=ht.cons_inv;cases M.JF;obtain⟨u,us,e,R,_⟩:=hd.cons_inv
 have O:∀cs,v≠.agg cs:=by
  rintro cs rfl
  unfold isAgg at L;unfold Value.okWide at D;split at D
  ·rename_i e;rw[e]at L;cases L
  ·rename_i e;rw[e]at L;cases L
  ·unfold Cell.okWide at D
   split at D<;>simp_all [Cell.ok]
 refine⟨a,hk,?_⟩
 cases v<;>simp[Value.cells]at e
 case agg cs=>exact absurd rfl (O cs)
 all_goals(obtain⟨rfl,rfl⟩:=e;exact R)
theorem PN(h:Bz (.sc (.int k)) a):∃n,a=.int k n/\(Lit.int k n).wf=true:=by
 simp only[Bz]at h
 cases a<;>first|exact h.elim|(obtain⟨rfl,D⟩:=h;exact⟨_,rfl,D⟩)
theorem aeM{α:Type} {f:α->List AV} {Q:α->Prop} {l:List Ty} (row:∀r,Al Bz l r->∃x,r=f x/\Q x) (h:Bz (.sl l) a):∃xs:Option (List α),a=aJ f xs/\(xs.getD []).length<=maxLen/\∀x∈xs.getD [],Q x:=by
 cases a<;>simp only[Bz]at h
 ·exact⟨none,rfl,aaP,aaP⟩
 rename_i xs
 have:∀(xs:List (List AV)),(∀r∈xs,Mv l r)->∃m:List α,xs=m.map f/\∀x∈m,Q x:=by
  intro xs
  induction xs with
  |nil=>intro _;exact⟨[],rfl,aaP⟩
  |cons r xs D=>
   intro h
   obtain⟨m,rfl,hm⟩:=D (λr M=>h r (lc _ M))
   obtain⟨x,rfl,L⟩:=row _ (JG.1 (h _ mp))
   exact⟨x::m,rfl,by simpa using⟨L,hm⟩⟩
 obtain⟨m,rfl,hm⟩:=this xs h.2
 exact⟨some m,rfl,by simpa using h.1,hm⟩
theorem Mw(h:Bz (.sl [.sc (.int k)]) a):∃l:Option (List Int),a=aJ (λn=>[.int k n]) l/\(l.getD []).length<=maxLen/\∀n∈l.getD [],(Lit.int k n).wf=true:=
 aeM (λr O=>by
  obtain⟨a,as,rfl,D,L⟩:=O.cons_inv;cases L.JF;obtain⟨n,rfl,M⟩:=PN D
  exact⟨n,rfl,M⟩) h
theorem V1{P:Program} {f:Nat} {args:List AV} {W:World} {vs:List Value} (h:(Pure P).c f args (.bool true) none) (hd:Al (DV W (Ga W)) args vs):
  Calls P f vs.toArray W λe w'=>e=.returned (.bool true)/\Go.RowKit.Below W.heap.size W w':=by
 refine(h.2 W (Ga W) vs (λ_ _ h=>h) ⟨hd.len,hd.get⟩).mono λe w' ⟨v,π',L,M,_,_,_,D,_⟩=>?_
 cases D;exact⟨L,M⟩
end
end
section
variable{H:Type} {enc:TypeId×Value->H} {P:Program} {W:World} {base:Nat}
open Go.ChangeShapes Go.WideShapes Go.ChangeAt Go.RowKit
def aiV(enc:TypeId×Value->H) (P:Program) (W:World) (base:Nat) (t:TypeId) (v:Value):Prop:=
 Value.okWide P W .any base t v/\∃d p,DataW.Trod enc P W 0 (λ_=>true) true t v d p
theorem HX:∀{D:List TypeId} {vs:List Value} {ds:List (DataW H)} {ps:List MemPlace},DataW.TrodAll enc P W 0 (λ_=>true) true D vs ds ps->
  (∀(j:Nat) t v,D[j]? =some t->vs[j]? =some v->Value.okWide P W .any base t v)->Al (aiV enc P W base) D vs
 |[],vs,ds,ps,h,_=>by obtain⟨rfl,_,_⟩:=trodAll_nil h;trivial
 |t::D,vs,ds,ps,h,M=>by
  obtain⟨v,Z,d,V,p,q,rfl,rfl,rfl,R,L⟩:=trodAll_cons h
  exact⟨⟨M 0 t v rfl rfl,d,p,R⟩,HX L λj t v L O=>M (j+1) t v (by simpa using L) (by simpa using O)⟩
theorem Gb{W':World} (O:laidOutB P=true):∀{D:List TypeId} {vs:List Value} {ds:List (DataW H)} {ps:List MemPlace},(D.all λt=>P.readableRec t&&decide (t<P.types.size))=true->
  DataW.TrodAll enc P W 0 (λ_=>true) true D vs ds ps->Below W.heap.size W W'->DataW.TrodAll enc P W' 0 (λb=>decide (b<W.heap.size)) true D vs ds ps
 |[],vs,ds,ps,_,h,_=>by obtain⟨rfl,rfl,rfl⟩:=trodAll_nil h;exact trodAll_mk0
 |t::D,vs,ds,ps,L,h,R=>by
  have M:=DataW.TrodAll.lt h
  obtain⟨v,ab,d,aa,p,q,rfl,rfl,rfl,Z,V⟩:=trodAll_cons h;simp only[List.all_cons,ed,ii]at L
  exact trodAll_cons_mk (Below.trod O L.1.1 L.1.2 Z R λx hx=>M x (by simp[hx])) (Gb O L.2 V R)
theorem Gc{n:Nat} {t:TypeId} {k:Ty} {v:Value} (L:NX P n t=some [k]) (O:isAgg P t=false) (h:aiV enc P W base t v):∃a,Bz k a/\DV W (Ga W) a v:=by
 obtain⟨D,d,p,M⟩:=h;exact RA L O D M
theorem AP{L:Nat->Bool} {held:Bool} {M:Nat}:∀{D:List TypeId} {vs:List Value} {ds:List (DataW H)} {ps:List MemPlace},DataW.TrodAll enc P W M L held D vs ds ps->ds.length=D.length
 |[],vs,ds,ps,h=>by obtain⟨_,rfl,_⟩:=trodAll_nil h;rfl
 |t::D,vs,ds,ps,h=>by
  obtain⟨v,V,d,R,p,q,rfl,rfl,rfl,Z,O⟩:=trodAll_cons h;simp[AP O]
end
section
variable {α:Type} {l:List α}
theorem V2{n:Nat} (h:l.length=n+1):∃a m,l=a::m/\m.length=n:=by
 cases l with
 |nil=>cases h
 |cons a m=>exact⟨a,m,rfl,by simpa using h⟩
theorem aiW(h:l.length=1):∃a,l=[a]:=by obtain⟨a,m,rfl,D⟩:=V2 h;exact⟨a,by rw[List.length_eq_zero_iff.1 D]⟩
theorem aiX(h:l.length=2):∃a b,l=[a,b]:=by obtain⟨a,m,rfl,D⟩:=V2 h;obtain⟨b,rfl⟩:=aiW D;exact⟨a,b,rfl⟩
theorem aiY(h:l.length=3):∃a b c,l=[a,b,c]:=by obtain⟨a,m,rfl,D⟩:=V2 h;obtain⟨b,c,rfl⟩:=aiX D;exact⟨a,b,c,rfl⟩
end
end Go.Eng
