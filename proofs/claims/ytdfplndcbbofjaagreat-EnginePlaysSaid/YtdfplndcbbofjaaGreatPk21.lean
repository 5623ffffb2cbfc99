/- Part 21 of the engine and its library. -/
import Derived.Test.YtdfplndcbbofjaaGreatPk20
set_option linter.all false
set_option maxRecDepth 10000
set_option maxHeartbeats 4000000
namespace Go.Eng
open Go
section
variable {n:Nat} {t:Tb}
theorem Pa(n:Int):0<=bz n:=by
 have h:0<=d7 n 0 9999/\d7 n 0 9999<=9999:=by unfold d7;split<;>(try split)<;>omega
 rw[Nu];unfold JP bZ
 rw[aU ST ST]
 omega
theorem SN(p:Ph) (r:Rn) (c:Cu):0<=(dz p r c).time:=by
 have m:=Pa r.time
 have A:(gT p r c).time=bz r.time:=rfl
 unfold dz iw ny uV F3
 repeat' split
 all_goals first
  |exact m
  |(show(0:Int)<=1;decide)
  |(rw[A];exact m)
theorem Pb(t:Tb) (A:List Fr) (i:Nat):∀p,p<8->0<=(aE (runT t A i).runs p).time:=by
 intro p B
 cases i with
 |zero=>
  have:(qE t).rn p=wW (aO t p):=FK t B
  show 0<=((qE t).rn p).time
  rw[this]
  show(0:Int)<=9999
  decide
 |succ i=>
  show 0<=((Im t (runT t A i) (A.getD i default).Zp).rn p).time
  rw[A0 t _ _ B];exact SN _ _ _
theorem NG(g:TG t n) (v:Pr):Can (aR t v).clear:=by
 by_cases h:0<=v.which/\v.which<(nR t:Int)
 ·exact(SH g h).clear.1
 ·rw[aR,ek h]
  exact⟨Ts,Ts⟩
theorem ZP(g:TG t n) {s:bt} (I:SI t n s) (A:∀p,p<8->0<=(aE s.runs p).time) (x:Fg):St8 t s x where
 ra:=by
  have E:nR t=(t.aV.getD []).length:=by have:=g.rl.1;unfold nR;omega
  have B:=I.pre.which
  refine⟨by simp[bG,eK],I.pre.Zz,λh=>?_,by have:=g.rl.1;omega,?_⟩
  ·have:=B h
   rw[E]at this;exact this
  ·exact NG g _
 tm:=A
 cl:=λv=>NG g v
 ph:=λp D=>by
  by_cases h:p<n
  ·have:=g.ph p h
   have O:=this.min
   have L:=this.max
   have R:=this.top
   have M:=this.step
   exact⟨ST,ST,ST,ST,ST⟩
  ·rw[g.off p D ST]
   exact⟨Ts,Ts,Ts,Ts,Ts⟩
def Dt.Spec(C:aY) (f:Nat):Prop:=∀l sc:Option (List Int),C.c f [aI aC l,aI aC sc] (B true) none
end
section
variable{P:Program} (hm:P.follows .mixedOrders=true) {f:Nat}
include hm
theorem Dt.ok{fT fC fB fb fE fI fS fs fG fg fA:Nat} (hc:bu P f=some (mD fT fC fB fb fE fI fS fs fG fg fA)) (hT:Table.Spec (Pure P) fT) (hC:Fj.Spec (Pure P) fC) (hB:nu.Spec (Pure P) fB) (hb:nu.Spec (Pure P) fb) (hE:Fp.Spec (Pure P) fE) (hI:Ay.Spec (Pure P) fI) (hS:BK.Spec (Pure P) fS) (hs:AZ.Spec (Pure P) fs) (hG:sA.Spec (Pure P) fG) (hg:jF.Spec (Pure P) fg) (hA:Az.Spec (Pure P) fA):Dt.Spec (Pure P) f:=by
 intro l sc
 obtain⟨t,aa⟩:∃t,cJ l=t:=⟨_,rfl⟩
 obtain⟨R,ag⟩:∃x,dJ (sB false (sc.getD []))=x:=⟨_,rfl⟩
 have al:R.getD []=sB false (sc.getD []):=by rw[<-ag,aT]
 have g:TG t (nT l):=by rw[<-aa];exact adf l
 have ht:t.Ok:=by rw[<-aa];exact Eu l
 have ao:t.Fw:=by rw[<-aa];exact Rj l
 have ak:Zj t<=1000000:=by rw[<-aa];exact tnd l
 have a2:Few (R.getD []):=by rw[al];exact L5 _ _
 have ba:(R.getD []).length<=1500:=by rw[al];exact L6 _ _
 have cT:=hT l
 rw[aa]at cT
 have cC:=hC sc false
 rw[ag]at cC
 have M:=Tb.len ht
 have V:=Tb.whole ht
 have O:setCells iU 0 t.cells=t.cells:=eI (by rw[M];rfl)
 have E:iU.length=131:=rfl
 have L:bI.length=117:=rfl
 have ar:∀u v:bt,u.Ok->v.Ok->setCells bI 0 u.cells=u.cells/\setCells v.cells 0 u.cells=u.cells:=λu v hu hv=>⟨eI (by rw[bt.len hu];rfl),eI (by rw[bt.len hu,bt.len hv])⟩
 have au:=Vt t (R.getD [])
 have am:=(ar _ _ (jc t) (jc t)).1
 have ac:=bt.len (jc t)
 have ae:=bt.whole (jc t)
 have a5:=λi=>SM g (R.getD []) i
 have a8:=λi=>Pb t (R.getD []) i
 have ad:=λi=>L4 t (R.getD []) ak i
 have a4:=hE (qE t) (jc t) (ad 0)
 clear aa ag al;refine aj hm hc [] rfl ?_;try simp only[I,B,D,RY,↓KW,seval,mD,Z.H,M,V,O,E,L]
 refine af cT ?_;try simp only[I,B,D,RY,↓KW,seval,M,V,O,E,L]
 refine af cC ?_;try simp only[I,B,D,RY,↓KW,seval,M,V,O,E,L]
 refine af (hB t ht.ln) ?_;try simp only[I,B,D,RY,↓KW,seval,am,ac,ae,M,V,O,E,L]
 refine af (hb t ht.ln) ?_;try simp only[I,B,D,RY,↓KW,seval,am,ac,ae,M,V,O,E,L]
 refine af a4 ?_;try simp only[I,B,D,RY,↓KW,seval,am,ac,ae,gs,M,V,O,E,L]
 refine aD (λi:Nat=>(⟨[(9,.dat (I i) none),(5,.ptr 7 0),(6,.dat (aI Fr.cells R) none),(7,.ptr 14 0),(8,.ptr 18 0)],[(7,⟨t.cells,[]⟩),(14,⟨(runT t (R.getD []) i).cells,[]⟩),(18,⟨(runT t (R.getD []) i).cells,[]⟩)],[],400⟩:S)) (λi=>1500-i) (λi=>i<=(R.getD []).length) ?_ 0 ST ?_
 rotate_left
 ·refine ai Ts ?_ ?_ ?_ ?_<;>simp[LX,I,B,D,runT]
 intro i hi A back
 have a7:=aA (k:=i) ST
 have ab:runT t (R.getD []) (i+1)=Im t (runT t (R.getD []) i) ((R.getD []).getD i default).Zp:=rfl
 have c1:=ad i
 have c2:=ad (i+1)
 have o1:=au i
 have o2:=au (i+1)
 try simp only[I,B,D,RY,↓KW,seval]
 rcases bc (decide ((i:Int)<((R.getD []).length:Int)))with h|h
 ·try simp only[I,B,D,RY,↓KW,seval,h,M,V,O,E,L]
  refine af hA ?_;try simp only[I,B,D,RY,↓KW,seval,M,V,O,E,L]
 ·have h1:i<(R.getD []).length:=by have:=dC h;omega
  obtain⟨x,hx⟩:∃x,(R.getD [])[i]? =some x:=⟨_,dT h1⟩
  have a3:(R.getD []).getD i default=x:=by rw[eh,hx];rfl
  have an:=a2 x (em hx)
  have hy:0<=(i:Int)/\(i:Int)<((R.getD []).length:Int):=ST
  have hq:x.cells.length=6/\aF x.cells 0 (some 6)=some (.agg x.cells):=⟨rfl,rfl⟩
  rw[a3]at ab
  have cS:=hS t (runT t (R.getD []) i) x.Zp ht ao ak o1 c1 an
  have cs:=hs t (runT t (R.getD []) i) x.Zp ht ao ak o1 c1 an (ZP g (a5 i) (a8 i) x.Zp)
  rw[<-ab]at cS cs
  have cE:=hE _ o2 c2
  have cG:=hG _ o2
  have cg:=hg _ o2.runs
  rw[Dr]at cg
  rw[show(A8 λp=>dX ((runT t (R.getD []) (i+1)).rn p))=ef (runT t (R.getD []) (i+1)).runs from rfl]at cG
  generalize a9:runT t (R.getD []) i=s1 at*;generalize a6:runT t (R.getD []) (i+1)=s2 at*
  have q1:=bt.len o1
  have q2:=bt.len o2
  have q3:=bt.whole o1
  have q6:=bt.whole o2
  have q5:=(ar s2 s1 o2 o1).2
  have q4:=bt.v9 o2
  have q8:(ef s2.runs !=ef s2.runs)=false:=TB
  try simp only[I,B,D,RY,↓KW,seval,h,hx,hy,hq,q1,q2,q3,q4,q5,q6,M,V,O,E,L]
  refine af (hI x) ?_;try simp only[I,B,D,RY,↓KW,seval,hx,hy,hq,q1,q2,q3,q4,q5,q6,M,V,O,E,L]
  refine af cS ?_;try simp only[I,B,D,RY,↓KW,seval,hx,hy,hq,q1,q2,q3,q4,q5,q6,M,V,O,E,L]
  refine af (hI x) ?_;try simp only[I,B,D,RY,↓KW,seval,hx,hy,hq,q1,q2,q3,q4,q5,q6,M,V,O,E,L]
  refine af cs ?_;try simp only[I,B,D,RY,↓KW,seval,hx,hy,hq,q1,q2,q3,q4,q5,q6,M,V,O,E,L]
  refine af cE ?_;try simp only[I,B,D,RY,↓KW,seval,gs,hx,hy,hq,q1,q2,q3,q4,q5,q6,M,V,O,E,L]
  refine af cG ?_;try simp only[I,B,D,RY,↓KW,seval,hx,hy,hq,q1,q2,q3,q4,q5,q6,M,V,O,E,L]
  refine af cg ?_;try simp only[I,B,D,RY,↓KW,seval,q8,hx,hy,hq,q1,q2,q3,q4,q5,q6,M,V,O,E,L]
  refine back (i+1) _ ST ST ?_
  refine ai Ts ?_ ?_ ?_ ?_<;>simp[LX,I,B,D,a7,a6]
end
section
variable{P:Program} (hm:P.follows .mixedOrders=true) {f:Nat}
include hm
theorem vD.ok(A:bu P f=some rS):vD.Spec (Pure P) f:=by
 exact λn lo B _=>Cut.ok hm A n lo B
theorem ZQ.ok{A:Nat} (B:bu P f=some (pQ A)) (hC:Cut.Spec (Pure P) A):iy.Spec (Pure P) f:=by
 exact sg.ok hm B hC
end
open Go.RowKit
section
variable (P:Program) (p:Nat->Bool) (fn k:Nat)
def yN:Nat:=((List.range k).filter p).length
theorem wq:yN p (k+1)=if p k then yN p k+1 else yN p k:=by
 simp only[yN,io,rf,H2,yv]
 split<;>simp
theorem Iz(p:Nat->Bool) {k:Nat} (A:p k=true):∀n,k<n->((List.range n).filter p)[yN p k]? =some k
 |n+1,h=>by
  simp only[io,rf]
  by_cases hk:k<n
  ·have B:=Iz p A n hk
   rw[lc (er.1 B).1,B]
  ·obtain rfl:k=n:=by omega
   rw[kw (by simp[yN])]
   simp[yN,A]
theorem FL(s:Int) {k:Nat} (hk:k<8):(bits .and .i64 (s/2^k) 1=1)↔tb s k=true:=by
 have h:=Dj s hk
 have e:min k IntKind.i64.bits=k:=by have:IntKind.i64.bits=64:=rfl;omega
 rw[e,Kp _ (by exact Int.pow_nonneg Ts)]at h
 have A:bits .and .i64 (s/2^k) 1=if tb s k then 1 else 0:=h
 rw[A]
 cases tb s k<;>simp
def KJ:Prop:=∀(l B L D E b off len cap:Nat) (s:Int) (f:Nat->Nat->Int) (J:Nat->World->Prop) (A:World->Prop) (W:World) (cnt:Nat->Nat),cnt 0=0->
  (∀k,k<4->bits .and .i64 (s/2^k) 1=1->cnt (k+1)=cnt k+1)->(∀k,k<4->¬bits .and .i64 (s/2^k) 1=1->cnt (k+1)=cnt k)->len<=cap->
  W.cell? ⟨B,L+115,none⟩=some (.slice (some ⟨b,off,none⟩) len cap)->
  (∀i wr,J i wr->(∀k,k<min len 4->wr.cell? ⟨b,off+k*2,none⟩=some (.int .i64 (f k 0))/\wr.cell? ⟨b,off+k*2+1,none⟩=some (.int .i64 (f k 1)))/\wr.cell? ⟨D,E,none⟩=some (.int .i64 s))->
  (∀i wr o,J i wr->J i (wr.alloc o))->(∀wr o,A wr->A (wr.alloc o))->
  (∀n k wr,k<min len 4->bits .and .i64 (s/2^k) 1=1->J (cnt k) wr->YieldAt Fence.wide n P l #[.int .i64 k,.agg #[.int .i64 (f k 0),.int .i64 (f k 1)]] wr λe W'=>(e=.returned (.bool true)/\J (cnt k+1) W')\/(e=.returned (.bool false)/\A W'))->
  J 0 W->
  Calls P fn #[.func (.yield l) #[] #[],.pointer (some ⟨B,L,none⟩),.pointer (some ⟨D,E,none⟩)] W λe W'=>(∃v,e=.returned v)/\(J (cnt (min len 4)) W'\/A W')
def KK:Prop:=∀(x:Option Addr) (l A B D E:Nat) (J:World->Prop) (W:World),W.cell? ⟨A,B+115,none⟩=some (.slice x 0 0)->(∀wr o,J wr->J (wr.alloc o))->J W->
  Calls P fn #[.func (.yield l) #[] #[],.pointer (some ⟨A,B,none⟩),.pointer (some ⟨D,E,none⟩)] W λe W'=>(∃v,e=.returned v)/\J W'
theorem C4(w:World) (o:Obj):Below w.heap.size w (w.alloc o):=(Below.refl _ w).alloc (ia _) o
theorem IA{w:World} {π:Nat->Nat->Prop} {k:IntKind} {n:Int} {v:Value} (h:DV w π (.int k n) v):v=.int k n:=by cases h;rfl
theorem JO.of{P:Program} {fn:Nat} (al:dB P fn=true) (hS:KJ P fn) (hN:KK P fn):JO.Spec (Pure P) fn:=by
 intro t s ht;refine⟨fn,_,rfl,al,?_,?_⟩
 ·intro x hx a ha
  obtain⟨k,_,rfl⟩:=i8.1 hx;simp only[pS,mp,List.not_mem_nil,or_false]at ha
  rcases ha with rfl|rfl<;>simp[jO,jN,Bs.cells,I]
 intro l J Jx W π vs hπ dv V ao ac hY h0;obtain⟨ae,ab⟩:=dv
 match vs,ae with
 |[v0,v1],_=>
 have d0:=ab 0 _ _ rfl rfl
 have d1:=ab 1 _ _ rfl rfl
 cases d0 with
 |ref _ B1 o1 g1 a1 a2 a3 a4=>
 cases d1 with
 |ref _ B2 o2 g2 b1 b2 b3 b4=>
 have O:=a3 115 _ (Tb.Ju ht)
 have D:=a4 115 _ (Tb.Ju ht)
 have aa:=b3 0 (I s) rfl
 rw[IA (b4 0 (I s) rfl),pm]at aa
 have ar:π B2 o2:=by have:=b2 0 (I s) rfl;rwa[pm]at this
 have R:∀i wr o,J i wr->J i (World.alloc wr o):=λi wr o h=>ao i _ _ h (C4 _ _)
 have ad:∀wr o,Jx wr->Jx (World.alloc wr o):=λwr o h=>ac _ _ h (C4 _ _)
 generalize a7:g1 115=gv at O D
 cases E:t.f9 with
 |none=>
  rw[E]at D;cases D
  have he:iY t s=[]:=by simp[iY,eF,E]
  refine(hN none l B1 o1 B2 o2 (J 0) W O (λwr o=>R 0 wr o) h0).mono ?_
  rintro e W' ⟨h1,h2⟩
  exact⟨h1,.inl (by rw[he];exact h2)⟩
 |some L=>
  rw[E]at D;generalize M:L.map Bs.cells=xs at D
  have ag:DV W π (.sl xs) gv:=by rw[<-M];exact D
  cases ag with
  |NO a=>
   have hL:L=[]:=by simpa using M
   have he:iY t s=[]:=by simp[iY,eF,E,hL]
   refine(hN (some a) l B1 o1 B2 o2 (J 0) W O (λwr o=>R 0 wr o) h0).mono ?_
   rintro e W' ⟨h1,h2⟩
   exact⟨h1,.inl (by rw[he];exact h2)⟩
  |sl _ B off cap z f c1 c2 c3 c4 c5 c6=>
  have ak:xs.length=L.length:=by rw[<-M];simp
  have A:∀k,k<L.length->xs[k]? =some (gY t k).cells:=λk hk=>by
   rw[<-M];simp[gY,E,hk]
  have hz:∀k,k<L.length->z=2:=λk hk=>(c2 k _ (A k hk)).symm
  have hcell:∀k,k<L.length->(W.cell? ⟨B,off+k*2,none⟩=some (.int .i64 (gY t k).set)/\W.cell? ⟨B,off+k*2+1,none⟩=some (.int .i64 (gY t k).lock))/\π B (off+k*2)/\π B (off+k*2+1):=λk hk=>by
   have a6:=hz k hk
   subst a6
   have e0:=c5 k 0 _ _ (A k hk) rfl
   have e1:=c5 k 1 _ _ (A k hk) rfl
   rw[IA (c6 k 0 _ _ (A k hk) rfl)]at e0;rw[IA (c6 k 1 _ _ (A k hk) rfl)]at e1;exact⟨⟨e0,e1⟩,c4 k 0 _ _ (A k hk) rfl,c4 k 1 _ _ (A k hk) rfl⟩
  have a5:eF t=min xs.length 4:=by simp[eF,E,ak]
  have an:((iY t s).map (pS t)).length=yN (λk=>tb s k) (min xs.length 4):=by simp[iY,yN,a5]
  rw[an]
  refine hS l B1 o1 B2 o2 B off xs.length cap s (λk c=>if c=0 then(gY t k).set else(gY t k).lock) J Jx W (yN λk=>tb s k) rfl ?_ ?_ c1 O ?_ R ad ?_ h0
  ·intro k hk Z;rw[wq,et ((FL s ST).1 Z)]
  ·intro k hk Z;rw[wq,ek (λh=>Z ((FL s ST).2 h))]
  ·intro i wr hJ
   refine⟨λk hk=>?_,?_⟩
   ·obtain⟨⟨e0,e1⟩,p0,p1⟩:=hcell k ST
    simp only[kh,ek (show ¬(1:Nat)=0 by decide)]
    exact⟨(V i wr hJ _ _ p0).trans e0,(V i wr hJ _ _ p1).trans e1⟩
   ·exact(V i wr hJ _ _ ar).trans aa
  ·intro n k wr hk Z hJ
   have au:=(FL s ST).1 Z
   have am:=Iz (λk=>tb s k) au (eF t) ST
   have hx:((iY t s).map (pS t))[yN (λk=>tb s k) k]? =some (pS t k):=by rw[im,iY,am];rfl
   exact hY n _ _ wr hx hJ
end
open Go.RowKit
section
variable {α:Type} {a:α} {l:List α} {β:Type} {R:α->β->Prop} {m:List β} (P:Program)
def Du(A:Nat):Prop:=∀(s p:Int) (w:World),Calls P A #[.int .i64 s,.int .i64 p] w λe w'=>e=.returned (.bool (bD s p))/\Below w.heap.size w w'
theorem Du.of{P:Program} {E:Nat} (h:lE.Spec (Pure P) E):Du P E:=by
 intro s p w
 refine((h s p).2 w (λ_ _=>False) [.int .i64 s,.int .i64 p] (λ_ _ h=>h.elim) ⟨rfl,?_⟩).mono λe w' ⟨v,π',L,M,_,_,_,D,_⟩=>?_
 ·intro i a v A B
  match i with
  |0=>simp at A B;subst A;subst B;exact .int _ _
  |1=>simp at A B;subst A;subst B;exact .int _ _
  |i+2=>simp at A
 cases D;exact⟨L,M⟩
def NH(fn:Nat):Prop:=∀(l D E:Nat) (s:Int) (J:Nat->World->Prop) (B:World->Prop) (W:World) (cnt:Nat->Nat),cnt 0=0->
  (∀k:Nat,k<8->bD s k=true->cnt (k+1)=cnt k+1)->(∀k:Nat,k<8->bD s k=false->cnt (k+1)=cnt k)->
  (∀i wr,J i wr->wr.cell? ⟨D,E,none⟩=some (.int .i64 s))->
  (∀i wr A,J i wr->Below wr.heap.size wr A->J i A)->(∀wr A,B wr->Below wr.heap.size wr A->B A)->
  (∀(n k:Nat) wr,k<8->bD s k=true->J (cnt k) wr->YieldAt Fence.wide n P l #[.int .i64 k] wr λe W'=>(e=.returned (.bool true)/\J (cnt k+1) W')\/(e=.returned (.bool false)/\B W'))->
  J 0 W->
  Calls P fn #[.func (.yield l) #[] #[],.pointer (some ⟨D,E,none⟩)] W λe W'=>(∃v,e=.returned v)/\(J (cnt 8) W'\/B W')
theorem uD.of{P:Program} {fn:Nat} (O:dB P fn=true) (hS:NH P fn):uD.Spec (Pure P) fn:=by
 intro s;refine⟨fn,_,rfl,O,?_,?_⟩
 ·intro x M a ha
  obtain⟨k,_,rfl⟩:=i8.1 M;simp only[mp,List.not_mem_nil,or_false]at ha;subst ha;simp[jO,jN,I]
 intro l J Jx W π vs hπ dv ac aa D hY h0;obtain⟨E,ad⟩:=dv
 match vs,E with
 |[v1],_=>
 have d1:=ad 0 _ _ rfl rfl
 cases d1 with
 |ref _ B2 o2 g2 b1 b2 b3 b4=>
 have B:=b3 0 (I s) rfl
 rw[IA (b4 0 (I s) rfl),pm]at B
 have ab:π B2 o2:=by have:=b2 0 (I s) rfl;rwa[pm]at this
 have V:(((List.range 8).filter λp=>tb s p).map λ(p:Nat)=>[I p]).length=yN (λk=>tb s k) 8:=by simp[yN]
 rw[V]
 refine hS l B2 o2 s J Jx W (yN λk=>tb s k) rfl ?_ ?_ ?_ (λi wr Z h A=>aa i _ _ h A) (λwr Z h A=>D _ _ h A) ?_ h0
 ·intro k hk A;rw[kz ST]at A;rw[wq,et A]
 ·intro k hk A;rw[kz ST]at A;rw[wq,ek (by rw[A];simp)]
 ·intro i wr L
  exact(ac i wr L _ _ ab).trans B
 ·intro n k wr hk A L
  rw[kz ST]at A
  have R:=Iz (λk=>tb s k) A 8 ST
  have M:(((List.range 8).filter λp=>tb s p).map λ(p:Nat)=>[I p])[yN (λk=>tb s k) k]? =some [I k]:=by rw[im,R];rfl
  exact hY n _ _ wr M L
def Al{α β:Type} (R:α->β->Prop):List α->List β->Prop
 |[],[]=>True
 |a::l,b::m=>R a b/\Al R l m
 |_,_=>False
theorem Al.len{α β:Type} {R:α->β->Prop}:∀{l:List α} {m:List β},Al R l m->l.length=m.length
 |[],[],_=>rfl
 |a::l,b::m,h=>by simp[Al.len h.2]
 |[],b::m,h=>h.elim
 |a::l,[],h=>h.elim
theorem Al.get{α β:Type} {R:α->β->Prop}:∀{l:List α} {m:List β},Al R l m->∀(i:Nat) (a:α) (b:β),l[i]? =some a->m[i]? =some b->R a b
 |a::l,b::m,h,0,x,y,A,B=>by simp at A B;subst A;subst B;exact h.1
 |a::l,b::m,h,i+1,x,y,A,B=>Al.get h.2 i x y (by simpa using A) (by simpa using B)
 |[],_,_,i,_,_,A,_=>by simp at A
theorem Al.mk{α β:Type} {R:α->β->Prop}:∀{l:List α} {m:List β},l.length=m.length->(∀(i:Nat) (a:α) (b:β),l[i]? =some a->m[i]? =some b->R a b)->Al R l m
 |[],[],_,_=>trivial
 |a::l,b::m,h,f=>⟨f 0 a b rfl rfl,Al.mk (by simpa using h) λi x y B A=>f (i+1) x y (by simpa using B) (by simpa using A)⟩
theorem Al.append{α β:Type} {R:α->β->Prop}:∀{l:List α} {m:List β} {A:List α} {B:List β},Al R l m->Al R A B->Al R (l++A) (m++B)
 |[],[],_,_,_,h=>h
 |a::l,b::m,_,_,h,D=>⟨h.1,Al.append h.2 D⟩
theorem Al.n:Al R ([]:List α) ([]:List β):=trivial
theorem Al.c{b:β} (h:R a b) (t:Al R l m):Al R (a::l) (b::m):=⟨h,t⟩
theorem Al.IB(h:Al R [] m):m=[]:=by
 cases m with
 |nil=>rfl
 |cons b m=>exact h.elim
theorem Al.cons_inv(h:Al R (a::l) m):∃b A,m=b::A/\R a b/\Al R l A:=by
 cases m with
 |nil=>exact h.elim
 |cons b m=>exact⟨b,m,rfl,h.1,h.2⟩
inductive Z' where
 |bool
 |int (k:IntKind)
 |flt (k:FloatKind)
 |str
inductive Ty where
 |sc (s:Z')
 |sl (l:List Ty)
def wu(A:TypeId->Nat) (F:TypeId->Option (List Ty)):Nat->List (Nat×TypeId)->Option (List Ty)
 |_,[]=>some []
 |o,f::r=>if f.1=o then match F f.2 with
   |some l=>if A f.2=l.length then match wu A F (o+l.length) r with
    |some m=>some (l++m)
    |none=>none
    else none
   |none=>none
  else none
def Ml(P:Program):Nat->TypeId->Option (List Ty)
 |0,_=>none
 |n+1,t=>match P.underlying t with
  |some .bool=>some [.sc .bool]
  |some (.int k)=>some [.sc (.int k)]
  |some (.float k)=>some [.sc (.flt k)]
  |some .string=>some [.sc .str]
  |some (.slice e)=>match Ml P n e with
   |some l=>if P.cellsOf e=l.length/\0<l.length then some [.sl l]else none
   |none=>none
  |some (.struct A)=>match wu P.cellsOf (Ml P n) 0 (A.toList.map λf=>(f.offset,f.type))with
   |some l=>if P.cellsOf t=l.length then some l else none
   |none=>none
  |some (.array k e)=>match wu P.cellsOf (Ml P n) 0 ((List.range k).map λi=>(i*P.cellsOf e,e))with
   |some l=>if P.cellsOf t=l.length then some l else none
   |none=>none
  |_=>none
def ScV:Z'->AV->Prop
 | .bool,.bool _=>True
 | .int k,.int A n=>A=k/\(Lit.int k n).wf=true
 | .flt k,.float A b=>A=k/\(Lit.float k b).wf=true
 | .str,.str s=>s.size<=maxLen
 |_,_=>False
mutual
def BT:Ty->AV->Prop
 | .sc s,a=>ScV s a
 | .sl _,.bV=>True
 | .sl l,.sl xs=>xs.length<=maxLen/\∀r∈xs,KL l r
 |_,_=>False
def KL:List Ty->List AV->Prop
 |[],[]=>True
 |t::l,a::r=>BT t a/\KL l r
 |_,_=>False
end
theorem IC:∀{l:List Ty} {as:List AV},KL l as↔Al BT l as
 |[],[]=>by simp[KL,Al]
 |t::l,a::r=>by simp only[KL,Al];rw[IC (l:=l) (as:=r)]
 |[],a::r=>by simp[KL,Al]
 |t::l,[]=>by simp[KL,Al]
def FM(W:World):Nat->Nat->Prop:=λb _=>b<W.heap.size
theorem Wa{W:World} {a:Addr} {v:Value} (h:W.cell? a=some v):a.block<W.heap.size:=by
 unfold World.cell? at h;split at h
 ·rename_i A;exact oL A
 ·cases h
theorem ScV.scalar{s:Z'} {a:AV} (h:ScV s a):a.scalar=true:=by cases s<;>cases a<;>first|exact h.elim|rfl
theorem BT.scalar{s:Ty} {a:AV} (h:BT s a):a.scalar=true:=by
 cases s with
 |sc s=>exact ScV.scalar (by simpa[BT]using h)
 |sl l=>cases a<;>first|rfl|(simp[BT]at h)
end
section
variable{H:Type} {enc:TypeId×Value->H} {P:Program} {W:World} {base:Nat}
open Go.ChangeShapes Go.WideShapes Go.ChangeAt Go.RowKit
section
variable {a:AV} {k:IntKind} {n:Nat} {t:TypeId} {v:Value}
theorem Mm{B:Nat->Bool} {held:Bool} {E A:Nat} {cs:List Value} {x:DataW H×List MemPlace} {k:FloatKind} (D:P.underlying t=some (.float k)) (h:DataW.trod enc P W E B held A t cs=some x):∃n,cs=[.float k n]/\(Lit.float k n).wf=true:=by
 cases A with
 |zero=>simp[DataW.trod]at h
 |succ n=>
  unfold DataW.trod at h;rw[D]at h
  split at h<;>simp_all
theorem yO{sp:TypeId->Nat} {G:TypeId->Option (List Ty)} {Tr:TypeId->List Value->Prop}
  (each:∀t l cs,G t=some l->Tr t cs->∃as,Al BT l as/\Al (DV W (FM W)) as cs):∀(ps:List (Nat×TypeId)) (o:Nat) (l:List Ty) (cs:List Value),wu sp G o ps=some l->cs.length=o+l.length->
   (∀(i:Nat) (f:Nat×TypeId),ps[i]? =some f->Tr f.2 ((cs.drop f.1).take (sp f.2)))->∃as,Al BT l as/\Al (DV W (FM W)) as (cs.drop o)
 |[],o,l,cs,h,B,_=>by
  simp only[wu,fo]at h;subst h;refine⟨[],trivial,?_⟩
  rw[yi (by simp at B;omega)];trivial
 |f::ps,o,l,cs,h,B,A=>by
  simp only[wu]at h
  split at h<;>try(cases h;done)
  rename_i ho
  split at h<;>try(cases h;done)
  rename_i l1 M
  split at h<;>try(cases h;done)
  rename_i Z
  split at h<;>try(cases h;done)
  rename_i m hm;cases h
  have h0:=A 0 f rfl
  rw[ho,Z]at h0;obtain⟨O,L,E⟩:=each f.2 l1 _ M h0
  obtain⟨V,R,D⟩:=yO each ps (o+l1.length) m cs hm (by rw[B];simp;omega) (λi g hg=>A (i+1) g (by simpa using hg))
  refine⟨O++V,L.append R,?_⟩
  have:=E.append D
  rw[<-xf,List.take_append_drop]at this;exact this
omit H enc P W base in
theorem Mn{w:World} {b o:Nat} {A:Option Nat} (h:w.cell? ⟨b,o,A⟩=some v):A=none:=by
 cases A with
 |none=>rfl
 |some x=>unfold World.cell? at h;split at h<;>simp at h
theorem ID{a:Addr} (h:a.spot=none):a.add n=⟨a.block,a.off+n,none⟩:=by
 obtain⟨b,o,s⟩:=a;simp only at h;subst h;unfold Addr.add;split
 ·rename_i A;subst A;rfl
 ·rfl
theorem Dv:∀(n:Nat) (t:TypeId) (l:List Ty),Ml P n t=some l->∀(cs:List Value) (x:DataW H×List MemPlace) (A:Nat),
  DataW.trod enc P W 0 (λ_=>true) true A t cs=some x->∃as,Al BT l as/\Al (DV W (FM W)) as cs
 |0,t,l,h,cs,x,A,hx=>by cases h
 |n+1,t,l,h,cs,x,A,hx=>by
  simp only[Ml]at h;split at h
  ·rename_i L;cases h
   obtain⟨b,rfl,_⟩:=DataW.trod_bool L hx
   exact⟨[.bool b],⟨by simp[BT,ScV],trivial⟩,⟨.bool b,trivial⟩⟩
  ·rename_i k L;cases h
   obtain⟨m,rfl,_,hw⟩:=DataW.trod_int L hx
   exact⟨[.int k m],⟨by simp only[BT];exact⟨rfl,hw⟩,trivial⟩,⟨.int k m,trivial⟩⟩
  ·rename_i k L;cases h
   obtain⟨m,rfl,hw⟩:=Mm L hx
   exact⟨[.float k m],⟨by simp only[BT];exact⟨rfl,hw⟩,trivial⟩,⟨.float k m,trivial⟩⟩
  ·rename_i L;cases h
   obtain⟨s,rfl,_,hw⟩:=DataW.trod_string L hx
   exact⟨[.str s],⟨by simp only[BT];exact hw,trivial⟩,⟨.str s,trivial⟩⟩
  ·rename_i e L
   split at h<;>try(cases h;done)
   rename_i le au
   split at h<;>try(cases h;done)
   rename_i Z;cases h;obtain⟨Z,a3⟩:=Z
   rcases DataW.trod_slice L hx with⟨rfl,_⟩|⟨a,len,cap,elems,rest,k,_,rfl,_,_,a7,a5,a4,ag,ae,_⟩
   ·exact⟨[.bV],⟨by simp[BT],trivial⟩,⟨.bV,trivial⟩⟩
   have O:∀(y:DataW H×List MemPlace),(W.cells? 0 (a.add (0*P.cellsOf e)) (P.cellsOf e)).bind (DataW.trod enc P W 0 (λ_=>true) true k e)=some y->a.spot=none:=by
    intro y R;rw[jp]at R;obtain⟨cs,ab,_⟩:=R
    obtain⟨_,ad,hcell⟩:=World.cells?_some ab
    have h0:=hcell 0 ST
    obtain⟨v,hv⟩:∃v,cs[0]? =some v:=⟨_,dT ST⟩
    rw[hv]at h0;obtain⟨b,o,sp⟩:=a;simp only[Nat.zero_mul,Addr.add,kh]at h0;exact Mn h0
   have B:cap=0\/a.spot=none:=by
    rcases rc cap with h|h
    ·exact .inl h
    right
    rcases rc len with h'|h'
    ·obtain⟨a6,al⟩:=ae rfl
     have:=al 0 ST
     obtain⟨y,R⟩:∃y,rest[0]? =some y:=⟨_,dT ST⟩
     rw[R,h',la]at this;exact O y this
    ·have:=ag 0 h'
     obtain⟨y,R⟩:∃y,elems[0]? =some y:=⟨_,dT ST⟩
     rw[R]at this;exact O y this
   rcases B with rfl|B
   ·have:len=0:=ST
    subst this
    exact⟨[.sl []],⟨by simp[BT],trivial⟩,⟨.NO a,trivial⟩⟩
   have each:∀i,i<len->∃as cs,Al BT le as/\Al (DV W (FM W)) as cs/\∀j,j<le.length->W.cell? ⟨a.block,a.off+i*le.length+j,none⟩=cs[j]?:=by
    intro i M
    have he:=ag i M
    have:elems[i]?≠none:=by simp;omega
    obtain⟨y,R⟩:=IH.1 this;rw[R,jp]at he;obtain⟨cs,ab,am⟩:=he
    obtain⟨_,ad,hcell⟩:=World.cells?_some ab
    obtain⟨as,ar,ao⟩:=Dv n e le au cs y k am
    refine⟨as,cs,ar,ao,λj hj=>?_⟩
    have:=hcell j ST
    rw[<-this,ID (a:=a.add _) (by rw[ID B]),ID B,Z]
   obtain⟨rows,an,ac,hr⟩:∃rows:List (List AV),rows.length=len/\(∀r∈rows,Al BT le r)/\∀i r,rows[i]? =some r->∃cs,Al (DV W (FM W)) r cs/\∀j,j<le.length->W.cell? ⟨a.block,a.off+i*le.length+j,none⟩=cs[j]?:=by
    refine⟨(List.range len).map λi=>if h:i<len then(each i h).choose else[],TB,?_,?_⟩
    ·intro r hr
     obtain⟨i,M,rfl⟩:=i8.1 hr;rw[fp]at M;rw[dif_pos M];exact(each i M).choose_spec.choose_spec.1
    ·intro i r hr
     rw[im,eg]at hr;obtain⟨k,hk,rfl⟩:=hr
     have M:=(er.1 hk).1
     simp at M;rw[kr M]at hk;cases hk;rw[dif_pos M];exact⟨_,(each i M).choose_spec.choose_spec.2⟩
   obtain⟨b,off,a2⟩:=a;simp only at B hr;subst B
   refine⟨[.sl rows],⟨by simp only[BT];exact⟨ST,λr hr=>IC.2 (ac r hr)⟩,trivial⟩,?_,trivial⟩
   have hz:∀(i:Nat) (r:List AV),rows[i]? =some r->r.length=le.length:=λi r h=>(ac r (em h)).len.symm
   have at_:∀(i j:Nat) (r:List AV) (x:AV),rows[i]? =some r->r[j]? =some x->∃v,W.cell? ⟨b,off+i*le.length+j,none⟩=some v/\DV W (FM W) x v:=by
    intro i j r x E V;obtain⟨cs,hd,hc⟩:=hr i r E
    have hj:j<le.length:=by have:=(er.1 V).1;have:=hz i r E;omega
    obtain⟨v,hv⟩:∃v,cs[j]? =some v:=⟨_,dT (by have:=hd.len;have:=hz i r E;omega)⟩
    exact⟨v,(hc j hj).trans hv,hd.get j x v V hv⟩
   have key:=DV.sl (w:=W) (π:=FM W) rows b off cap le.length (λi j=>(W.cell? ⟨b,off+i*le.length+j,none⟩).getD default) ST hz
    (λi j r x E V=>by
     obtain⟨t,L⟩:∃t,le[j]? =some t:=⟨_,dT (by have:=(er.1 V).1;have:=hz i r E;omega)⟩
     exact BT.scalar ((ac r (em E)).get j t x L V))
    (λi j r x E V=>by obtain⟨v,hv,_⟩:=at_ i j r x E V;exact Wa hv)
    (λi j r x E V=>by obtain⟨v,hv,_⟩:=at_ i j r x E V;rw[hv];rfl)
    (λi j r x E V=>by obtain⟨v,hv,hd⟩:=at_ i j r x E V;rw[hv];exact hd)
   rw[an]at key;exact key
  ·rename_i fs L
   split at h<;>try(cases h;done)
   rename_i l' aa
   split at h<;>try(cases h;done)
   rename_i Z;cases h;obtain⟨xs,k,_,_,ad,ak,hf⟩:=DataW.trod_struct L hx
   have:=yO (W:=W) (Tr:=λt cs=>∃x A,DataW.trod enc P W 0 (λ_=>true) true A t cs=some x) (λt l cs E ⟨x,A,h3⟩=>Dv n t l E cs x A h3) _ 0 l cs aa ST (λi f D=>by
    rw[im,eg]at D;obtain⟨f,D,rfl⟩:=D
    have E:=hf i f (by simpa using D)
    have:xs[i]?≠none:=by
     have:=(er.1 D).1
     simp at this⊢;omega
    obtain⟨y,R⟩:=IH.1 this
    exact⟨y,k,E.trans R⟩)
   simpa using this
  ·rename_i q e L
   split at h<;>try(cases h;done)
   rename_i l' aa
   split at h<;>try(cases h;done)
   rename_i Z;cases h;obtain⟨xs,k,_,_,ad,ak,hf⟩:=DataW.trod_array L hx
   have:=yO (W:=W) (Tr:=λt cs=>∃x A,DataW.trod enc P W 0 (λ_=>true) true A t cs=some x) (λt l cs E ⟨x,A,h3⟩=>Dv n t l E cs x A h3) _ 0 l cs aa ST (λi f D=>by
    rw[im,eg]at D;obtain⟨f,D,rfl⟩:=D
    have M:=(er.1 D).1
    simp at M;rw[kr M]at D;cases D
    have E:=hf i M
    have:xs[i]?≠none:=by simp;omega
    obtain⟨y,R⟩:=IH.1 this
    exact⟨y,k,E.trans R⟩)
   simpa using this
  ·cases h
def isAgg(P:Program) (t:TypeId):Bool:=match P.underlying t with
 |some (.struct _)|some (.array _ _)=>true
 |_=>false
theorem Pc{k:Ty} {d:DataW H} {p:List MemPlace} (R:Ml P n t=some [k]) (B:isAgg P t=false) (A:Value.okWide P W .any base t v) (h:DataW.Trod enc P W 0 (λ_=>true) true t v d p):∃a,BT k a/\DV W (FM W) a v:=by
 obtain⟨M,O⟩:=h
 obtain⟨as,V,hd⟩:=Dv n t [k] R _ _ _ O
 obtain⟨a,Z,rfl,hk,D⟩:=V.cons_inv;cases D.IB;obtain⟨u,us,e,L,_⟩:=hd.cons_inv
 have E:∀cs,v≠.agg cs:=by
  rintro cs rfl
  unfold isAgg at B;unfold Value.okWide at A;split at A
  ·rename_i e;rw[e]at B;cases B
  ·rename_i e;rw[e]at B;cases B
  ·unfold Cell.okWide at A
   split at A<;>simp_all [Cell.ok]
 refine⟨a,hk,?_⟩
 cases v<;>simp[Value.cells]at e
 case agg cs=>exact absurd rfl (E cs)
 all_goals(obtain⟨rfl,rfl⟩:=e;exact L)
theorem Wb(h:BT (.sc (.int k)) a):∃n,a=.int k n/\(Lit.int k n).wf=true:=by
 simp only[BT]at h
 cases a<;>first|exact h.elim|(obtain⟨rfl,A⟩:=h;exact⟨_,rfl,A⟩)
theorem ZR{α:Type} {f:α->List AV} {Q:α->Prop} {l:List Ty} (row:∀r,Al BT l r->∃x,r=f x/\Q x) (h:BT (.sl l) a):∃xs:Option (List α),a=aI f xs/\(xs.getD []).length<=maxLen/\∀x∈xs.getD [],Q x:=by
 cases a<;>simp only[BT]at h
 ·exact⟨none,rfl,TB,TB⟩
 rename_i xs
 have:∀(xs:List (List AV)),(∀r∈xs,KL l r)->∃m:List α,xs=m.map f/\∀x∈m,Q x:=by
  intro xs
  induction xs with
  |nil=>intro _;exact⟨[],rfl,TB⟩
  |cons r xs A=>
   intro h
   obtain⟨m,rfl,hm⟩:=A (λr D=>h r (kp _ D))
   obtain⟨x,rfl,B⟩:=row _ (IC.1 (h _ lr))
   exact⟨x::m,rfl,by simpa using⟨B,hm⟩⟩
 obtain⟨m,rfl,hm⟩:=this xs h.2
 exact⟨some m,rfl,by simpa using h.1,hm⟩
theorem KM(h:BT (.sl [.sc (.int k)]) a):∃l:Option (List Int),a=aI (λn=>[.int k n]) l/\(l.getD []).length<=maxLen/\∀n∈l.getD [],(Lit.int k n).wf=true:=
 ZR (λr E=>by
  obtain⟨a,as,rfl,A,B⟩:=E.cons_inv;cases B.IB;obtain⟨n,rfl,D⟩:=Wb A
  exact⟨n,rfl,D⟩) h
theorem SO{P:Program} {f:Nat} {args:List AV} {W:World} {vs:List Value} (h:(Pure P).c f args (.bool true) none) (hd:Al (DV W (FM W)) args vs):
  Calls P f vs.toArray W λe w'=>e=.returned (.bool true)/\Go.RowKit.Below W.heap.size W w':=by
 refine(h.2 W (FM W) vs (λ_ _ h=>h) ⟨hd.len,hd.get⟩).mono λe w' ⟨v,π',B,D,_,_,_,A,_⟩=>?_
 cases A;exact⟨B,D⟩
end
end
section
variable{H:Type} {enc:TypeId×Value->H} {P:Program} {W:World} {base:Nat}
open Go.ChangeShapes Go.WideShapes Go.ChangeAt Go.RowKit
def adi(enc:TypeId×Value->H) (P:Program) (W:World) (base:Nat) (t:TypeId) (v:Value):Prop:=
 Value.okWide P W .any base t v/\∃d p,DataW.Trod enc P W 0 (λ_=>true) true t v d p
theorem G9:∀{A:List TypeId} {vs:List Value} {ds:List (DataW H)} {ps:List MemPlace},DataW.TrodAll enc P W 0 (λ_=>true) true A vs ds ps->
  (∀(j:Nat) t v,A[j]? =some t->vs[j]? =some v->Value.okWide P W .any base t v)->Al (adi enc P W base) A vs
 |[],vs,ds,ps,h,_=>by obtain⟨rfl,_,_⟩:=trodAll_nil h;trivial
 |t::A,vs,ds,ps,h,D=>by
  obtain⟨v,O,d,M,p,q,rfl,rfl,rfl,L,B⟩:=trodAll_cons h
  exact⟨⟨D 0 t v rfl rfl,d,p,L⟩,G9 B λj t v B E=>D (j+1) t v (by simpa using B) (by simpa using E)⟩
theorem FN{W':World} (E:laidOutB P=true):∀{A:List TypeId} {vs:List Value} {ds:List (DataW H)} {ps:List MemPlace},(A.all λt=>P.readableRec t&&decide (t<P.types.size))=true->
  DataW.TrodAll enc P W 0 (λ_=>true) true A vs ds ps->Below W.heap.size W W'->DataW.TrodAll enc P W' 0 (λb=>decide (b<W.heap.size)) true A vs ds ps
 |[],vs,ds,ps,_,h,_=>by obtain⟨rfl,rfl,rfl⟩:=trodAll_nil h;exact trodAll_mk0
 |t::A,vs,ds,ps,B,h,L=>by
  have D:=DataW.TrodAll.lt h
  obtain⟨v,Z,d,V,p,q,rfl,rfl,rfl,O,M⟩:=trodAll_cons h;simp only[List.all_cons,ed,gc]at B
  exact trodAll_cons_mk (Below.trod E B.1.1 B.1.2 O L λx R=>D x (by simp[R])) (FN E B.2 M L)
theorem KN{n:Nat} {t:TypeId} {k:Ty} {v:Value} (B:Ml P n t=some [k]) (E:isAgg P t=false) (h:adi enc P W base t v):∃a,BT k a/\DV W (FM W) a v:=by
 obtain⟨A,d,p,D⟩:=h;exact Pc B E A D
theorem A4{B:Nat->Bool} {held:Bool} {D:Nat}:∀{A:List TypeId} {vs:List Value} {ds:List (DataW H)} {ps:List MemPlace},DataW.TrodAll enc P W D B held A vs ds ps->ds.length=A.length
 |[],vs,ds,ps,h=>by obtain⟨_,rfl,_⟩:=trodAll_nil h;rfl
 |t::A,vs,ds,ps,h=>by
  obtain⟨v,M,d,L,p,q,rfl,rfl,rfl,O,E⟩:=trodAll_cons h;simp[A4 E]
end
section
variable {α:Type} {l:List α}
theorem WD{n:Nat} (h:l.length=n+1):∃a m,l=a::m/\m.length=n:=by
 cases l with
 |nil=>cases h
 |cons a m=>exact⟨a,m,rfl,by simpa using h⟩
theorem adj(h:l.length=1):∃a,l=[a]:=by obtain⟨a,m,rfl,A⟩:=WD h;exact⟨a,by rw[List.length_eq_zero_iff.1 A]⟩
theorem adk(h:l.length=2):∃a b,l=[a,b]:=by obtain⟨a,m,rfl,A⟩:=WD h;obtain⟨b,rfl⟩:=adj A;exact⟨a,b,rfl⟩
end
end Go.Eng
