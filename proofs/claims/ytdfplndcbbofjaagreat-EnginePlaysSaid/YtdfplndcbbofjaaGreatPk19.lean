/- Part 19 of the engine and its library. -/
import Derived.Test.YtdfplndcbbofjaaGreatPk18
set_option linter.all false
set_option maxRecDepth 10000
set_option maxHeartbeats 4000000
namespace Go.Eng
open Go
section
variable (t:Tb) (s:Pr) (lines:Int) (k:Nat)
theorem Zx(a x y:Int):rP .i64 (bK .i64 a x) (bK .i64 a y)=bK .i64 a (rP .i64 x y):=by
 have B:rP .i64 (bK .i64 a x) (bK .i64 a y)=IntKind.i64.wrap ((bv (bK .i64 a x)|||bv (bK .i64 a y)).toNat:Int):=rfl
 have A:bK .i64 a (rP .i64 x y)=IntKind.i64.wrap ((bv a&&&bv (rP .i64 x y)).toNat:Int):=rfl
 rw[B,A,bv_and,bv_and,Wt]
 congr 3
 apply xn
 intro i _;simp only[Pi,GE]
 cases(bv a).getLsbD i<;>simp
def tI:Pr:={s with held:=eK t s lines k,bF:=bK .i64 s.bF (jg t lines k)}
def FA:Pr:={s with held:=eK t s lines (k+1),bF:=bK .i64 s.bF (jg t lines k)}
theorem VQ{k:Nat} (hk:k<4) (h:tb lines k=true):setCells (tI t s lines k).cells (3+k) [AV.int .i64 (J2 s k)]=(FA t s lines k).cells:=by
 have e:k=0\/k=1\/k=2\/k=3:=ST
 rcases e with rfl|rfl|rfl|rfl<;>simp[tI,FA,Pr.cells,eK,setCells,io,h]
theorem VR{k:Nat} (h:tb lines k=true):setCells (FA t s lines k).cells 7 [AV.int .i64 (rP .i64 (bK .i64 s.bF (jg t lines k)) (bK .i64 s.bF (2^k)))]=(tI t s lines (k+1)).cells:=by
 rw[Zx]
 have:jg t lines (k+1)=rP .i64 (jg t lines k) (2^k):=by rw[jg,et h]
 simp[tI,FA,Pr.cells,eK,setCells,io,this]
theorem VS{k:Nat} (h:tb lines k=false):tI t s lines (k+1)=tI t s lines k:=by
 unfold tI
 rw[CD t s lines h,jg,ek (by rw[h];decide)]
theorem Zy:(tI t s lines k).cells.length=8/\(FA t s lines k).cells.length=8:=⟨rfl,rfl⟩
theorem aeM:(tI t s lines 0).cells=[I s.aq,I s.which,I s.time,I 0,I 0,I 0,I 0,I 0]:=by
 have:bK .i64 s.bF 0=0:=by rw[and_zero];intro i _;rw[dr];simp
 simp[tI,Pr.cells,eK,io,jg,this]
end
section
variable{P:Program} (hm:P.follows .mixedOrders=true) {f:Nat}
include hm
theorem So.ok{fB fC:Nat} (hc:bu P f=some (vv fB fC)) (hB:pY.Spec (Pure P) fB) (hC:vD.Spec (Pure P) fC):uJ.Spec (Pure P) f:=by
 intro t s lines R M
 have hl:=Tb.len R
 have hp:=Tb.whole R
 have hd:=R.ln.Cv
 have ae:=R.aV
 have e2:=Pr.len M
 have e5:=Pr.whole M
 have k8:setCells [AV.int .i64 0,AV.int .i64 0,AV.int .i64 0,AV.int .i64 0,AV.int .i64 0,AV.int .i64 0,AV.int .i64 0,AV.int .i64 0] 0 s.cells=s.cells:=eI (by rw[e2];rfl)
 have k9:setCells (setCells s.cells 3 [AV.int .i64 0,AV.int .i64 0,AV.int .i64 0,AV.int .i64 0]) 7 [AV.int .i64 0]=(tI t s lines 0).cells:=by
  rw[aeM,Pr.cells,gD M];rfl
 have k3:(setCells s.cells 3 [AV.int .i64 0,AV.int .i64 0,AV.int .i64 0,AV.int .i64 0]).length=8:=by rw[Pr.cells,gD M];rfl
 have ab:=cB e2 (cB e5 (cB k8 (cB k9 (k3))))
 refine aj hm hc [] rfl ?_;try simp only[I,B,D,RY,↓KW,seval,vv,Z.H,ab,hp]
 refine aD (λk:Nat=>(⟨[(8,.dat (I k) none),(3,.ptr 4 0),(2,.dat (I lines) none),(4,.ptr 5 0),(7,.ptr 8 0),(6,.ptr 6 0)],[(4,⟨t.cells,[]⟩),(5,⟨s.cells,[]⟩),(6,⟨[AV.int .i64 0,AV.int .i64 0,AV.int .i64 0,AV.int .i64 0,AV.int .i64 0,AV.int .i64 0,AV.int .i64 0,AV.int .i64 0],[]⟩),(8,⟨(tI t s lines k).cells,[]⟩)],[],400⟩:S)) (λk=>nR t-k) (λk=>k<=nR t) ?_ 0 ST ?_
 ·intro k hk A back
  have hw:=aA (k:=k) (by unfold nR at hk;omega)
  try simp only[I,B,D,RY,↓KW,seval,hd,dS]
  have V:=Zy t s lines k
  have qz:setCells [AV.int .i64 0,AV.int .i64 0,AV.int .i64 0,AV.int .i64 0,AV.int .i64 0,AV.int .i64 0,AV.int .i64 0,AV.int .i64 0] 0 (tI t s lines k).cells=(tI t s lines k).cells:=eI (by rw[V.1];rfl)
  have qw:aF (tI t s lines k).cells 0 (some 8)=some (.agg (tI t s lines k).cells):=Pr.whole (s:=tI t s lines k) rfl
  have fin:k=nR t->tI t s lines k=bG t s lines:=by rintro rfl;rfl
  rcases bc (decide ((k:Int)<((t.aV.getD []).length:Int)))with L|L
  ·have:=fin (by have:=dE L;unfold nR at*;omega)
   try simp only[I,B,D,RY,↓KW,seval,L,V,qz,qw]
   rw[this]
  rcases bc (decide ((k:Int)<4))with E|E
  ·have:=fin (by have:=dE E;unfold nR at*;omega)
   try simp only[I,B,D,RY,↓KW,seval,L,E,V,qz,qw]
   rw[this]
  have h3:k<nR t:=by have:=dC L;have:=dC E;unfold nR;omega
  have h4:k<4:=by have:=dC E;omega
  have O:=zJ (k:=k) ST
  have hu:=wrap_u64 (show k<18446744073709551616 by omega)
  have hy:0<=(k:Int)/\(k:Int)<4:=ST
  have ac:=Pr.zS M h4
  have ad:=Pr.jy M
  have c0:0<=d7 (dN s k) 0 2147483646/\d7 (dN s k) 0 2147483646<=2147483646:=by unfold d7;split<;>(try split)<;>omega
  have w1:IntKind.i64.wrap (d7 (dN s k) 0 2147483646+1)=J2 s k:=aU ST ST
  try simp only[I,B,D,RY,↓KW,seval,L,E]
  refine af (hB lines k ST) ?_
  rcases bc (tb lines k)with a1|a1
  ·try simp only[I,B,D,RY,↓KW,seval,a1]
   refine back (k+1) _ ST ST ?_
   refine ai Ts ?_ ?_ ?_ ?_<;>simp[LX,I,B,D,hw,VS t s lines a1]
  have s1:=VQ t s lines h4 a1
  have s2:=VR t s lines (k:=k) a1
  have aa:(FA t s lines k).cells[7]? =some (AV.int .i64 (bK .i64 s.bF (jg t lines k))):=Pr.jy (s:=FA t s lines k) rfl
  try simp only[I,B,D,RY,↓KW,seval,a1,hy,ac]
  refine af (hC _ _ _ Ts) ?_
  try simp only[I,B,D,RY,↓KW,seval,w1,hy,s1,V,aa,ad,hu,O,s2]
  refine⟨ST,back (k+1) _ ST ST ?_⟩
  refine ai Ts ?_ ?_ ?_ ?_<;>simp[LX,I,B,D,hw,s2]
 ·refine ai Ts ?_ ?_ ?_ ?_<;>simp[LX,I,B,D,k9]
omit hm in
theorem Me{α:Type} {g:α->Bool}:∀{l:List α},(∀x∈l,g x=false)->l.find? g=none:=λh=>mf.2 λx A=>by simp[h x A]
theorem Sq.ok{fB:Nat} (hc:bu P f=some (vB fB)) (hB:pY.Spec (Pure P) fB):pV.Spec (Pure P) f:=by
 intro t s V hs
 have hl:=Tb.len V
 have hp:=Tb.whole V
 have hd:=V.ln.Cv
 have ad:=V.aV
 have e5:=Pr.whole hs
 refine aj hm hc [] rfl ?_;try simp only[I,B,D,RX,↓KW,seval,vB,Z.H,hp,e5]
 refine aD (λk:Nat=>(⟨[(5,.dat (I k) none),(2,.ptr 4 0),(3,.ptr 5 0)],[(4,⟨t.cells,[]⟩),(5,⟨s.cells,[]⟩)],[],400⟩:S)) (λk=>nR t-k) (λk=>k<=nR t/\∀i,i<k->Bz t s i=false) ?_ 0 TB ?_
 ·rintro k ⟨hk,M⟩ A back
  have hw:=aA (k:=k) (by unfold nR at hk;omega)
  try simp only[I,B,D,RX,↓KW,seval,hd,dS]
  have fin:k=nR t->aK t s=-1:=by
   rintro rfl
   unfold aK
   rw[Me λx O=>M x (fp.1 O)]
  rcases bc (decide ((k:Int)<((t.aV.getD []).length:Int)))with E|E
  ·have:=fin (by have:=dE E;unfold nR at*;omega)
   try simp only[I,B,D,RX,↓KW,seval,E]
   rw[this]
  rcases bc (decide ((k:Int)<4))with L|L
  ·have:=fin (by have:=dE L;unfold nR at*;omega)
   try simp only[I,B,D,RX,↓KW,seval,E,L]
   rw[this]
  have h3:k<nR t:=by have:=dC E;have:=dC L;unfold nR;omega
  have h4:k<4:=by have:=dC L;omega
  have h5:k<(t.aV.getD []).length:=by have:=dC E;omega
  obtain⟨r,O⟩:∃r,(t.aV.getD [])[k]? =some r:=⟨_,dT h5⟩
  have aa:LK t k=r:=by unfold LK;rw[eh,O];rfl
  have hy:(0<=(k:Int)/\(k:Int)<4)/\(0<=(k:Int)/\(k:Int)<((t.aV.getD []).length:Int)):=ST
  have ab:=Pr.zS hs h4
  have ac:=Pr.jy hs
  have hq:r.cells[4]? =some (I r.delay)/\r.cells.length=11:=⟨rfl,rfl⟩
  have hE:Bz t s k=(decide (dN s k>r.delay)&& !tb s.bF k):=by unfold Bz;rw[aa]
  have no:Bz t s k=false->∀i,i<k+1->Bz t s i=false:=by
   intro h i hi
   by_cases e:i=k
   ·rw[e];exact h
   ·exact M i ST
  try simp only[I,B,D,RX,↓KW,seval,E,L,hy,ab,hd,O,c7,hq,Rl.cells]
  rcases bc (decide (dN s k>r.delay))with a1|a1
  ·rw[a1]at hE
   try simp only[I,B,D,RX,↓KW,seval,a1]
   refine back (k+1) _ ⟨ST,no hE⟩ ST ?_
   refine ai Ts ?_ ?_ ?_ ?_<;>simp[LX,I,B,D,hw]
  try simp only[I,B,D,RX,↓KW,seval,a1,ac]
  refine af (hB _ k ST) ?_
  rcases bc (tb s.bF k)with R|R
  ·rw[a1,R]at hE
   have:aK t s=k:=by
    unfold aK
    rw[List.find?_eq_some_iff_append.2 ⟨hE,List.range k,(List.range (nR t-k-1)).map (λi=>k+1+i),?_,λx O=>by simp[M x (fp.1 O)]⟩]
    apply List.ext_getElem
    ·simp;omega
    ·intro i E L
     simp only[List.getElem_range];rw[List.getElem_append];split
     ·simp
     ·rename_i hh
      simp only[List.length_range]at hh;rw[List.getElem_cons];split
      ·rename_i h6;simp at h6;omega
      ·rename_i h6;simp at h6⊢;omega
   try simp only[I,B,D,RX,↓KW,seval,R,fx]
   rw[this]
  ·rw[a1,R]at hE
   try simp only[I,B,D,RX,↓KW,seval,R,gs]
   refine back (k+1) _ ⟨ST,no hE⟩ ST ?_
   refine ai Ts ?_ ?_ ?_ ?_<;>simp[LX,I,B,D,hw]
 ·refine ai Ts ?_ ?_ ?_ ?_<;>simp[LX,I,B,D]
end
section
variable (t:Tb) (C:aY) (f:Nat) (s:Pr)
def Wr:Prop:=s.held.length=4/\0<=s.which/\s.which<((t.aV.getD []).length:Int)/\(t.aV.getD []).length<=4
theorem sD{t:Tb} {s:Pr} (h:Wr t s):∃k:Nat,s.which=k/\k<4/\k<(t.aV.getD []).length/\(t.aV.getD [])[k]? =some (aR t s):=by
 obtain⟨_,A,B,D⟩:=h
 refine⟨s.which.toNat,ST,ST,ST,?_⟩
 unfold aR
 rw[et ⟨A,by unfold nR;omega⟩]
 unfold LK
 rw[eh,dT ST]
 rfl
def Is(l:List Rn):Bool:=if s.aq==2 then qP l (aR t s).clear else if s.aq==4 then qP l (aR t s).ep else true
def rj.Spec:Prop:=∀(t:Tb) (s:Pr) (l:List Rn),t.Ok->l.length=8->Wr t s->C.c f [.agg t.cells,.agg s.cells,.agg (aQ l)] (B (Is t s l)) none
def FB:Pr:={(d9 t s).2 with aq:=(d9 t s).1}
def AT.Spec:Prop:=∀(t:Tb) (s:Pr),t.Ok->s.aq=4->Wr t s->C.c f [.agg t.cells,.agg s.cells,.agg (aR t s).cells] (.dF [.agg (FB t s).cells,B ((d9 t s).1 !=4),B false]) none
theorem Mf{s:Pr} (h:s.held.length=4):s.cells[0]? =some (I s.aq)/\s.cells[1]? =some (I s.which)/\s.cells[2]? =some (I s.time)/\s.cells[7]? =some (I s.bF)/\s.cells.length=8:=by
 rw[Pr.cells,gD h];exact⟨rfl,rfl,rfl,rfl,rfl⟩
theorem yM{s:Pr} (h:s.held.length=4) (v:Int):setCells s.cells 0 [AV.int .i64 v]=({s with aq:=v}:Pr).cells/\setCells s.cells 1 [AV.int .i64 v]=({s with which:=v}:Pr).cells/\setCells s.cells 2 [AV.int .i64 v]=({s with time:=v}:Pr).cells/\setCells s.cells 7 [AV.int .i64 v]=({s with bF:=v}:Pr).cells:=by
 unfold Pr.cells;simp only[gD h];exact⟨rfl,rfl,rfl,rfl⟩
end
section
variable{P:Program} (hm:P.follows .mixedOrders=true) {f:Nat}
include hm
theorem rj.ok{R:Nat} (hc:bu P f=some (tr R)) (hA:Fz.Spec (Pure P) R):rj.Spec (Pure P) f:=by
 intro t s l V M L
 have O:=bQ M
 have hd:=V.ln.Cv
 have aa:=V.aV
 obtain⟨k,hk,h4,h5,hx⟩:=sD L
 have e5:=Pr.whole L.1
 have eq:=Mf L.1
 rw[hk]at eq
 have hy:(0<=(k:Int)/\(k:Int)<4)/\(0<=(k:Int)/\(k:Int)<((t.aV.getD []).length:Int)):=ST
 have d1:decide ((k:Int)<0)=false:=kd ST
 have d2:decide ((k:Int)>=((t.aV.getD []).length:Int))=false:=kd ST
 unfold Is;generalize aR t s=r at*
 have A:=cB e5 (cB eq (cB hd (cB hy (cB O (hx)))))
 refine aj hm hc [] rfl ?_;try simp only[I,B,D,RX,↓KW,seval,tr,Z.H,A,d1,d2,dS]
 rcases bc (s.aq==2)with a1|a1
 rotate_left
 ·simp only[a1,kh]
  try simp only[I,B,D,RX,↓KW,seval,a1,A,c7,Rl.cells]
  refine af (hA l r.clear M) ?_;try simp only[I,B,D,RX,↓KW,seval]
 rcases bc (s.aq==4)with E|E
 ·simp only[a1,E,ev,ib]
  try simp only[I,B,D,RX,↓KW,seval,a1,E,A]
 ·simp only[a1,E,ev,ib,kh]
  try simp only[I,B,D,RX,↓KW,seval,a1,E,A,c7,Rl.cells]
  refine af (hA l r.ep M) ?_;try simp only[I,B,D,RX,↓KW,seval]
theorem AT.ok{fR:Nat} (hc:bu P f=some (xL fR)) (hR:pV.Spec (Pure P) fR):AT.Spec (Pure P) f:=by
 intro t s ht am hw
 have hp:=Tb.whole ht
 have a5:=ht.aV
 have au:=hw.1
 obtain⟨k,hk,h4,h5,hx⟩:=sD hw
 have e5:=Pr.whole hw.1
 have eq:=Mf hw.1
 have ar:=Pr.zS hw.1 h4
 have k8:∀v:Pr,v.held.length=4->setCells [AV.int .i64 0,AV.int .i64 0,AV.int .i64 0,AV.int .i64 0,AV.int .i64 0,AV.int .i64 0,AV.int .i64 0,AV.int .i64 0] 0 v.cells=v.cells:=λv hv=>eI (by rw[Pr.len hv];rfl)
 have ao:=k8 s hw.1
 have hy:0<=(k:Int)/\(k:Int)<4:=ST
 have hA:qQ s=decide (dN s k>0):=by
  unfold qQ
  rw[hk,na (show(k:Int)>=0 by omega),na (show(k:Int)<4 by omega)]
  simp
 rw[hk]at eq;generalize aa:(FB t s).cells=zz;generalize L:((d9 t s).1 !=4)=z2
 obtain⟨r,hr⟩:∃r,aR t s=r:=⟨_,rfl⟩
 have hL:kY t s=(decide (r.most>0)&&decide (s.time>=r.most)):=by unfold kY;rw[hr]
 rw[hr]
 have hq:r.cells[8]? =some (I r.stay)/\r.cells[9]? =some (I r.most)/\r.cells.length=11:=⟨rfl,rfl,rfl⟩
 have E:=cB e5 (cB eq (cB ao (cB hy (cB ar (cB hq (hp))))))
 refine aj hm hc [0,1] rfl ?_;try simp only[I,B,D,RY,↓KW,seval,xL,Z.H,E]
 apply yK (λ_:Unit=>(⟨[(10,.dat (B (kY t s)) none),(4,.ptr 5 0),(9,.ptr 11 0),(3,.ptr 4 0),(6,.ptr 7 0)],[(4,⟨t.cells,[]⟩),(5,⟨s.cells,[]⟩),(7,⟨[AV.int .i64 0,AV.int .i64 0,AV.int .i64 0,AV.int .i64 0,AV.int .i64 0,AV.int .i64 0,AV.int .i64 0,AV.int .i64 0],[]⟩),(11,⟨s.cells,[]⟩)],[],60⟩:S)) (λ_=>(!kY t s&&(qQ s||decide (s.time<r.stay)))=false)
 ·intro back
  have ag:(!kY t s&&(qQ s||decide (s.time<r.stay)))=true->zz=s.cells/\z2=false:=by
   intro h
   have e:d9 t s=(4,s):=by unfold d9;rw[hr,et h]
   rw[<-aa,<-L,FB,e];refine⟨?_,rfl⟩
   show({s with aq:=4}:Pr).cells=s.cells
   rw[<-am]
  have ab:kY t s=false->((decide (dN s k>0)||decide (s.time<r.stay))=false->(!kY t s&&(qQ s||decide (s.time<r.stay)))=false)/\((decide (dN s k>0)||decide (s.time<r.stay))=true->zz=s.cells/\z2=false):=by
   intro h
   exact⟨λh2=>by rw[h,hA,h2];rfl,λh2=>ag (by rw[h,hA,h2];rfl)⟩
  rcases bc (decide (r.most>0))with a1|a1
  ·have V:kY t s=false:=by rw[hL,a1];rfl
   obtain⟨p1,p2⟩:=ab V
   rcases bc (decide (dN s k>0))with M|M
   ·rcases bc (decide (s.time<r.stay))with R|R
    ·try simp only[I,B,D,RY,↓KW,seval,a1,M,R,E,fx]
     refine back () _ (p1 (by rw[M,R];rfl)) ?_
     refine ai Ts ?_ ?_ ?_ ?_<;>simp[LX,I,B,D,V]
    ·obtain⟨q1,q2⟩:=p2 (by rw[M,R];rfl)
     try simp only[I,B,D,RY,↓KW,seval,a1,M,R,E,fx]
     rw[q1,q2]
   ·obtain⟨q1,q2⟩:=p2 (by rw[M];rfl)
    try simp only[I,B,D,RY,↓KW,seval,a1,M,E,fx]
    rw[q1,q2]
  rcases bc (decide (s.time>=r.most))with O|O
  ·have V:kY t s=false:=by rw[hL,a1,O];rfl
   obtain⟨p1,p2⟩:=ab V
   rcases bc (decide (dN s k>0))with M|M
   ·rcases bc (decide (s.time<r.stay))with R|R
    ·try simp only[I,B,D,RY,↓KW,seval,a1,O,M,R,E,fx]
     refine back () _ (p1 (by rw[M,R];rfl)) ?_
     refine ai Ts ?_ ?_ ?_ ?_<;>simp[LX,I,B,D,V]
    ·obtain⟨q1,q2⟩:=p2 (by rw[M,R];rfl)
     try simp only[I,B,D,RY,↓KW,seval,a1,O,M,R,E,fx]
     rw[q1,q2]
   ·obtain⟨q1,q2⟩:=p2 (by rw[M];rfl)
    try simp only[I,B,D,RY,↓KW,seval,a1,O,M,E,fx]
    rw[q1,q2]
  ·have ae:kY t s=true:=by rw[hL,a1,O];rfl
   try simp only[I,B,D,RY,↓KW,seval,a1,O,E,gs]
   refine back () _ (by rw[ae];rfl) ?_
   refine ai Ts ?_ ?_ ?_ ?_<;>simp[LX,I,B,D,ae]
 rintro _ ad
 have A:(dD t s).held.length=4:=BH hw.1
 have ak:=zJ (k:=k) ST
 have hu:=wrap_u64 (show k<18446744073709551616 by omega)
 have an:IntKind.i64.wrap (2^k)=2^k:=by
  have:k=0\/k=1\/k=2\/k=3:=ST
  rcases this with rfl|rfl|rfl|rfl<;>decide
 apply yK (λ_:Unit=>(⟨[(9,.ptr 11 0),(3,.ptr 4 0),(6,.ptr 7 0)],[(4,⟨t.cells,[]⟩),(7,⟨[AV.int .i64 0,AV.int .i64 0,AV.int .i64 0,AV.int .i64 0,AV.int .i64 0,AV.int .i64 0,AV.int .i64 0,AV.int .i64 0],[]⟩),(11,⟨(dD t s).cells,[]⟩)],[],90⟩:S)) (λ_=>True)
 ·intro back
  have hS:dD t s=if kY t s&&decide (dN s k>0)then{s with bF:=rP .i64 s.bF (2^k)}else s:=by
   unfold dD;rw[hA,hk,ix,an]
  rcases bc (kY t s)with a1|a1
  ·rw[a1]at hS
   have hS:dD t s=s:=hS
   try simp only[I,B,D,RY,↓KW,seval,a1]
   refine back () _ trivial ?_
   refine ai Ts ?_ ?_ ?_ ?_<;>simp[LX,I,B,D,hS]
  rcases bc (decide (dN s k>0))with O|O
  ·rw[a1,O]at hS
   have hS:dD t s=s:=hS
   try simp only[I,B,D,RY,↓KW,seval,a1,O,E]
   refine back () _ trivial ?_
   refine ai Ts ?_ ?_ ?_ ?_<;>simp[LX,I,B,D,hS]
  ·rw[a1,O]at hS
   have hS:dD t s={s with bF:=rP .i64 s.bF (2^k)}:=hS
   have ac:=(yM hw.1 (rP .i64 s.bF (2^k))).2.2.2
   try simp only[I,B,D,RY,↓KW,seval,a1,O,E,hu,ak,ac]
   refine back () _ trivial ?_
   refine ai Ts ?_ ?_ ?_ ?_<;>simp[LX,I,B,D,hS,ac]
 rintro _ _
 have hD:d9 t s=if aK t (dD t s)>=0 then(1,{dD t s with which:=aK t (dD t s)})else(5,dD t s):=by
  unfold d9;rw[hr,ek (by rw[ad];decide)]
 have cR:=hR t {dD t s with aq:=5} ht A
 have al:aK t {dD t s with aq:=5}=aK t (dD t s):=rfl
 rw[al]at cR;generalize dD t s=v at*;generalize aK t v=b at*
 have s0:setCells v.cells 0 [AV.int .i64 5]=({v with aq:=5}:Pr).cells:=(yM A 5).1
 have l0:v.cells.length=8:=Pr.len A
 have l5:({v with aq:=5}:Pr).cells.length=8:=Pr.len A
 have w5:aF ({v with aq:=5}:Pr).cells 0 (some 8)=some (.agg ({v with aq:=5}:Pr).cells):=Pr.whole A
 have z5:=k8 ⟨5,v.which,v.time,v.held,v.bF⟩ A
 have s1:setCells ({v with aq:=5}:Pr).cells 0 [AV.int .i64 1]=({v with aq:=1}:Pr).cells:=(yM (s:=⟨5,v.which,v.time,v.held,v.bF⟩) A 1).1
 have s2:setCells ({v with aq:=1}:Pr).cells 1 [AV.int .i64 b]=({v with aq:=1,which:=b}:Pr).cells:=(yM (s:=⟨1,v.which,v.time,v.held,v.bF⟩) A b).2.1
 have l1:({v with aq:=1}:Pr).cells.length=8:=Pr.len A
 have w2:aF ({v with aq:=1,which:=b}:Pr).cells 0 (some 8)=some (.agg ({v with aq:=1,which:=b}:Pr).cells):=Pr.whole A
 have l2:({v with aq:=1,which:=b}:Pr).cells.length=8:=Pr.len A
 have z1:=k8 ⟨1,b,v.time,v.held,v.bF⟩ A
 try simp only[I,B,D,RY,↓KW,seval,s0,l0,l5,w5,hp]
 refine af cR ?_
 rcases bc (decide (b>=0))with a1|a1
 ·rw[ek (dE a1)]at hD
  rw[FB,hD]at aa;rw[hD]at L
  have L:true=z2:=L
  try simp only[I,B,D,RY,↓KW,seval,a1,s0,l0,l5,w5,z5]
  rw[<-aa,<-L]
 ·rw[et (dC a1)]at hD
  rw[FB,hD]at aa;rw[hD]at L
  have L:true=z2:=L
  try simp only[I,B,D,RY,↓KW,seval,a1,s0,l0,l5,s1,l1,s2,l2,w2,z1]
  rw[<-aa,<-L]
end
def gP(t:Tb) (s:Pr) (l:List Rn):Pr×Bool×Bool:=
 if cQ t s then({s with aq:=1,which:=aK t s},true,false)
 else if s.aq=0 then(s,false,false)
 else if s.aq=5/\(ay t s l).1=0 then({s with aq:=0,which:=0},true,true)
 else({(ay t s l).2 with aq:=(ay t s l).1},(ay t s l).1 !=s.aq,false)
structure O6 (t:Tb) (s:Pr):Prop where
 held:s.held.length=4
 Zz:0<=s.aq/\s.aq<6
 which:s.aq≠0->0<=s.which/\s.which<((t.aV.getD []).length:Int)
 xl:(t.aV.getD []).length<=4
 can:Can (aR t s).clear
theorem Mg{x:Int} (h:Can x):bK .i64 x 255=x:=by
 refine iM (sq zR) h λi A=>?_
 rw[jK,iX];simp[A]
theorem It{r:Rl} (h:Can r.clear):Zv r=tgt r:=by
 unfold Zv tgt;rw[Mg h]
 by_cases e:r.clear=0
 ·simp[e]
 ·simp[e]
def AU.Spec(C:aY) (f:Nat):Prop:=∀(t:Tb) (s:Pr) (l:List Rn),t.Ok->l.length=8->O6 t s->C.c f [.agg t.cells,.agg s.cells,.agg (aQ l)] (.dF [.agg (gP t s l).1.cells,B (gP t s l).2.1,B (gP t s l).2.2]) none
section
variable{P:Program} (hm:P.follows .mixedOrders=true) {f:Nat}
include hm
theorem AU.ok{fR fT fG fS fB:Nat} (hc:bu P f=some (gO fR fT fG fS fB)) (hR:pV.Spec (Pure P) fR) (hT:GY.Spec (Pure P) fT) (hG:AO.Spec (Pure P) fG) (hS:AT.Spec (Pure P) fS) (hB:AP.Spec (Pure P) fB):AU.Spec (Pure P) f:=by
 intro t s l ht hl h
 have hp:=Tb.whole ht
 have ae:=bQ hl
 have hd:=ht.ln.Cv
 have an:=ht.aV
 have e5:=Pr.whole h.held
 have eq:=Mf h.held
 have k8:∀v:Pr,v.held.length=4->setCells [AV.int .i64 0,AV.int .i64 0,AV.int .i64 0,AV.int .i64 0,AV.int .i64 0,AV.int .i64 0,AV.int .i64 0,AV.int .i64 0] 0 v.cells=v.cells:=λv hv=>eI (by rw[Pr.len hv];rfl)
 have ad:=k8 s h.held
 have cR:=hR t s ht h.held
 obtain⟨z1,ag⟩:∃z,(gP t s l).1.cells=z:=⟨_,rfl⟩
 obtain⟨z2,ak⟩:∃z,(gP t s l).2.1=z:=⟨_,rfl⟩
 obtain⟨z3,al⟩:∃z,(gP t s l).2.2=z:=⟨_,rfl⟩
 rw[ag,ak,al]
 have fin:∀a b c,gP t s l=(a,b,c)->z1=a.cells/\z2=b/\z3=c:=by
  intro a b c e;rw[e]at ag ak al;exact⟨ag.symm,ak.symm,al.symm⟩
 have s1:∀v:Int,setCells s.cells 0 [AV.int .i64 v]=({s with aq:=v}:Pr).cells:=λv=>(yM h.held v).1
 have s2:∀v w:Int,setCells ({s with aq:=v}:Pr).cells 1 [AV.int .i64 w]=({s with aq:=v,which:=w}:Pr).cells:=λv w=>(yM (s:=⟨v,s.which,s.time,s.held,s.bF⟩) h.held w).2.1
 have s3:∀v:Int,({s with aq:=v}:Pr).cells.length=8/\aF ({s with aq:=v}:Pr).cells 0 (some 8)=some (.agg ({s with aq:=v}:Pr).cells)/\setCells [AV.int .i64 0,AV.int .i64 0,AV.int .i64 0,AV.int .i64 0,AV.int .i64 0,AV.int .i64 0,AV.int .i64 0,AV.int .i64 0] 0 ({s with aq:=v}:Pr).cells=({s with aq:=v}:Pr).cells:=
  λv=>⟨Pr.len (s:=⟨v,s.which,s.time,s.held,s.bF⟩) h.held,Pr.whole (s:=⟨v,s.which,s.time,s.held,s.bF⟩) h.held,k8 ⟨v,s.which,s.time,s.held,s.bF⟩ h.held⟩
 have s4:∀v w:Int,({s with aq:=v,which:=w}:Pr).cells.length=8/\aF ({s with aq:=v,which:=w}:Pr).cells 0 (some 8)=some (.agg ({s with aq:=v,which:=w}:Pr).cells)/\setCells [AV.int .i64 0,AV.int .i64 0,AV.int .i64 0,AV.int .i64 0,AV.int .i64 0,AV.int .i64 0,AV.int .i64 0,AV.int .i64 0] 0 ({s with aq:=v,which:=w}:Pr).cells=({s with aq:=v,which:=w}:Pr).cells:=
  λv w=>⟨Pr.len (s:=⟨v,w,s.time,s.held,s.bF⟩) h.held,Pr.whole (s:=⟨v,w,s.time,s.held,s.bF⟩) h.held,k8 ⟨v,w,s.time,s.held,s.bF⟩ h.held⟩
 obtain⟨b,hb⟩:∃b,aK t s=b:=⟨_,rfl⟩
 rw[hb]at cR
 have tk:cQ t s=true->z1=({s with aq:=1,which:=b}:Pr).cells/\z2=true/\z3=false:=λe=>fin _ _ _ (by unfold gP;rw[et e,hb])
 have am:Zv (aR t s)=tgt (aR t s):=It h.can
 have cT:=hT (aR t s)
 rw[am]at cT
 have st:s.aq=0\/s.aq=1\/s.aq=2\/s.aq=3\/s.aq=4\/s.aq=5:=by have:=h.Zz;omega
 rcases st with e|e|e|e|e|e
 ·have takeN:cQ t s=(decide (b>=0)&&true):=by unfold cQ;rw[hb,e];simp
  rw[e]at eq
  have A:=cB e5 (cB eq (cB ad (cB hd (cB hp (cB ae (cB s1 (cB s2 (cB s3 (s4)))))))))
  refine aj hm hc [] rfl ?_;try simp only[I,B,D,RY,↓KW,seval,gO,Z.H,A]
  refine af cR ?_
  rcases bc (decide (b>=0))with V|V
  ·obtain⟨O,M,L⟩:=fin s false false (by unfold gP;rw[ek (by rw[takeN,V];decide),et e])
   try simp only[I,B,D,RY,↓KW,seval,V,A]
   rw[O,M,L]
  ·obtain⟨O,M,L⟩:=tk (by rw[takeN,V];rfl)
   try simp only[I,B,D,RY,↓KW,seval,V,A]
   rw[O,M,L]
 ·have takeN:cQ t s=(decide (b>=0)&&decide (b<s.which)):=by unfold cQ;rw[hb,e];simp
  have hW:Wr t s:=⟨h.held,(h.which (by rw[e];decide)).1,(h.which (by rw[e];decide)).2,h.xl⟩
  obtain⟨k,hk,h4,h5,hx⟩:=sD hW
  have nt:cQ t s=false->gP t s l=(if s.aq=5/\(ay t s l).1=0 then({s with aq:=0,which:=0},true,true)else({(ay t s l).2 with aq:=(ay t s l).1},(ay t s l).1 !=s.aq,false)):=λe0=>by
   unfold gP;rw[ek (by rw[e0];decide),ek (by rw[e];decide)]
  have aa:ay t s l=(jG t s l,s):=by unfold ay;simp[e]
  rw[aa]at nt
  have hy:(0<=(k:Int)/\(k:Int)<4)/\(0<=(k:Int)/\(k:Int)<((t.aV.getD []).length:Int)):=ST
  have d1:decide ((k:Int)<0)=false:=kd ST
  have d2:decide ((k:Int)>=((t.aV.getD []).length:Int))=false:=kd ST
  have eE:s={s with aq:=s.aq}:=rfl
  rw[e]at eq;rw[hk]at takeN eq
  have E:jG t s l=if gQ l (aJ .i64 255 (tgt (aR t s)))then(if(aR t s).clear=0 then 4 else 2)else 1:=rfl
  have lz:bk.length=11:=rfl
  obtain⟨r,hr⟩:∃r,aR t s=r:=⟨_,rfl⟩
  rw[hr]at cT hx E
  have qr:r.cells.length=11/\aF r.cells 0 (some 11)=some (.agg r.cells)/\setCells bk 0 r.cells=r.cells/\r.cells[1]? =some (I r.clear)/\r.cells[2]? =some (I r.ep)/\r.cells[3]? =some (I r.exit)/\r.cells[7]? =some (I r.hold):=⟨rfl,rfl,rfl,rfl,rfl,rfl,rfl⟩
  have A:=cB e5 (cB eq (cB ad (cB hd (cB hp (cB ae (cB s1 (cB s2 (cB s3 (cB s4 (cB hy (cB d1 (cB d2 (cB hx (cB qr (lz)))))))))))))))
  refine aj hm hc [] rfl ?_;try simp only[I,B,D,RY,↓KW,seval,gO,Z.H,A]
  refine af cR ?_
  rcases bc (decide (b>=0))with V|V
  ·have nt:=nt (by rw[takeN,V];rfl)
   try simp only[I,B,D,RY,↓KW,seval,V,A,dS,c7]
   refine af cT ?_;try simp only[I,B,D,RY,↓KW,seval,A]
   refine af (hG l _ hl) ?_
   rcases bc (gQ l (aJ .i64 255 (tgt r)))with R|R
   ·rw[R]at E
    have E:jG t s l=1:=E
    rw[E,ek (λhh=>absurd (e.symm.trans hh.1) Ts)]at nt
    obtain⟨O,M,L⟩:=fin s false false (by rw[nt,e];exact Hd (by show({s with aq:=1}:Pr)=s;rw[<-e]) rfl)
    try simp only[I,B,D,RY,↓KW,seval,R,A]
    try(refine af cT ?_;try simp only[I,B,D,RY,↓KW,seval,A])
    try(refine af (hG l _ hl) ?_;try simp only[I,B,D,RY,↓KW,seval,R,A])
    rw[O,M,L]
    try(rw[e];rfl)
    try rfl
   rw[R,et rfl]at E
   rcases bc (r.clear !=0)with c2|c2
   ·have ab:r.clear=0:=by simpa using c2
    rw[et ab]at E
    rw[E,ek (λhh=>absurd (e.symm.trans hh.1) Ts)]at nt
    obtain⟨O,M,L⟩:=fin _ _ _ nt;try simp only[I,B,D,RY,↓KW,seval,R,c2,A]
    try(refine af cT ?_;try simp only[I,B,D,RY,↓KW,seval,A])
    try(refine af (hG l _ hl) ?_;try simp only[I,B,D,RY,↓KW,seval,R,A])
    rw[O,M,L]
    try(rw[e];rfl)
    try rfl
   ·have ab:¬r.clear=0:=by simpa using c2
    rw[ek ab]at E
    rw[E,ek (λhh=>absurd (e.symm.trans hh.1) Ts)]at nt
    obtain⟨O,M,L⟩:=fin _ _ _ nt;try simp only[I,B,D,RY,↓KW,seval,R,c2,A]
    rw[O,M,L]
    try(rw[e];rfl)
    try rfl
  rcases bc (decide (b<(k:Int)))with b2|b2
  ·have nt:=nt (by rw[takeN,V,b2];rfl)
   try simp only[I,B,D,RY,↓KW,seval,V,b2,A,dS,c7]
   refine af cT ?_;try simp only[I,B,D,RY,↓KW,seval,A]
   refine af (hG l _ hl) ?_
   rcases bc (gQ l (aJ .i64 255 (tgt r)))with R|R
   ·rw[R]at E
    have E:jG t s l=1:=E
    rw[E,ek (λhh=>absurd (e.symm.trans hh.1) Ts)]at nt
    obtain⟨O,M,L⟩:=fin s false false (by rw[nt,e];exact Hd (by show({s with aq:=1}:Pr)=s;rw[<-e]) rfl)
    try simp only[I,B,D,RY,↓KW,seval,R,A]
    try(refine af cT ?_;try simp only[I,B,D,RY,↓KW,seval,A])
    try(refine af (hG l _ hl) ?_;try simp only[I,B,D,RY,↓KW,seval,R,A])
    rw[O,M,L]
    try(rw[e];rfl)
    try rfl
   rw[R,et rfl]at E
   rcases bc (r.clear !=0)with c2|c2
   ·have ab:r.clear=0:=by simpa using c2
    rw[et ab]at E
    rw[E,ek (λhh=>absurd (e.symm.trans hh.1) Ts)]at nt
    obtain⟨O,M,L⟩:=fin _ _ _ nt;try simp only[I,B,D,RY,↓KW,seval,R,c2,A]
    try(refine af cT ?_;try simp only[I,B,D,RY,↓KW,seval,A])
    try(refine af (hG l _ hl) ?_;try simp only[I,B,D,RY,↓KW,seval,R,A])
    rw[O,M,L]
    try(rw[e];rfl)
    try rfl
   ·have ab:¬r.clear=0:=by simpa using c2
    rw[ek ab]at E
    rw[E,ek (λhh=>absurd (e.symm.trans hh.1) Ts)]at nt
    obtain⟨O,M,L⟩:=fin _ _ _ nt;try simp only[I,B,D,RY,↓KW,seval,R,c2,A]
    rw[O,M,L]
    try(rw[e];rfl)
    try rfl
  obtain⟨O,M,L⟩:=tk (by rw[takeN,V,b2];rfl)
  try simp only[I,B,D,RY,↓KW,seval,V,b2,A]
  rw[O,M,L]
 ·have takeN:cQ t s=(decide (b>=0)&&decide (b<s.which)):=by unfold cQ;rw[hb,e];simp
  have hW:Wr t s:=⟨h.held,(h.which (by rw[e];decide)).1,(h.which (by rw[e];decide)).2,h.xl⟩
  obtain⟨k,hk,h4,h5,hx⟩:=sD hW
  have nt:cQ t s=false->gP t s l=(if s.aq=5/\(ay t s l).1=0 then({s with aq:=0,which:=0},true,true)else({(ay t s l).2 with aq:=(ay t s l).1},(ay t s l).1 !=s.aq,false)):=λe0=>by
   unfold gP;rw[ek (by rw[e0];decide),ek (by rw[e];decide)]
  have aa:ay t s l=(kJ t s,s):=by unfold ay;simp[e]
  rw[aa]at nt
  have hy:(0<=(k:Int)/\(k:Int)<4)/\(0<=(k:Int)/\(k:Int)<((t.aV.getD []).length:Int)):=ST
  have d1:decide ((k:Int)<0)=false:=kd ST
  have d2:decide ((k:Int)>=((t.aV.getD []).length:Int))=false:=kd ST
  have eE:s={s with aq:=s.aq}:=rfl
  rw[e]at eq;rw[hk]at takeN eq
  have E:kJ t s=if s.time>=(aR t s).hold then 3 else 2:=rfl
  have lz:bk.length=11:=rfl
  obtain⟨r,hr⟩:∃r,aR t s=r:=⟨_,rfl⟩
  rw[hr]at cT hx E
  have qr:r.cells.length=11/\aF r.cells 0 (some 11)=some (.agg r.cells)/\setCells bk 0 r.cells=r.cells/\r.cells[1]? =some (I r.clear)/\r.cells[2]? =some (I r.ep)/\r.cells[3]? =some (I r.exit)/\r.cells[7]? =some (I r.hold):=⟨rfl,rfl,rfl,rfl,rfl,rfl,rfl⟩
  have A:=cB e5 (cB eq (cB ad (cB hd (cB hp (cB ae (cB s1 (cB s2 (cB s3 (cB s4 (cB hy (cB d1 (cB d2 (cB hx (cB qr (lz)))))))))))))))
  refine aj hm hc [] rfl ?_;try simp only[I,B,D,RY,↓KW,seval,gO,Z.H,A]
  refine af cR ?_
  rcases bc (decide (b>=0))with V|V
  ·have nt:=nt (by rw[takeN,V];rfl)
   rcases bc (decide (s.time>=r.hold))with R|R
   ·rw[ek (dE R)]at E
    rw[E,ek (λhh=>absurd (e.symm.trans hh.1) Ts)]at nt
    obtain⟨O,M,L⟩:=fin s false false (by rw[nt,e];exact Hd (by show({s with aq:=2}:Pr)=s;rw[<-e]) rfl)
    try simp only[I,B,D,RY,↓KW,seval,R,V,A,dS,c7]
    rw[O,M,L]
    try(rw[e];rfl)
    try rfl
   ·rw[et (dC R)]at E
    rw[E,ek (λhh=>absurd (e.symm.trans hh.1) Ts)]at nt
    obtain⟨O,M,L⟩:=fin _ _ _ nt;try simp only[I,B,D,RY,↓KW,seval,R,V,A,dS,c7]
    rw[O,M,L]
    try(rw[e];rfl)
    try rfl
  rcases bc (decide (b<(k:Int)))with b2|b2
  ·have nt:=nt (by rw[takeN,V,b2];rfl)
   rcases bc (decide (s.time>=r.hold))with R|R
   ·rw[ek (dE R)]at E
    rw[E,ek (λhh=>absurd (e.symm.trans hh.1) Ts)]at nt
    obtain⟨O,M,L⟩:=fin s false false (by rw[nt,e];exact Hd (by show({s with aq:=2}:Pr)=s;rw[<-e]) rfl)
    try simp only[I,B,D,RY,↓KW,seval,R,V,b2,A,dS,c7]
    rw[O,M,L]
    try(rw[e];rfl)
    try rfl
   ·rw[et (dC R)]at E
    rw[E,ek (λhh=>absurd (e.symm.trans hh.1) Ts)]at nt
    obtain⟨O,M,L⟩:=fin _ _ _ nt;try simp only[I,B,D,RY,↓KW,seval,R,V,b2,A,dS,c7]
    rw[O,M,L]
    try(rw[e];rfl)
    try rfl
  obtain⟨O,M,L⟩:=tk (by rw[takeN,V,b2];rfl)
  try simp only[I,B,D,RY,↓KW,seval,V,b2,A]
  rw[O,M,L]
 ·have takeN:cQ t s=(decide (b>=0)&&decide (b<s.which)):=by unfold cQ;rw[hb,e];simp
  have hW:Wr t s:=⟨h.held,(h.which (by rw[e];decide)).1,(h.which (by rw[e];decide)).2,h.xl⟩
  obtain⟨k,hk,h4,h5,hx⟩:=sD hW
  have nt:cQ t s=false->gP t s l=(if s.aq=5/\(ay t s l).1=0 then({s with aq:=0,which:=0},true,true)else({(ay t s l).2 with aq:=(ay t s l).1},(ay t s l).1 !=s.aq,false)):=λe0=>by
   unfold gP;rw[ek (by rw[e0];decide),ek (by rw[e];decide)]
  have aa:ay t s l=(gZ t s l,s):=by unfold ay;simp[e]
  rw[aa]at nt
  have hy:(0<=(k:Int)/\(k:Int)<4)/\(0<=(k:Int)/\(k:Int)<((t.aV.getD []).length:Int)):=ST
  have d1:decide ((k:Int)<0)=false:=kd ST
  have d2:decide ((k:Int)>=((t.aV.getD []).length:Int))=false:=kd ST
  have eE:s={s with aq:=s.aq}:=rfl
  rw[e]at eq;rw[hk]at takeN eq
  have E:gZ t s l=if gQ l (aJ .i64 255 (aR t s).ep)then 4 else 3:=rfl
  have lz:bk.length=11:=rfl
  obtain⟨r,hr⟩:∃r,aR t s=r:=⟨_,rfl⟩
  rw[hr]at cT hx E
  have qr:r.cells.length=11/\aF r.cells 0 (some 11)=some (.agg r.cells)/\setCells bk 0 r.cells=r.cells/\r.cells[1]? =some (I r.clear)/\r.cells[2]? =some (I r.ep)/\r.cells[3]? =some (I r.exit)/\r.cells[7]? =some (I r.hold):=⟨rfl,rfl,rfl,rfl,rfl,rfl,rfl⟩
  have A:=cB e5 (cB eq (cB ad (cB hd (cB hp (cB ae (cB s1 (cB s2 (cB s3 (cB s4 (cB hy (cB d1 (cB d2 (cB hx (cB qr (lz)))))))))))))))
  refine aj hm hc [] rfl ?_;try simp only[I,B,D,RY,↓KW,seval,gO,Z.H,A]
  refine af cR ?_
  rcases bc (decide (b>=0))with V|V
  ·have nt:=nt (by rw[takeN,V];rfl)
   try simp only[I,B,D,RY,↓KW,seval,V,A,dS,c7]
   refine af (hG l _ hl) ?_
   rcases bc (gQ l (aJ .i64 255 r.ep))with R|R
   ·rw[R]at E
    have E:gZ t s l=3:=E
    rw[E,ek (λhh=>absurd (e.symm.trans hh.1) Ts)]at nt
    obtain⟨O,M,L⟩:=fin s false false (by rw[nt,e];exact Hd (by show({s with aq:=3}:Pr)=s;rw[<-e]) rfl)
    try simp only[I,B,D,RY,↓KW,seval,R,A]
    rw[O,M,L]
    try(rw[e];rfl)
    try rfl
   ·rw[R,et rfl]at E
    rw[E,ek (λhh=>absurd (e.symm.trans hh.1) Ts)]at nt
    obtain⟨O,M,L⟩:=fin _ _ _ nt;try simp only[I,B,D,RY,↓KW,seval,R,A]
    rw[O,M,L]
    try(rw[e];rfl)
    try rfl
  rcases bc (decide (b<(k:Int)))with b2|b2
  ·have nt:=nt (by rw[takeN,V,b2];rfl)
   try simp only[I,B,D,RY,↓KW,seval,V,b2,A,dS,c7]
   refine af (hG l _ hl) ?_
   rcases bc (gQ l (aJ .i64 255 r.ep))with R|R
   ·rw[R]at E
    have E:gZ t s l=3:=E
    rw[E,ek (λhh=>absurd (e.symm.trans hh.1) Ts)]at nt
    obtain⟨O,M,L⟩:=fin s false false (by rw[nt,e];exact Hd (by show({s with aq:=3}:Pr)=s;rw[<-e]) rfl)
    try simp only[I,B,D,RY,↓KW,seval,R,A]
    rw[O,M,L]
    try(rw[e];rfl)
    try rfl
   ·rw[R,et rfl]at E
    rw[E,ek (λhh=>absurd (e.symm.trans hh.1) Ts)]at nt
    obtain⟨O,M,L⟩:=fin _ _ _ nt;try simp only[I,B,D,RY,↓KW,seval,R,A]
    rw[O,M,L]
    try(rw[e];rfl)
    try rfl
  obtain⟨O,M,L⟩:=tk (by rw[takeN,V,b2];rfl)
  try simp only[I,B,D,RY,↓KW,seval,V,b2,A]
  rw[O,M,L]
 ·have takeN:cQ t s=(decide (b>=0)&&decide (b<s.which)):=by unfold cQ;rw[hb,e];simp
  have hW:Wr t s:=⟨h.held,(h.which (by rw[e];decide)).1,(h.which (by rw[e];decide)).2,h.xl⟩
  obtain⟨k,hk,h4,h5,hx⟩:=sD hW
  have nt:cQ t s=false->gP t s l=(if s.aq=5/\(ay t s l).1=0 then({s with aq:=0,which:=0},true,true)else({(ay t s l).2 with aq:=(ay t s l).1},(ay t s l).1 !=s.aq,false)):=λe0=>by
   unfold gP;rw[ek (by rw[e0];decide),ek (by rw[e];decide)]
  have aa:ay t s l=d9 t s:=by unfold ay;simp[e]
  rw[aa]at nt
  have hy:(0<=(k:Int)/\(k:Int)<4)/\(0<=(k:Int)/\(k:Int)<((t.aV.getD []).length:Int)):=ST
  have d1:decide ((k:Int)<0)=false:=kd ST
  have d2:decide ((k:Int)>=((t.aV.getD []).length:Int))=false:=kd ST
  have cS:=hS t s ht e hW
  have eE:s={s with aq:=s.aq}:=rfl
  rw[e]at eq;rw[hk]at takeN eq
  have lz:bk.length=11:=rfl
  obtain⟨r,hr⟩:∃r,aR t s=r:=⟨_,rfl⟩
  rw[hr]at cT hx cS
  have qr:r.cells.length=11/\aF r.cells 0 (some 11)=some (.agg r.cells)/\setCells bk 0 r.cells=r.cells/\r.cells[1]? =some (I r.clear)/\r.cells[2]? =some (I r.ep)/\r.cells[3]? =some (I r.exit)/\r.cells[7]? =some (I r.hold):=⟨rfl,rfl,rfl,rfl,rfl,rfl,rfl⟩
  have A:=cB e5 (cB eq (cB ad (cB hd (cB hp (cB ae (cB s1 (cB s2 (cB s3 (cB s4 (cB hy (cB d1 (cB d2 (cB hx (cB qr (lz)))))))))))))))
  refine aj hm hc [] rfl ?_;try simp only[I,B,D,RY,↓KW,seval,gO,Z.H,A]
  refine af cR ?_
  rcases bc (decide (b>=0))with V|V
  ·have nt:=nt (by rw[takeN,V];rfl)
   try simp only[I,B,D,RY,↓KW,seval,V,A,dS,c7]
   refine af cS ?_
   have ac:(FB t s).held.length=4:=yJ h.held
   have y1:=Pr.len ac
   have y2:=Pr.whole ac
   have y3:=k8 _ ac
   rw[ek (λhh=>absurd (e.symm.trans hh.1) Ts)]at nt
   obtain⟨O,M,L⟩:=fin _ _ _ nt;try simp only[I,B,D,RY,↓KW,seval,y1,y2,y3,A]
   rw[O,M,L]
   try(rw[e];rfl)
   try rfl
  rcases bc (decide (b<(k:Int)))with b2|b2
  ·have nt:=nt (by rw[takeN,V,b2];rfl)
   try simp only[I,B,D,RY,↓KW,seval,V,b2,A,dS,c7]
   refine af cS ?_
   have ac:(FB t s).held.length=4:=yJ h.held
   have y1:=Pr.len ac
   have y2:=Pr.whole ac
   have y3:=k8 _ ac
   rw[ek (λhh=>absurd (e.symm.trans hh.1) Ts)]at nt
   obtain⟨O,M,L⟩:=fin _ _ _ nt;try simp only[I,B,D,RY,↓KW,seval,y1,y2,y3,A]
   rw[O,M,L]
   try(rw[e];rfl)
   try rfl
  obtain⟨O,M,L⟩:=tk (by rw[takeN,V,b2];rfl)
  try simp only[I,B,D,RY,↓KW,seval,V,b2,A]
  rw[O,M,L]
 ·have takeN:cQ t s=(decide (b>=0)&&true):=by unfold cQ;rw[hb,e];simp
  have hW:Wr t s:=⟨h.held,(h.which (by rw[e];decide)).1,(h.which (by rw[e];decide)).2,h.xl⟩
  obtain⟨k,hk,h4,h5,hx⟩:=sD hW
  have nt:cQ t s=false->gP t s l=(if s.aq=5/\(ay t s l).1=0 then({s with aq:=0,which:=0},true,true)else({(ay t s l).2 with aq:=(ay t s l).1},(ay t s l).1 !=s.aq,false)):=λe0=>by
   unfold gP;rw[ek (by rw[e0];decide),ek (by rw[e];decide)]
  have aa:ay t s l=(gF t s l,s):=by unfold ay;simp[e]
  rw[aa]at nt
  have hy:(0<=(k:Int)/\(k:Int)<4)/\(0<=(k:Int)/\(k:Int)<((t.aV.getD []).length:Int)):=ST
  have d1:decide ((k:Int)<0)=false:=kd ST
  have d2:decide ((k:Int)>=((t.aV.getD []).length:Int))=false:=kd ST
  have eE:s={s with aq:=s.aq}:=rfl
  rw[e]at eq;rw[hk]at eq
  have E:gF t s l=if gQ l (aJ .i64 255 (aR t s).exit)&&Da (aR t s).exit (λp=>iI t (aE l p))then 0 else 5:=rfl
  have lz:bk.length=11:=rfl
  obtain⟨r,hr⟩:∃r,aR t s=r:=⟨_,rfl⟩
  rw[hr]at cT hx E
  have qr:r.cells.length=11/\aF r.cells 0 (some 11)=some (.agg r.cells)/\setCells bk 0 r.cells=r.cells/\r.cells[1]? =some (I r.clear)/\r.cells[2]? =some (I r.ep)/\r.cells[3]? =some (I r.exit)/\r.cells[7]? =some (I r.hold):=⟨rfl,rfl,rfl,rfl,rfl,rfl,rfl⟩
  have A:=cB e5 (cB eq (cB ad (cB hd (cB hp (cB ae (cB s1 (cB s2 (cB s3 (cB s4 (cB hy (cB d1 (cB d2 (cB hx (cB qr (lz)))))))))))))))
  refine aj hm hc [] rfl ?_;try simp only[I,B,D,RY,↓KW,seval,gO,Z.H,A]
  refine af cR ?_
  rcases bc (decide (b>=0))with V|V
  ·have nt:=nt (by rw[takeN,V];rfl)
   try simp only[I,B,D,RY,↓KW,seval,V,A,dS,c7]
   refine af (hG l _ hl) ?_
   rcases bc (gQ l (aJ .i64 255 r.exit))with R|R
   ·rw[R]at E
    have E:gF t s l=5:=E
    rw[E,ek (λhh=>absurd (show(5:Int)=0 from hh.2) Ts)]at nt
    obtain⟨O,M,L⟩:=fin s false false (by rw[nt,e];exact Hd (by show({s with aq:=5}:Pr)=s;rw[<-e]) rfl)
    try simp only[I,B,D,RY,↓KW,seval,R,A]
    rw[O,M,L]
    try(rw[e];rfl)
    try rfl
   rw[R,kt]at E;try simp only[I,B,D,RY,↓KW,seval,R,A]
   refine af (hB t l _ ht hl) ?_
   rcases bc (Da r.exit λp=>iI t (aE l p))with c2|c2
   ·rw[c2]at E
    have E:gF t s l=5:=E
    rw[E,ek (λhh=>absurd (show(5:Int)=0 from hh.2) Ts)]at nt
    obtain⟨O,M,L⟩:=fin s false false (by rw[nt,e];exact Hd (by show({s with aq:=5}:Pr)=s;rw[<-e]) rfl)
    try simp only[I,B,D,RY,↓KW,seval,c2,A]
    rw[O,M,L]
    try(rw[e];rfl)
    try rfl
   ·rw[c2,et rfl]at E
    rw[E,et ⟨e,rfl⟩]at nt;obtain⟨O,M,L⟩:=fin _ _ _ nt;try simp only[I,B,D,RY,↓KW,seval,c2,A]
    rw[O,M,L]
  obtain⟨O,M,L⟩:=tk (by rw[takeN,V];rfl)
  try simp only[I,B,D,RY,↓KW,seval,V,A]
  rw[O,M,L]
end
section
variable (t:Tb) (s:Pr) (lines:Int) (l:List Rn)
theorem Kw{t:Tb} {s:Pr} (h:aK t s>=0):aK t s<(nR t:Int):=by
 rcases BQ t s with e|e
 ·omega
 ·exact e.2
theorem ZA{t:Tb} {s:Pr} {l:List Rn} (h:O6 t s):(gP t s l).1.held.length=4/\(0<=(gP t s l).1.aq/\(gP t s l).1.aq<6)/\((gP t s l).1.aq≠0->Wr t (gP t s l).1):=by
 have O:nR t=(t.aV.getD []).length:=by have:=h.xl;unfold nR;omega
 unfold gP;split
 ·rename_i hk
  have B:aK t s>=0:=by
   unfold cQ at hk;simp only[ed,gc]at hk;exact hk.1
  have:=Kw B
  exact⟨h.held,⟨(by decide:(0:Int)<=1),(by decide:(1:Int)<6)⟩,λ_=>⟨h.held,B,by show aK t s<_;omega,h.xl⟩⟩
 split
 ·rename_i D
  exact⟨h.held,h.Zz,λA=>absurd D A⟩
 rename_i D;split
 ·exact⟨h.held,⟨(by decide:(0:Int)<=0),(by decide:(0:Int)<6)⟩,λA=>absurd rfl A⟩
 have M:=j5 t s l
 have A:=mE (t:=t) (l:=l) h.held
 have L:=h.which D
 refine⟨A,M,λ_=>⟨A,?_⟩⟩
 have:(ay t s l).2.which=s.which\/((ay t s l).2.which>=0/\(ay t s l).2.which<(nR t:Int)):=by
  unfold ay
  repeat' split
  all_goals first|exact .inl rfl|skip
  unfold d9
  have E:(dD t s).which=s.which:=by unfold dD;split<;>rfl
  split
  ·exact .inl rfl
  split
  ·rename_i B
   exact .inr ⟨B,Kw B⟩
  ·exact .inl E
 show 0<=(ay t s l).2.which/\(ay t s l).2.which<_/\_
 rcases this with e|e
 ·rw[e];exact⟨L.1,L.2,h.xl⟩
 ·exact⟨e.1,ST,h.xl⟩
def ni:Pr:=
 let u:=gP t (bG t s lines) l
 {u.1 with time:=if u.2.1||u.1.aq==0 then 0 else if Is t u.1 l then bz s.time else u.1.time}
def FC:Ac:=
 let r:=aR t s
 if s.aq=1 then⟨0,kH (aJ .i64 (ez l 8) (Zv r)) (AN l r.green r.dZ),A8 λp=>nw (aE l p)&& !bD (Zv r) p,false,false⟩
 else if s.aq=3 then⟨0,kH (aJ .i64 (ez l 8) r.ep) (AN l 0 r.dZ),A8 λp=>nw (aE l p)&& !bD r.ep p,false,false⟩
 else if s.aq=2 then⟨su t l r.clear,0,0,false,false⟩
 else if s.aq=4 then⟨su t l r.ep,0,0,false,false⟩
 else⟨0,kH (aJ .i64 (ez l 8) r.exit) (GX t l),0,false,false⟩
def xR:Ac:=
 let w:=bG t s lines
 if(gP t w l).2.2 then⟨bK .i64 (bK .i64 (aR t w).exit 255) (yL l),0,0,false,true⟩
 else if(ni t s lines l).aq=0 then⟨0,0,0,true,false⟩
 else FC t (ni t s lines l) l
def AW.Spec(C:aY) (f:Nat):Prop:=∀(t:Tb) (s:Pr) (lines:Int) (l:List Rn),t.Ok->l.length=8->s.held.length=4->O6 t (bG t s lines)->C.c f [.agg t.cells,.agg s.cells,I lines,.agg (aQ l)] (.dF [.agg (ni t s lines l).cells,.agg (xR t s lines l).cells]) none
end
section
variable{P:Program} (hm:P.follows .mixedOrders=true) {f:Nat}
include hm
theorem AW.ok{fL fT fC fM fR fO fG fU fB fV:Nat} (hc:bu P f=some (xx fL fT fC fM fR fO fG fU fB fV)) (hL:uJ.Spec (Pure P) fL) (hT:AU.Spec (Pure P) fT) (hC:rj.Spec (Pure P) fC) (hM:sg.Spec (Pure P) fM) (hR:vl.Spec (Pure P) fR) (hO:GY.Spec (Pure P) fO) (hG:AQ.Spec (Pure P) fG) (hU:AR.Spec (Pure P) fU) (hB:qZ.Spec (Pure P) fB) (hV:ri.Spec (Pure P) fV):AW.Spec (Pure P) f:=by
 intro t s lines l ht hl aa h
 have hp:=Tb.whole ht
 have an:=bQ hl
 have hd:=ht.ln.Cv
 have au:=ht.aV
 have e5:=Pr.whole aa
 have eq:=Mf aa
 have k8:∀v:Pr,v.held.length=4->setCells [AV.int .i64 0,AV.int .i64 0,AV.int .i64 0,AV.int .i64 0,AV.int .i64 0,AV.int .i64 0,AV.int .i64 0,AV.int .i64 0] 0 v.cells=v.cells:=λv hv=>eI (by rw[Pr.len hv];rfl)
 have kA:∀a:Ac,a.cells.length=5/\setCells [AV.int .i64 0,AV.int .i64 0,AV.int .i64 0,AV.bool false,AV.bool false] 0 a.cells=a.cells/\aF a.cells 0 (some 5)=some (.agg a.cells):=λa=>⟨rfl,rfl,rfl⟩
 have cL:=hL t s lines ht aa
 have cT:=hT t (bG t s lines) l ht hl h
 obtain⟨o4,ae,ac⟩:=ZA (l:=l) h
 have O:ni t s lines l={(gP t (bG t s lines) l).1 with time:=if(gP t (bG t s lines) l).2.1||(gP t (bG t s lines) l).1.aq==0 then 0 else if Is t (gP t (bG t s lines) l).1 l then bz s.time else(gP t (bG t s lines) l).1.time}:=rfl
 have E:xR t s lines l=if(gP t (bG t s lines) l).2.2 then⟨bK .i64 (bK .i64 (aR t (bG t s lines)).exit 255) (yL l),0,0,false,true⟩else if(ni t s lines l).aq=0 then⟨0,0,0,true,false⟩else FC t (ni t s lines l) l:=rfl
 have ag:(gP t (bG t s lines) l).2.2=true->(bG t s lines).aq=5:=by
  unfold gP;split
  ·intro hh;cases hh
  split
  ·intro hh;cases hh
  split
  ·rename_i h5;intro _;exact h5.1
  ·intro hh;cases hh
 have ao:(bG t s lines).aq≠0->Wr t (bG t s lines):=λh0=>⟨h.held,(h.which h0).1,(h.which h0).2,h.xl⟩
 have ew:=Mf h.held
 have w1:=Pr.whole h.held
 have w2:=k8 _ h.held
 generalize xR t s lines l=AB at*;generalize ni t s lines l=RT at*;generalize bG t s lines=w at*;generalize gP t w l=u at*;obtain⟨o,tn,ov⟩:=u
 have oq:=Mf o4
 have ow:=Pr.whole o4
 have oz:=k8 _ o4
 have A:=cB e5 (cB eq (cB hd (cB hp (cB an (cB ew (cB w1 (cB w2 (cB oq (cB ow (oz))))))))))
 refine aj hm hc [0] rfl ?_;try simp only[I,B,D,RY,↓KW,seval,xx,Z.H,A]
 refine af cL ?_;try simp only[I,B,D,RY,↓KW,seval,A]
 refine af cT ?_;try simp only[I,B,D,RY,↓KW,seval,A]
 have O:RT={o with time:=if tn||o.aq==0 then 0 else if Is t o l then bz s.time else o.time}:=O
 have E:AB=if ov then⟨bK .i64 (bK .i64 (aR t w).exit 255) (yL l),0,0,false,true⟩else if RT.aq=0 then⟨0,0,0,true,false⟩else FC t RT l:=E
 have ts:=λv=>(yM o4 v).2.2.1
 apply yK (λ_:Unit=>(⟨[(13,.dat (B ov) none),(11,.ptr 23 0),(4,.ptr 4 0),(10,.ptr 13 0),(7,.ptr 6 0),(8,.ptr 7 0),(9,.ptr 8 0)],[(4,⟨t.cells,[]⟩),(6,⟨aQ l,[]⟩),(7,⟨[AV.int .i64 0,AV.int .i64 0,AV.int .i64 0,AV.int .i64 0,AV.int .i64 0,AV.int .i64 0,AV.int .i64 0,AV.int .i64 0],[]⟩),(8,⟨[AV.int .i64 0,AV.int .i64 0,AV.int .i64 0,AV.bool false,AV.bool false],[]⟩),(13,⟨w.cells,[]⟩),(23,⟨RT.cells,[]⟩)],[],90⟩:S)) (λ_=>True)
 ·intro back
  rcases bc tn with a1|a1
  rotate_left
  ·have e:RT={o with time:=0}:=by rw[O,a1];rfl
   have V:=ts 0
   rw[<-e]at V;try simp only[I,B,D,RY,↓KW,seval,a1,V,A]
   refine back () _ trivial ?_
   refine ai Ts ?_ ?_ ?_ ?_<;>simp[LX,I,B,D,V]
  rcases bc (o.aq==0)with R|R
  rotate_left
  ·have e:RT={o with time:=0}:=by rw[O,a1,R];rfl
   have V:=ts 0
   rw[<-e]at V;try simp only[I,B,D,RY,↓KW,seval,a1,R,V,A]
   refine back () _ trivial ?_
   refine ai Ts ?_ ?_ ?_ ?_<;>simp[LX,I,B,D,V]
  have cC:=hC t o l ht hl (ac (by simpa using R))
  try simp only[I,B,D,RY,↓KW,seval,a1,R,A]
  refine af cC ?_
  rcases bc (Is t o l)with a3|a3
  ·have e:RT=o:=by rw[O,a1,R,a3];rfl
   try simp only[I,B,D,RY,↓KW,seval,a3]
   refine back () _ trivial ?_
   refine ai Ts ?_ ?_ ?_ ?_<;>simp[LX,I,B,D,e]
  ·have e:RT={o with time:=bz s.time}:=by rw[O,a1,R,a3];rfl
   have V:=ts (bz s.time)
   rw[<-e]at V;try simp only[I,B,D,RY,↓KW,seval,a3,A]
   refine af (hM _) ?_;try simp only[I,B,D,RY,↓KW,seval,V,A]
   refine back () _ trivial ?_
   refine ai Ts ?_ ?_ ?_ ?_<;>simp[LX,I,B,D,V]
 rintro _ _
 have r4:RT.held.length=4:=by rw[O];exact o4
 have ab:RT.aq=o.aq:=by rw[O]
 have ad:RT.which=o.which:=by rw[O]
 have am:RT.aq≠0->Wr t RT:=λh0=>by
  have:=ac (by rw[<-ab];exact h0)
  exact⟨r4,by rw[ad];exact this.2.1,by rw[ad];exact this.2.2.1,this.2.2.2⟩
 have ar:0<=RT.aq/\RT.aq<6:=by rw[ab];exact ae
 have rq:=Mf r4
 have al:=Pr.whole r4
 have rz:=k8 _ r4
 clear O
 have L:=cB rq (cB al (rz))
 try simp only[I,B,D,RY,↓KW,seval,A]
 rcases bc ov with a1|a1
 rotate_left
 ·have h5:=ag a1
  obtain⟨k,hk,h4,ak,hx⟩:=sD (ao (by rw[h5];decide))
  have hy:(0<=(k:Int)/\(k:Int)<((t.aV.getD []).length:Int)):=ST
  rw[a1,et rfl]at E
  obtain⟨r,hr⟩:∃r,aR t w=r:=⟨_,rfl⟩
  rw[hr]at hx E
  have qr:r.cells.length=11/\r.cells[3]? =some (I r.exit):=⟨rfl,rfl⟩
  try simp only[I,B,D,RY,↓KW,seval,a1,A,L]
  refine mT (by rfl) ?_
  try simp only[I,B,D,RY,↓KW,seval,hk,hx,hy,qr,c7,Rl.cells,A,L]
  refine af (hR l hl) ?_;try simp only[I,B,D,RY,↓KW,seval,A,L]
  rw[E]
  try rfl
 rw[a1,ek Ts]at E
 try simp only[I,B,D,RY,↓KW,seval,a1,A,L]
 rcases bc (RT.aq==0)with R|R
 rotate_left
 ·rw[et (by simpa using R)]at E
  try simp only[I,B,D,RY,↓KW,seval,R,A,L]
  try(refine mT (by rfl) ?_)
  try simp only[I,B,D,RY,↓KW,seval,R,A,L]
  rw[E]
  try rfl
 have h0:RT.aq≠0:=by simpa using R
 rw[ek h0]at E
 obtain⟨k,hk,h4,ak,hx⟩:=sD (am h0)
 have hy:(0<=(k:Int)/\(k:Int)<((t.aV.getD []).length:Int)):=ST
 have d1:decide ((k:Int)<0)=false:=kd ST
 have d2:decide ((k:Int)>=((t.aV.getD []).length:Int))=false:=kd ST
 obtain⟨r,hr⟩:∃r,aR t RT=r:=⟨_,rfl⟩
 unfold FC at E;simp only[hr]at E;rw[hr]at hx
 have lz:bk.length=11:=rfl
 have qr:r.cells.length=11/\aF r.cells 0 (some 11)=some (.agg r.cells)/\setCells bk 0 r.cells=r.cells/\r.cells[1]? =some (I r.clear)/\r.cells[2]? =some (I r.ep)/\r.cells[3]? =some (I r.exit)/\r.cells[5]? =some (I r.green)/\r.cells[6]? =some (I r.dZ):=⟨rfl,rfl,rfl,rfl,rfl,rfl,rfl,rfl⟩
 have M:=cB hx (cB hy (cB d1 (cB d2 (cB lz (cB qr (hk))))))
 try simp only[I,B,D,RY,↓KW,seval,R,M,A,L,dS,c7]
 rcases bc (RT.aq==1)with c1|c1
 rotate_left
 ·rw[et (by simpa using c1)]at E
  try simp only[I,B,D,RY,↓KW,seval,c1,M,A,L]
  refine mT (by rfl) ?_
  try simp only[I,B,D,RY,↓KW,seval,M,A,L]
  refine af (hO r) ?_;try simp only[I,B,D,RY,↓KW,seval,M,A,L]
  refine af (hG l _ _ _ hl) ?_;try simp only[I,B,D,RY,↓KW,seval,M,A,L]
  refine af (hO r) ?_;try simp only[I,B,D,RY,↓KW,seval,M,A,L]
  refine af (hU l _ hl) ?_;try simp only[I,B,D,RY,↓KW,seval,M,A,L]
  rw[E]
  try rfl
 rw[ek (by simpa using c1)]at E
 rcases bc (RT.aq==3)with c2|c2
 rotate_left
 ·rw[et (by simpa using c2)]at E
  try simp only[I,B,D,RY,↓KW,seval,c1,c2,M,A,L]
  refine mT (by rfl) ?_
  try simp only[I,B,D,RY,↓KW,seval,M,A,L]
  refine af (hG l _ _ _ hl) ?_;try simp only[I,B,D,RY,↓KW,seval,M,A,L]
  refine af (hU l _ hl) ?_;try simp only[I,B,D,RY,↓KW,seval,M,A,L]
  rw[E]
  try rfl
 rw[ek (by simpa using c2)]at E
 rcases bc (RT.aq==2)with c3|c3
 rotate_left
 ·rw[et (by simpa using c3)]at E
  try simp only[I,B,D,RY,↓KW,seval,c1,c2,c3,M,A,L]
  refine af (hB t l _ ht hl) ?_;try simp only[I,B,D,RY,↓KW,seval,M,A,L]
  rw[E]
  try rfl
 rw[ek (by simpa using c3)]at E
 rcases bc (RT.aq==4)with c4|c4
 rotate_left
 ·rw[et (by simpa using c4)]at E
  try simp only[I,B,D,RY,↓KW,seval,c1,c2,c3,c4,M,A,L]
  refine af (hB t l _ ht hl) ?_;try simp only[I,B,D,RY,↓KW,seval,M,A,L]
  rw[E]
  try rfl
 rw[ek (by simpa using c4)]at E
 try simp only[I,B,D,RY,↓KW,seval,c1,c2,c3,c4,M,A,L]
 refine af (hV t l _ ht hl) ?_;try simp only[I,B,D,RY,↓KW,seval,M,A,L]
 rw[E]
 try rfl
end
section
variable (t:Tb) (C:aY) (r:ff) {i k:Nat} {row:List Int} {x:Sp} (f:Nat) (g:Int) (l:List Int) (p:Int)
theorem vI{α:Type} (q g:α->Bool) (h:∀x,q x=true->g x=true):∀l:List α,l.find? q=(l.filter g).find? q
 |[]=>rfl
 |x::l=>by
  rw[In,H2];cases A:q x
  ·cases B:g x
   ·simp only[ev,ib];exact vI q g h l
   ·simp only[kh,In,A];exact vI q g h l
  ·simp only[h x A,kh,In,A]
theorem pZ{g:Nat} (h:x∈aW g k row):x.ring=k:=by
 simp only[aW,xv]at h;obtain⟨⟨p,i⟩,_,h⟩:=h;simp only at h;split at h
 ·cases h;rfl
 ·cases h
theorem Iu(A:Gr) (g:Nat) (hk:k<2):(bP A g 2).filter (λx=>x.ring==(k:Int))=aW g k ((A.row k).getD []):=by
 have e:bP A g 2=aW g 0 ((A.row 0).getD [])++aW g 1 ((A.row 1).getD []):=by
  rw[dI,dI];rfl
 have B:∀j,(aW g j ((A.row j).getD [])).filter (λx=>x.ring==(j:Int))=aW g j ((A.row j).getD []):=λj=>by
  rw[List.filter_eq_self];intro x E;rw[pZ E];simp
 have D:∀i j:Nat,i≠j->(aW g i ((A.row i).getD [])).filter (λx=>x.ring==(j:Int))=[]:=λi j L=>by
  rw[QP];intro x E;rw[pZ E];simp;omega
 rw[e,rf]
 have:k=0\/k=1:=ST
 rcases this with rfl|rfl
 ·rw[B 0,D 1 0 Ts,py]
 ·rw[B 1,D 0 1 Ts,kx]
theorem O7{g:Nat} (L:g<(t.groups.getD []).length) (hk:k<2):((aS t).filter λx=>x.group==(g:Int)&&x.ring==(k:Int))=aW g k ((eM t g k).getD []):=by
 obtain⟨D,A⟩:∃x,(t.groups.getD [])[g]? =some x:=⟨_,dT L⟩
 have B:eM t g k=D.row k:=by
  unfold eM
  rw[ek ST,ix,ix,eh,A];rfl
 rw[B,<-Iu D g hk]
 have E:=od A _ (ia _)
 rw[et L]at E;rw[<-E,List.filter_filter,aS]
 congr 1
 funext x
 exact Bool.and_comm _ _
theorem Sr(h:g<0\/((t.groups.getD []).length:Int)<=g):((aS t).filter λx=>x.group==g)=[]:=by
 rw[QP];intro x A
 have:=BL A
 simp;omega
theorem GZ{t:Tb} (h:x∈aS t):0<=x.ring/\x.ring<2:=by
 simp only[aS,cm,sT]at h;obtain⟨⟨A,g⟩,_,h⟩:=h;simp only[bP,sT,fp]at h;obtain⟨k,hk,h⟩:=h
 have:=pZ h
 omega
def fh(g k:Nat) (row:List Int) (j:Nat):Sp:=⟨g,k,j,row.getD j 0⟩
theorem Kx(g k:Nat) (row:List Int) (q:Sp->Bool):∀i,i<=row.length->(aW g k (row.take i)).find? q=((List.range i).find? λj=>(decide (0<=row.getD j 0)&&decide (row.getD j 0<8))&&q (fh g k row j)).map (fh g k row)
 |0,_=>by simp[aW]
 |i+1,h=>by
  obtain⟨x,E⟩:∃x,row[i]? =some x:=⟨_,dT ST⟩
  have hd:row.getD i 0=x:=by rw[eh,E];rfl
  have M:(⟨g,k,i,x⟩:Sp)=fh g k row i:=by rw[fh,hd]
  have D:=Kx g k row q i ST
  have L:=iG (g:=g) (k:=k) E
  rw[io,Os]
  by_cases B:0<=x/\x<8
  ·rw[L.1 B,Os,D,M]
   cases(List.range i).find? λj=>(decide (0<=row.getD j 0)&&decide (row.getD j 0<8))&&q (fh g k row j)with
   |some j=>rfl
   |none=>
    have A:(decide (0<=row.getD i 0)&&decide (row.getD i 0<8))=true:=by rw[hd];simp[B.1,B.2]
    simp only[Id,Option.none_or,In,List.find?_nil,A,kt]
    cases q (fh g k row i)<;>rfl
  ·rw[L.2 B,D]
   have A:(decide (0<=row.getD i 0)&&decide (row.getD i 0<8))=false:=by rw[hd];simp;omega
   cases(List.range i).find? λj=>(decide (0<=row.getD j 0)&&decide (row.getD j 0<8))&&q (fh g k row j)with
   |some j=>rfl
   |none=>simp only[Option.none_or,In,List.find?_nil,A,mn]
theorem G0{g:Nat} (A:g<(t.groups.getD []).length) (hk:k<2) {q:Sp->Bool} (D:∀x,q x=true->x.group=g/\x.ring=k):
  (aS t).find? q=((List.range ((eM t g k).getD []).length).find? λj=>(decide (0<=((eM t g k).getD []).getD j 0)&&decide (((eM t g k).getD []).getD j 0<8))&&q (fh g k ((eM t g k).getD []) j)).map (fh g k ((eM t g k).getD [])):=by
 have h:=Kx g k ((eM t g k).getD []) q _ (ia _)
 rw[gn]at h;rw[<-h,<-O7 t A hk]
 refine vI q _ (λx B=>?_) _
 have:=D x B
 simp[this.1,this.2]
def Ky(r A want:Int):Int:=match(aS t).find? (λx=>x.group==g&&x.ring==r&&decide (x.pos>A)&&bD want x.p)with
 |some x=>x.pos
 |none=>-1
theorem VT(r B want:Int):Ky t g r B want=SY t g r B want:=by
 by_cases E:g<0\/((t.groups.getD []).length:Int)<=g\/r<0\/1<r
 ·have M:(aS t).find? (λx=>x.group==g&&x.ring==r&&decide (x.pos>B)&&bD want x.p)=none:=by
   rw[mf];intro x D
   have R:=BL D
   have O:=GZ D
   simp only[ed,kb,not_and,xi];intro V;omega
  unfold Ky SY eM;rw[M,et E];rfl
 ·obtain⟨A,rfl⟩:∃n:Nat,g=n:=⟨g.toNat,ST⟩
  obtain⟨k,rfl⟩:∃n:Nat,r=n:=⟨r.toNat,ST⟩
  unfold Ky
  rw[G0 t (g:=A) (k:=k) ST ST (λx D=>by simp only[ed,kb]at D;exact D.1.1)]
  have L:(λj=>(decide (0<=((eM t A k).getD []).getD j 0)&&decide (((eM t A k).getD []).getD j 0<8))&&((fh A k ((eM t A k).getD []) j).group==(A:Int)&&(fh A k ((eM t A k).getD []) j).ring==(k:Int)&&decide ((fh A k ((eM t A k).getD []) j).pos>B)&&bD want (fh A k ((eM t A k).getD []) j).p))=SX t A k B want:=by
   funext j
   simp only[fh,SX,ns,kt];cases h:bD want (((eM t A k).getD []).getD j 0)
   ·simp
   ·have:=Nm h
    rw[na this.1,na this.2];simp
  rw[L];unfold SY
  cases(List.range ((eM t A k).getD []).length).find? (SX t A k B want)<;>rfl
def VU(k:Int):Int:=if k<0\/1<k then -1 else match(aS t).find? (λx=>x.group==r.group&&x.ring==k&&x.pos==r.at k)with
 |some x=>x.p
 |none=>-1
theorem ZB(k:Int):VU t r k=kK t r k:=by
 unfold VU kK
 by_cases hk:k<0\/1<k
 ·rw[et hk,et hk]
 rw[ek hk,ek hk];generalize r.at k=pl;generalize r.group=g;unfold nh
 by_cases M:g<0\/((t.groups.getD []).length:Int)<=g\/k<0\/1<k
 ·have D:(aS t).find? (λx=>x.group==g&&x.ring==k&&x.pos==pl)=none:=by
   rw[mf];intro x L
   have h1:=BL L
   have h2:=GZ L
   simp only[ed,kb,not_and,xi];intro h3;omega
  rw[D,et M]
 ·rw[ek M]
  obtain⟨B,rfl⟩:∃n:Nat,g=n:=⟨g.toNat,ST⟩
  obtain⟨A,rfl⟩:∃n:Nat,k=n:=⟨k.toNat,ST⟩
  rw[G0 t (g:=B) (k:=A) ST ST (λx L=>by simp only[ed,kb]at L;exact L.1)]
  generalize(eM t B A).getD []=row
  by_cases O:pl<0\/(row.length:Int)<=pl
  ·rw[et O]
   have D:(List.range row.length).find? (λj=>(decide (0<=row.getD j 0)&&decide (row.getD j 0<8))&&((fh B A row j).group==(B:Int)&&(fh B A row j).ring==(A:Int)&&(fh B A row j).pos==pl))=none:=by
    rw[mf];intro j R
    have:=fp.1 R
    have:(((j:Nat):Int)==pl)=false:=by simp;omega
    simp[fh,this]
   rw[D];rfl
  ·rw[ek O]
   obtain⟨n,rfl⟩:∃n:Nat,pl=n:=⟨pl.toNat,ST⟩
   have Z:n<row.length:=ST
   simp only[ix]
   by_cases E:0<=row.getD n 0/\row.getD n 0<8
   ·rw[et E]
    have D:(List.range row.length).find? (λj=>(decide (0<=row.getD j 0)&&decide (row.getD j 0<8))&&((fh B A row j).group==(B:Int)&&(fh B A row j).ring==(A:Int)&&(fh B A row j).pos==(n:Int)))=some n:=by
     refine lS (kr Z) ?_ (λy V=>?_)
     ·rw[na E.1,na E.2];simp[fh]
     ·rw[yr]at V
      have:=fp.1 V
      have:(((y:Nat):Int)==(n:Int))=false:=by simp;omega
      simp[fh,this]
    rw[D];rfl
   ·rw[ek E]
    have D:(List.range row.length).find? (λj=>(decide (0<=row.getD j 0)&&decide (row.getD j 0<8))&&((fh B A row j).group==(B:Int)&&(fh B A row j).ring==(A:Int)&&(fh B A row j).pos==(n:Int)))=none:=by
     rw[mf];intro j R
     by_cases e:j=n
     ·subst e
      have:(decide (0<=row.getD j 0)&&decide (row.getD j 0<8))=false:=by rw[<-Bool.decide_and];exact kd E
      rw[this,mn];decide
     ·have:(((j:Nat):Int)==(n:Int))=false:=by simp;omega
      simp[fh,this]
    rw[D];rfl
def ZC:Int:=SU (((aS t).filter λx=>x.group==g).map Sp.p)
theorem VV(A:i<8):tb (jt p) i=decide ((i:Int)=p):=by
 by_cases h:p<0\/8<=p
 ·have e:jt p=0:=by unfold jt;rw[et h]
  rw[e,dr,kd ST]
 ·obtain⟨n,rfl⟩:∃n:Nat,p=n:=⟨p.toNat,ST⟩
  rw[Ev ST]
  have:(i=n)↔((i:Int)=(n:Int)):=ST
  simp[this]
theorem VW(B:i<8):∀s,tb (l.foldl (λs p=>rP .i64 s (jt p)) s) i=(tb s i||decide ((i:Int)∈l)):=by
 induction l with
 |nil=>intro s;simp
 |cons p l A=>
  intro s;rw[p7,A,Cy,VV p B,Bool.or_assoc]
  congr 1
  simp[mp]
theorem Ss(A:i<8):tb (SW l) i=decide ((i:Int)∈l):=by
 rw[SW,VW l A,dr,nz]
theorem Kz:Can (jt p):=by
 by_cases h:p<0\/8<=p
 ·have e:jt p=0:=by unfold jt;rw[et h]
  rw[e];exact⟨Ts,Ts⟩
 ·have:p=0\/p=1\/p=2\/p=3\/p=4\/p=5\/p=6\/p=7:=ST
  rcases this with rfl|rfl|rfl|rfl|rfl|rfl|rfl|rfl<;>exact⟨Ts,Ts⟩
theorem Nz:Can (SW l):=by
 have:∀s,Can s->Can (l.foldl (λs p=>rP .i64 s (jt p)) s):=by
  induction l with
  |nil=>intro s h;exact h
  |cons p l A=>intro s h;exact A _ (EL h (Kz p))
 exact this 0 ⟨Ts,Ts⟩
theorem Iv{g:Nat} (D:i<8):(i:Int)∈(aW g k row).map Sp.p↔(i:Int)∈row:=by
 simp only[aW,i8,xv];constructor
 ·rintro⟨x,⟨⟨p,j⟩,hm,h⟩,A⟩
  simp only at h;split at h
  ·cases h
   have:=List.fst_mem_of_mem_zipIdx hm
   simp only at A this;rw[<-A];exact this
  ·cases h
 ·intro h
  obtain⟨j,B⟩:=List.getElem?_of_mem h
  refine⟨⟨g,k,j,i⟩,⟨((i:Int),j),?_,?_⟩,rfl⟩
  ·rw[List.mem_zipIdx_iff_getElem?];exact B
  ·simp only;rw[et ST]
theorem ZD:ZC t g=SZ t g:=by
 refine iM (Dl _) (EL (Nz _) (Nz _)) λi E=>?_
 rw[ZC,Gz,SZ,Cy,Ss _ E,Ss _ E,na E,kt,<-Bool.decide_or]
 by_cases M:g<0\/((t.groups.getD []).length:Int)<=g
 ·rw[Sr t g M]
  have e:∀k,eM t g k=none:=λk=>et ST
  rw[e,e];simp
 ·obtain⟨B,rfl⟩:∃n:Nat,g=n:=⟨g.toNat,ST⟩
  obtain⟨L,D⟩:∃x,(t.groups.getD [])[B]? =some x:=⟨_,dT ST⟩
  have A:∀k:Nat,k<2->eM t B k=L.row k:=λk hk=>by
   unfold eM
   rw[ek ST,ix,ix,eh,D];rfl
  have O:=od D _ (ia _)
  rw[et ST]at O
  have R:=A 0 ST
  have V:=A 1 ST
  rw[show(aS t).filter (λx=>x.group==(B:Int))=bP L B 2 from O,dI,dI,show eM t B 0=_ from R,show eM t B 1=_ from V]
  have Z:bP L B 0=[]:=rfl
  rw[Z,kx,my];simp only[il,Iv E]
def BR(q:Int):Bool:=(az t p).2&&Z7 t r (az t p).1.ring q
def vJ.Spec:Prop:=∀(t:Tb) (r:ff) (p q:Int),t.Ok->C.c f [.agg t.cells,.agg r.cells,I p,I q] (B (BR t r p q)) none
def vK.Spec:Prop:=∀(t:Tb) (r:Rn) (p:Nat) (want:Int),t.Ok->p<8->C.c f [.agg t.cells,.agg r.cells,I p,I want] (B (BD (aO t p) r&& !bD want p)) none
def AX(i:Nat):List Int:=(((aS t).take i).filter λx=>x.group==g).map Sp.p
theorem O8{t:Tb} {g:Int} (h:(aS t)[i]? =some x):AX t g (i+1)=if x.group==g then AX t g i++[x.p]else AX t g i:=by
 unfold AX;rw[eO h,rf,my]
 cases A:x.group==g<;>simp[A]
theorem St(i:Nat):(AX t g i).length<=(aS t).length:=by
 unfold AX;rw[mt];exact ka (pc _ _) (List.length_take_le' _ _)
theorem ac9{t:Tb} (A:t.Ok) (g:Int) (k:Nat) (hk:k<(t.groups.getD []).length):(IntKind.i64.wrap (Pm t g+((k+1:Nat):Int))).tmod (t.groups.getD []).length=Rw t g k:=by
 have B:=A.groups
 have D:-1<=Pm t g/\Pm t g<4294967296:=by
  unfold Pm;split
  ·rw[aU ST ST];omega
  ·omega
 unfold Rw
 congr 1
 rw[aU (n:=Pm t g+1) ST ST]
 congr 1
 omega
end
section
variable{P:Program} (hm:P.follows .mixedOrders=true) {f:Nat}
include hm
section
variable {e fH fS:Nat}
theorem ZE.ok(hc:bu P f=some (xF fS fH)) (hS:aS.Spec (Pure P) fS e) (hH:jm.Spec (Pure P) fH):uU.Spec (Pure P) f:=by
 intro t g r E want ht
 have hH:=mF hH
 rw[<-VT]
 have hl:=Tb.len ht
 have hp:=Tb.whole ht
 have ac:=qm ht
 have hE:Ky t g r E want=match(aS t).find? (λx=>x.group==g&&x.ring==r&&decide (x.pos>E)&&bD want x.p)with
  |some x=>x.pos
  |none=>-1:=rfl
 generalize Ky t g r E want=res at*;refine aj hm hc [] rfl ?_;try simp only[I,B,D,RX,↓KW,seval,xF,Z.H,hp]
 refine af (hS t none ht (.inl rfl)) ?_;try simp only[I,B,D,RX,↓KW,seval]
 generalize aS t=sp at*
 have L:(dJ sp).getD []=sp:=aT sp
 refine aD (λi:Nat=>(⟨[(12,.dat (I i) none),(11,.dat (aI Sp.cells (dJ sp)) none),(1,.dat (I g) none),(2,.dat (I r) none),(3,.dat (I E) none),(4,.dat (I want) none)],[],[],400⟩:S)) (λi=>sp.length-i) (λi=>i<=sp.length/\∀x∈sp.take i,(x.group==g&&x.ring==r&&decide (x.pos>E)&&bD want x.p)=false) ?_ 0 TB ?_
 ·intro i ⟨hi,R⟩ A back
  have hw:=aA (k:=i) ST
  try simp only[I,B,D,RX,↓KW,seval,L]
  rcases bc (decide ((i:Int)<(sp.length:Int)))with h|h
  ·have:i=sp.length:=by have:=dE h;omega
   subst this
   have hf:sp.find? (λx=>x.group==g&&x.ring==r&&decide (x.pos>E)&&bD want x.p)=none:=mf.2 λx hx=>by rw[R x (by rw[gn];exact hx)];decide
   rw[hf]at hE;try simp only[I,B,D,RX,↓KW,seval,h]
   rw[hE]
  ·have ab:i<sp.length:=by have:=dC h;omega
   obtain⟨x,hx⟩:∃x,sp[i]? =some x:=⟨_,dT ab⟩
   have hy:0<=(i:Int)/\(i:Int)<(sp.length:Int):=ST
   have hq:x.cells=[I x.group,I x.ring,I x.pos,I x.p]:=rfl
   try simp only[I,B,D,RX,↓KW,seval,h,hx,hy,L,hq,Sp.len]
   have O:(x.group==g&&x.ring==r&&decide (x.pos>E)&&bD want x.p)=true->res=x.pos:=λhh=>by
    rw[hE,lS hx hh R]
   have M:(x.group==g&&x.ring==r&&decide (x.pos>E)&&bD want x.p)=false->∀y∈sp.take (i+1),(y.group==g&&y.ring==r&&decide (y.pos>E)&&bD want y.p)=false:=λhh y aa=>by
    rw[eO hx]at aa
    rcases il.1 aa with h3|h3
    ·exact R y h3
    ·rw[lm.1 h3];exact hh
   clear hE R
   rcases bc (x.group==g)with a1|a1
   ·rw[a1]at O M
    try simp only[I,B,D,RX,↓KW,seval,a1,L,hq,Sp.len]
    refine back (i+1) _ ⟨ST,M rfl⟩ ST ?_
    refine ai Ts ?_ ?_ ?_ ?_<;>simp[LX,I,B,D,hw]
   rcases bc (x.ring==r)with V|V
   ·rw[a1,V]at O M
    try simp only[I,B,D,RX,↓KW,seval,a1,V,L,hq,Sp.len]
    refine back (i+1) _ ⟨ST,M rfl⟩ ST ?_
    refine ai Ts ?_ ?_ ?_ ?_<;>simp[LX,I,B,D,hw]
   rcases bc (decide (x.pos>E))with a3|a3
   ·rw[a1,V,a3]at O M
    try simp only[I,B,D,RX,↓KW,seval,a1,V,a3,L,hq,Sp.len]
    refine back (i+1) _ ⟨ST,M rfl⟩ ST ?_
    refine ai Ts ?_ ?_ ?_ ?_<;>simp[LX,I,B,D,hw]
   try simp only[I,B,D,RX,↓KW,seval,a1,V,a3,L,hq,Sp.len]
   refine af (hH want x.p) ?_
   rcases bc (bD want x.p)with a4|a4
   ·rw[a1,V,a3,a4]at M
    try simp only[I,B,D,RX,↓KW,seval,a4,L,hq,Sp.len]
    refine back (i+1) _ ⟨ST,M rfl⟩ ST ?_
    refine ai Ts ?_ ?_ ?_ ?_<;>simp[LX,I,B,D,hw]
   ·rw[a1,V,a3,a4]at O
    try simp only[I,B,D,RX,↓KW,seval,a4,L,hq,Sp.len]
    rw[O rfl]
 ·refine ai Ts ?_ ?_ ?_ ?_<;>simp[LX,I,B,D]
theorem ZF.ok(hc:bu P f=some (AD fS)) (hS:aS.Spec (Pure P) fS e):CT.Spec (Pure P) f:=by
 intro t rn k ht;rw[<-ZB]
 have hl:=Tb.len ht
 have hp:=Tb.whole ht
 have ag:=qm ht
 have ae:rn.cells[0]? =some (I rn.group):=rfl
 have hE:VU t rn k=if k<0\/1<k then -1 else match(aS t).find? (λx=>x.group==rn.group&&x.ring==k&&x.pos==rn.at k)with
  |some x=>x.p
  |none=>-1:=rfl
 generalize VU t rn k=res at*;refine aj hm hc [] rfl ?_;try simp only[I,B,D,RX,↓KW,seval,AD,Z.H,hp]
 rcases bc (decide (k<0))with V|V
 rotate_left
 ·rw[et (.inl (dC V))]at hE
  try simp only[I,B,D,RX,↓KW,seval,V]
  rw[hE]
 rcases bc (decide (k>1))with h2|h2
 rotate_left
 ·rw[et (.inr (dC h2))]at hE
  try simp only[I,B,D,RX,↓KW,seval,V,h2]
  rw[hE]
 have b1:=dE V
 have b2:=dE h2
 rw[ek ST]at hE
 have ac:0<=k/\k<2:=ST
 have ab:rn.cells[1+k.toNat]? =some (I (rn.at k)):=by
  have:k=0\/k=1:=ST
  rcases this with rfl|rfl<;>rfl
 try simp only[I,B,D,RX,↓KW,seval,V,h2,hp]
 refine af (hS t none ht (.inl rfl)) ?_;try simp only[I,B,D,RX,↓KW,seval]
 generalize aS t=sp at*
 have E:(dJ sp).getD []=sp:=aT sp
 try simp only[I,B,D,RX,↓KW,seval,E]
 refine aD (λi:Nat=>(⟨[(18,.dat (I i) none),(17,.dat (I sp.length) none),(16,.dat (aI Sp.cells (dJ sp)) none),(4,.ptr 5 0),(2,.dat (I k) none)],[(5,⟨rn.cells,[]⟩)],[],400⟩:S)) (λi=>sp.length-i) (λi=>i<=sp.length/\∀x∈sp.take i,(x.group==rn.group&&x.ring==k&&x.pos==rn.at k)=false) ?_ 0 TB ?_
 ·intro i ⟨hi,L⟩ A back
  have hw:=aA (k:=i) ST
  try simp only[I,B,D,RX,↓KW,seval,E]
  rcases bc (decide ((i:Int)<(sp.length:Int)))with h|h
  ·have:i=sp.length:=by have:=dE h;omega
   subst this
   have hf:sp.find? (λx=>x.group==rn.group&&x.ring==k&&x.pos==rn.at k)=none:=mf.2 λx hx=>by rw[L x (by rw[gn];exact hx)];decide
   rw[hf]at hE;try simp only[I,B,D,RX,↓KW,seval,h]
   rw[hE]
  ·have ad:i<sp.length:=by have:=dC h;omega
   obtain⟨x,hx⟩:∃x,sp[i]? =some x:=⟨_,dT ad⟩
   have hy:0<=(i:Int)/\(i:Int)<(sp.length:Int):=ST
   have hq:x.cells=[I x.group,I x.ring,I x.pos,I x.p]:=rfl
   try simp only[I,B,D,RX,↓KW,seval,h,hx,hy,E,hq,Sp.len,ae]
   have M:(x.group==rn.group&&x.ring==k&&x.pos==rn.at k)=true->res=x.p:=λhh=>by
    rw[hE,lS hx hh L]
   have O:(x.group==rn.group&&x.ring==k&&x.pos==rn.at k)=false->∀y∈sp.take (i+1),(y.group==rn.group&&y.ring==k&&y.pos==rn.at k)=false:=λhh y aa=>by
    rw[eO hx]at aa
    rcases il.1 aa with h3|h3
    ·exact L y h3
    ·rw[lm.1 h3];exact hh
   clear hE L
   rcases bc (x.group==rn.group)with a1|a1
   ·rw[a1]at M O
    try simp only[I,B,D,RX,↓KW,seval,a1,E,hq,Sp.len]
    refine back (i+1) _ ⟨ST,O rfl⟩ ST ?_
    refine ai Ts ?_ ?_ ?_ ?_<;>simp[LX,I,B,D,hw]
   rcases bc (x.ring==k)with R|R
   ·rw[a1,R]at M O
    try simp only[I,B,D,RX,↓KW,seval,a1,R,E,hq,Sp.len]
    refine back (i+1) _ ⟨ST,O rfl⟩ ST ?_
    refine ai Ts ?_ ?_ ?_ ?_<;>simp[LX,I,B,D,hw]
   rcases bc (x.pos==rn.at k)with a3|a3
   ·rw[a1,R,a3]at O
    try simp only[I,B,D,RX,↓KW,seval,a1,R,a3,ac,ab,E,hq,Sp.len]
    try try simp only[I,B,D,RX,↓KW,seval,a3]
    refine back (i+1) _ ⟨ST,O rfl⟩ ST ?_
    refine ai Ts ?_ ?_ ?_ ?_<;>simp[LX,I,B,D,hw]
   ·rw[a1,R,a3]at M
    try simp only[I,B,D,RX,↓KW,seval,a1,R,a3,ac,ab,E,hq,Sp.len]
    rw[M rfl]
 ·refine ai Ts ?_ ?_ ?_ ?_<;>simp[LX,I,B,D]
theorem ada.ok{e2 fO:Nat} (hc:bu P f=some (lO fS e2 fO)) (hS:aS.Spec (Pure P) fS e) (hO:zA.Spec (Pure P) fO):CR.Spec (Pure P) f:=by
 intro t g V;rw[<-ZD]
 have hl:=Tb.len V
 have hp:=Tb.whole V
 have ab:=qm V
 have R:ZC t g=SU (AX t g (aS t).length):=by rw[AX,gn];rfl
 refine aj hm hc [] rfl ?_;try simp only[I,B,D,RX,↓KW,seval,lO,Z.H,hp]
 refine af (hS t none V (.inl rfl)) ?_;try simp only[I,B,D,RX,↓KW,seval]
 have M:(dJ (aS t)).getD []=aS t:=aT _
 try simp only[I,B,D,RX,↓KW,seval,M]
 refine aD (λi:Nat=>(⟨[(11,.dat (I i) none),(10,.dat (I (aS t).length) none),(9,.dat (aI Sp.cells (dJ (aS t))) none),(1,.dat (I g) none),(5,aZ aC (AX t g i) 0)],[],bA (AX t g i) 0 e2,400⟩:S)) (λi=>(aS t).length-i) (λi=>i<=(aS t).length) ?_ 0 ST ?_
 ·intro i hi A back
  have hw:=aA (k:=i) ST
  have ac:=St t g i
  try simp only[I,B,D,RX,↓KW,seval,M]
  rcases bc (decide ((i:Int)<((aS t).length:Int)))with h|h
  ·have:i=(aS t).length:=by have:=dE h;omega
   subst this;rw[R];generalize AX t g (aS t).length=L at*
   by_cases E:L=[]
   ·try simp only[I,B,D,RX,↓KW,seval,h,aZ,bA,E]
    refine af (hO none TB) ?_
    try simp only[I,B,D,RX,↓KW,seval]
    simp[E]
   ·try simp only[I,B,D,RX,↓KW,seval,h,aZ,bA,E]
    refine af (hO (some L) (by simp;omega)) ?_
    try simp only[I,B,D,RX,↓KW,seval]
    simp
  ·have aa:i<(aS t).length:=by have:=dC h;omega
   obtain⟨x,hx⟩:∃x,(aS t)[i]? =some x:=⟨_,dT aa⟩
   have hy:0<=(i:Int)/\(i:Int)<((aS t).length:Int):=ST
   have hq:x.cells=[I x.group,I x.ring,I x.pos,I x.p]:=rfl
   have O:=O8 (g:=g) hx
   by_cases E:AX t g i=[]
   ·try simp only[I,B,D,RX,↓KW,seval,h,hx,hy,M,hq,Sp.len,aZ,bA,E]
    rcases bc (x.group==g)with a1|a1
    ·rw[a1]at O
     try simp only[I,B,D,RX,↓KW,seval,a1,E]
     refine back (i+1) _ ST ST (ai Ts ?_ ?_ ?_ ?_)<;>simp[LX,I,B,D,O,E,hw]
    ·rw[a1]at O
     try simp only[I,B,D,RX,↓KW,seval,a1,E]
     refine back (i+1) _ ST ST (ai Ts ?_ ?_ ?_ ?_)<;>simp[LX,I,B,D,O,E,hw]
   ·try simp only[I,B,D,RX,↓KW,seval,h,hx,hy,M,hq,Sp.len,aZ,bA,E]
    rcases bc (x.group==g)with a1|a1
    ·rw[a1]at O
     try simp only[I,B,D,RX,↓KW,seval,a1,E]
     refine back (i+1) _ ST ST (ai Ts ?_ ?_ ?_ ?_)<;>simp[LX,I,B,D,O,E,hw]
    ·rw[a1]at O
     try simp only[I,B,D,RX,↓KW,seval,a1,E]
     refine⟨ST,?_⟩
     refine back (i+1) _ ST ST (ai Ts ?_ ?_ ?_ ?_)<;>simp[LX,I,B,D,O,E,hw]
 ·have:AX t g 0=[]:=by simp[AX]
  rw[this]
  refine ai Ts ?_ ?_ ?_ ?_<;>simp[LX,I,B,D]
theorem adb.ok{fM:Nat} (hc:bu P f=some (oB fM)) (hM:CR.Spec (Pure P) fM):CS.Spec (Pure P) f:=by
 intro t g want O
 have hl:=Tb.len O
 have hp:=Tb.whole O
 have hg:=Tb.jT O
 have hb:=O.groups
 have hF:=λk hk=>ac9 O g k hk
 have hE:Rx t g want=match(List.range (t.groups.getD []).length).find? (Zb t g want)with
  |some k=>Rw t g k
  |none=>-1:=rfl
 have hP:∀k,Zb t g want k=(bK .i64 (SZ t (Rw t g k)) want !=0):=λ_=>rfl
 have E:Pm t g=if g<0\/((t.groups.getD []).length:Int)<=g then IntKind.i64.wrap ((t.groups.getD []).length-1)else g:=rfl
 generalize Rx t g want=res at*;generalize Zb t g want=pr at*;generalize Rw t g=fg at*;generalize Pm t g=g0 at*;refine aj hm hc [0] rfl ?_;try simp only[I,B,D,RX,↓KW,seval,oB,Z.H,hp,hg]
 apply yK (λ_:Unit=>(⟨[(7,.dat (I (t.groups.getD []).length) none),(1,.dat (I g0) none),(3,.ptr 4 0),(2,.dat (I want) none)],[(4,⟨t.cells,[]⟩)],[],60⟩:S)) (λ_=>True)
 ·intro back
  rcases bc (decide (g<0))with R|R
  ·rcases bc (decide (g>=((t.groups.getD []).length:Int)))with c2|c2
   ·rw[ek (by have:=dE R;have:=dE c2;omega)]at E
    try simp only[I,B,D,RX,↓KW,seval,R,c2,hg]
    refine back () _ trivial ?_
    refine ai Ts ?_ ?_ ?_ ?_<;>simp[LX,I,B,D,E]
   ·rw[et (.inr (dC c2))]at E
    try simp only[I,B,D,RX,↓KW,seval,R,c2,hg]
    refine back () _ trivial ?_
    refine ai Ts ?_ ?_ ?_ ?_<;>simp[LX,I,B,D,E]
  ·rw[et (.inl (dC R))]at E
   try simp only[I,B,D,RX,↓KW,seval,R,hg]
   refine back () _ trivial ?_
   refine ai Ts ?_ ?_ ?_ ?_<;>simp[LX,I,B,D,E]
 rintro _ _
 try simp only[I,B,D,RX,↓KW,seval]
 refine aD (λk:Nat=>(⟨[(8,.dat (I ((k+1:Nat):Int)) none),(7,.dat (I (t.groups.getD []).length) none),(1,.dat (I g0) none),(3,.ptr 4 0),(2,.dat (I want) none)],[(4,⟨t.cells,[]⟩)],[],400⟩:S)) (λk=>(t.groups.getD []).length-k) (λk=>k<=(t.groups.getD []).length/\∀q,q<k->pr q=false) ?_ 0 ⟨ST,ST⟩ ?_
 rotate_left
 ·refine ai Ts ?_ ?_ ?_ ?_<;>simp[LX,I,B,D]
 rintro k ⟨hk,L⟩ A back
 have ac:IntKind.i64.wrap ((k:Int)+1+1)=(k:Int)+1+1:=aU ST ST
 try simp only[I,B,D,RX,↓KW,seval]
 rcases bc (decide (((k+1:Nat):Int)<=((t.groups.getD []).length:Int)))with h|h
 ·have ae:k=(t.groups.getD []).length:=by have:=dE h;omega
  have hf:(List.range (t.groups.getD []).length).find? pr=none:=Eng.nE λx hx=>L x (by have:=fp.1 hx;omega)
  rw[hf]at hE;try simp only[I,B,D,RX,↓KW,seval,h]
  rw[hE]
 ·have h8:k<(t.groups.getD []).length:=by have:=dC h;omega
  have ad:=hF k h8
  have ab:(((t.groups.getD []).length:Int)=0)=False:=by simp;intro h;rw[h]at h8;simp at h8
  have aa:=hP k
  try simp only[I,B,D,RX,↓KW,seval,h,ab,ad,hp]
  refine af (hM t (fg k) O) ?_
  rcases bc (bK .i64 (SZ t (fg k)) want !=0)with V|V
  ·have M:pr k=false:=by rw[aa,V]
   try simp only[I,B,D,RX,↓KW,seval,V]
   refine back (k+1) _ ⟨ST,λq ag=>?_⟩ ST ?_
   ·by_cases e:q=k
    ·rw[e];exact M
    ·exact L q ST
   ·refine ai Ts ?_ ?_ ?_ ?_<;>simp[LX,I,B,D,ac]
  ·have M:pr k=true:=by rw[aa,V]
   have hf:(List.range (t.groups.getD []).length).find? pr=some k:=lS (kr h8) M (λy hy=>L y (by rw[yr]at hy;have:=fp.1 hy;omega))
   rw[hf]at hE;try simp only[I,B,D,RX,↓KW,seval,V]
   rw[hE]
theorem vJ.ok{fW:Nat} (hc:bu P f=some (vz fW)) (hW:where.Spec (Pure P) fW):vJ.Spec (Pure P) f:=by
 intro t r p q V
 have hl:=Tb.len V
 have hp:=Tb.whole V
 have L:r.cells[0]? =some (I r.group):=rfl
 have aa:=λh=>i4 (t:=t) (q:=q) h
 have hE:BR t r p q=((az t p).2&&((az t q).2&&(az t q).1.group==r.group&&(az t q).1.ring !=(az t p).1.ring&&decide ((az t q).1.pos>r.at (az t q).1.ring))):=rfl
 have O:∀x:Sp,x.cells=[I x.group,I x.ring,I x.pos,I x.p]:=λ_=>rfl
 refine aj hm hc [] rfl ?_;try simp only[I,B,D,RX,↓KW,seval,vz,Z.H,hl,hp,L]
 refine af (hW t p V) ?_;generalize BR t r p q=res at*;try simp only[I,B,D,RX,↓KW,seval,O,hp]
 refine af (hW t q V) ?_;generalize(az t p).2=ok at*;generalize(az t p).1=v at*;generalize(az t q).2=ok2 at*;generalize(az t q).1=w at*
 rcases bc ok with A|A
 ·rw[A]at hE
  try simp only[I,B,D,RX,↓KW,seval,A,O]
  rw[hE];rfl
 rcases bc ok2 with E|E
 ·rw[A,E]at hE
  try simp only[I,B,D,RX,↓KW,seval,A,E,O]
  rw[hE];rfl
 have hy:=aa E
 have ab:r.cells[1+w.ring.toNat]? =some (I (r.at w.ring)):=by
  have:w.ring=0\/w.ring=1:=ST
  rcases this with e|e<;>rw[e]<;>rfl
 rcases bc (w.group==r.group)with M|M
 ·rw[A,E,M]at hE
  try simp only[I,B,D,RX,↓KW,seval,A,E,M,O,L]
  rw[hE];rfl
 rcases bc (w.ring !=v.ring)with R|R
 ·rw[A,E,M,R]at hE
  try simp only[I,B,D,RX,↓KW,seval,A,E,M,R,O,L]
  rw[hE];rfl
 rw[A,E,M,R]at hE;try simp only[I,B,D,RX,↓KW,seval,A,E,M,R,O,L,hy,ab]
 rw[hE];rfl
theorem vK.ok{fI:Nat} (hc:bu P f=some (vw fI fH)) (hI:o9.Spec (Pure P) fI) (hH:jm.Spec (Pure P) fH):vK.Spec (Pure P) f:=by
 intro t r p want ht aa
 have hH:=mF hH
 have hl:=Tb.len ht
 have hp:=Tb.whole ht
 have A:=Tb.ij (ht.ln.jL (k:=p) ST)
 have hy:0<=(p:Int)/\(p:Int)<8:=ST
 have L:(aO t p).cells[12]? =some (B (aO t p).rest)/\(aO t p).cells[1]? =some (I (aO t p).min)/\(aO t p).cells.length=13:=⟨rfl,rfl,rfl⟩
 have R:r.cells[2]? =some (I r.fst)/\r.cells[1]? =some (I r.time)/\r.cells[4]? =some (I r.left)/\aF r.cells 2 (some 2)=some (.agg [I r.fst,I r.cn]):=⟨rfl,rfl,rfl,rfl⟩
 have O:eN.length=13/\∀x:Ph,setCells eN 0 x.cells=x.cells:=⟨rfl,λ_=>rfl⟩
 have hE:BD (aO t p) r=((aO t p).rest&&decide (r.time>=(aO t p).min)&& !dQ r.fst&&r.left==0):=rfl
 generalize BD (aO t p) r=res at*;generalize aO t p=x at*;refine aj hm hc [] rfl ?_;try simp only[I,B,D,RY,↓KW,seval,vw,Z.H,hl,hy,A,L,O]
 rcases bc x.rest with a1|a1
 ·rw[a1]at hE
  try simp only[I,B,D,RY,↓KW,seval,a1,hl,hy,A,L,R,O]
  rw[hE];rfl
 rcases bc (decide (r.time>=x.min))with E|E
 ·rw[a1,E]at hE
  try simp only[I,B,D,RY,↓KW,seval,a1,E,hl,hy,A,L,R,O]
  rw[hE];rfl
 try simp only[I,B,D,RY,↓KW,seval,a1,E,hl,hy,A,L,R,O]
 refine af (hI _ _) ?_
 rcases bc (dQ r.fst)with M|M
 rotate_left
 ·rw[a1,E,M]at hE
  try simp only[I,B,D,RY,↓KW,seval,M,L,R,O,gs]
  rw[hE];rfl
 rcases bc (r.left==0)with V|V
 ·rw[a1,E,M,V]at hE
  try simp only[I,B,D,RY,↓KW,seval,M,V,L,R,O,fx]
  rw[hE];rfl
 try simp only[I,B,D,RY,↓KW,seval,M,V,L,R,O,fx]
 refine af (hH want p) ?_;rw[a1,E,M,V]at hE;try simp only[I,B,D,RY,↓KW,seval]
 rw[hE]
 try rfl
end
end
end Go.Eng
