/- Part 3 of the engine and its library. -/
import Derived.Test.YtdfplndcbbofjaaGreatPk2
set_option linter.all false
set_option maxRecDepth 10000
set_option maxHeartbeats 4000000
namespace Go.Eng
open Go
open Go.RowKit (Below)
section
variable{P:Program} {nt:Nat} {n0:kL} {w0:World} {π0:Nat->Nat->Prop} {U:Nat->Prop} {s:S} {a:Act} {w:World} {β:Nat->Nat} {τ:Nat->Value} {π:Nat->Nat->Prop}
theorem Rel.I2(R:Rel P nt n0 w0 π0 U s a w β τ π) (z:Nat):∀(Xs:List (Nat×Operand)) (xs:List bC) (rows:List (List AV)) (k:Nat) (pre tail:List AV) (us:Array Value),
  Xs.map (·.1)=(List.range Xs.length).map (· +k)->Xs.mapM (λp=>cq p.2)=some xs->mS s z xs=some rows->jn w π (pre++tail) us.toList->(∀c∈pre++tail,c.scalar=true)->pre.length=k*z->tail.length=Xs.length*z->
  ∃B,Instr.fill (λi=>some (i*z,z)) us (Xs.map λp=>(p.1,a.eval p.2))=some B/\jn w π (pre++rows.flatten) B.toList/\(∀c∈pre++rows.flatten,c.scalar=true)/\rows.length=Xs.length/\∀r∈rows,r.length=z
 |[],xs,rows,k,pre,tail,us,h1,O,A,hd,hs,hp,ht=>by
  simp at O;subst O;simp[mS]at A;subst A
  have:tail=[]:=nl (by simpa using ht)
  subst this
  exact⟨us,rfl,by simpa using hd,by simpa using hs,rfl,TB⟩
 |(i,X)::Xs,xs,rows,k,pre,tail,us,h1,O,A,hd,hs,hp,ht=>by
  simp only[tp,pC,jp,vx,fo]at O;obtain⟨x,hx,ad,al,rfl⟩:=O;simp only[mS]at A;split at A
  ·rename_i av E ag M
   split at A
   ·rename_i V
    obtain⟨V,au⟩:=V;cases A
    have hi:i=k:=by
     have:=ne (λl=>l[0]?) h1
     simpa using this
    subst hi
    have ar:Xs.map (·.1)=(List.range Xs.length).map (· +(i+1)):=by
     have Z:=ne List.tail h1
     simp only[md,List.tail_cons,eW,List.range_succ_eq_map,List.map_map]at Z;rw[Z]
     apply sh
     intro q _;simp;omega
    have an:=R.aM hx ag
    obtain⟨aa,a3⟩:=an.cells (λvs e=>by subst e;simp[jo]at au)
    have am:(a.eval X).cells.size=z:=by have:=aa.1;simp at this;omega
    have a6:us.size=pre.length+tail.length:=by have:=hd.1;simp at this;omega
    have a7:tail.length=Xs.length*z+z:=by rw[ht];simp[Nat.add_mul]
    obtain⟨a5,he,a2,a8⟩:=vP (place:=λi=>some (i*z,z)) (cells:=us) (i:=i) (off:=i*z) (v:=a.eval X) (rest:=Xs.map λp=>(p.1,a.eval p.2)) (by rw[am]) ST
    have ab:=hd.splice aa (off:=i*z) (by simp;omega)
    have ak:(pre++tail).take (i*z)++av.cells++(pre++tail).drop (i*z+av.cells.length)=(pre++av.cells)++tail.drop z:=by
     rw[<-hp,List.take_left,V,PQ,List.drop_eq_nil_of_le ST]
     simp
    rw[ak]at ab
    have L:∀c∈(pre++av.cells)++tail.drop z,c.scalar=true:=by
     intro c D;simp only[il]at D
     rcases D with(D|D)|D
     ·exact hs c (by simp[D])
     ·exact a3 c D
     ·exact hs c (by simp[nf D])
    obtain⟨B,hf,a4,ae,ac,ao⟩:=R.I2 z Xs ad E (i+1) (pre++av.cells) (tail.drop z) a5 ar al M (by rw[a2];exact ab) L (by simp[hp,V,Nat.add_mul]) (by simp;omega)
    refine⟨B,by rw[md,he];exact hf,by simpa[List.append_assoc]using a4,by simpa[List.append_assoc]using ae,by simp[ac],?_⟩
    intro r hr
    rcases mp.1 hr with rfl|hr
    ·exact V
    ·exact ao r hr
   ·cases A
  ·cases A
theorem Rel.buildSlice(R:Rel P nt n0 w0 π0 U s a w β τ π) {t e:TypeId} {n z:Nat} {Xs:Array (Nat×Operand)} {zs:List AV} {xs:List bC} (ht:P.underlying t=some (.slice e)) (a8:zeroOf P e=some zs) (hz:gq P e=some z)
  (a3:Xs.toList.mapM (λp=>cq p.2)=some xs) (ak:(n*z<=16777216&&0<z&&zs.length==z&&Xs.toList.map (·.1)==List.range n)=true) {id:Nat} (be:¬U id) {K:SV->S->Prop} (h:bS (Pure P) id (.SP e z xs) K s):
  ∃v y s' w' τ' π',(Instr.buildSlice t n (Xs.map λ(i,x)=>(i,a.eval x))).run P w=.ok y w'/\RV β τ' w' π' v y/\v.gS (fu U id)/\K v s'/\Rel P nt n0 w0 π0 (fu U id) s' a w' β τ' π':=by
 simp only[bS]at h;obtain⟨rows,ad,hK⟩:=ah h;simp only[ed,gc,kb]at ak;obtain⟨⟨⟨hn,aa⟩,a7⟩,Z⟩:=ak
 obtain⟨zv,ba,ae,am⟩:=tV (P:=P) (w:=w) (π:=π) a8
 have L:Xs.toList.length=n:=by have:=ne List.length Z;simpa using this
 have ar:zv.cells.size=z:=by have:=ae.1;simp at this;omega
 -- the row of zeros that is filled
 have ac:jn w π ([]++(List.range (n*z)).map λi=>zs.getD (i%z) default) ((Array.range (n*z)).map (zv.cells[· %zv.cells.size]!)).toList:=by
  refine⟨TB,λi c u A hu=>?_⟩
  simp only[kx,im,Array.toList_map,Array.toList_range]at A hu
  by_cases hi:i<n*z
  ·have hm:i%z<z:=IO _ aa
   rw[kr hi]at A hu;simp only[ma,fo]at A hu;subst A;subst hu
   have h1:zs[i%z]? =some (zs.getD (i%z) default):=by
    rw[eh,dT ST];simp
   have h2:zv.cells.toList[i%z]? =some (zv.cells[i%zv.cells.size]!):=by
    rw[ar]
    have:i%z<zv.cells.size:=ST
    simp[this]
   exact ae.2 _ _ _ h1 h2
  ·rw[ip (by simp;omega)]at A
   simp at A
 have M:∀c∈([]:List AV)++(List.range (n*z)).map λi=>zs.getD (i%z) default,c.scalar=true:=by
  intro c A;simp only[kx,i8,fp]at A;obtain⟨i,hi,rfl⟩:=A
  have hm:i%z<zs.length:=by rw[a7];exact IO _ aa
  rw[eh,dT hm];exact am _ (Do hm)
 obtain⟨E,hf,hd,hs,an,ag⟩:=R.I2 z Xs.toList xs rows 0 [] _ _ (by rw[Z,L];simp) a3 ad ac M TB (by simp[L])
 simp only[kx]at hd hs
 have D:rows.length=n:=by rw[an,L]
 have V:E.size=n*z:=by have:=hd.1;rw[jr ag,D]at this;simpa using this.symm
 obtain⟨R',a9⟩:=R.newRow (xs:=rows) (z:=z) (cap:=n) (cs:=E) e ag ST (by rw[D];omega) (λi x v hx hv=>hd.2 i x v hx (by simpa using hv)) (λr hr x hx=>hs x (H1.2 ⟨r,hr,hx⟩))
 obtain⟨i,hi,O⟩:∃i,P.info? e=some i/\i.size=z:=by
  simp only[gq,eg]at hz;obtain⟨i,hi,a5⟩:=hz;exact⟨i,hi,a5⟩
 have ao:n0.n<=w.heap.size:=ka R.gI R.below.size
 have R2:=R'.tX (v:=.slice (some ⟨w.heap.size,0,none⟩) rows.length n) be (by
   refine .inr ⟨w.heap.size,rows.length,n,E,i,rfl,.inl ao,Hn w _,ST,?_,hi,by rw[O];exact V,λo ho A=>?_⟩
   ·have:=GT n aa
    simp only[maxLen];omega
   ·rw[O]at ho
    rcases A with h|⟨_,h⟩
    ·have:=R.gj _ _ h;omega
    ·omega)
  (λq e' B hq hB ab=>by
   have h1:=((R.live q e' hq).2.block hB).2
   simp[jq]at ab
   omega)
  (λb x hb ab=>by
   obtain⟨_,_,⟨bi,el,hh,_⟩,_⟩:=R.boxes b x hb
   have:=oL hh
   simp[jq]at ab
   omega)
 refine⟨.dat (.sl rows) (some id),_,_,_,_,_,?_,⟨a9,λt ht=>by cases ht;rw[cj]⟩,.inr rfl,hK,R2⟩
 have au:¬(n*z>16777216):=ST
 have a2:(Xs.map λ(i,x)=>(i,a.eval x)).toList=Xs.toList.map λp=>(p.1,a.eval p.2):=TB
 by_cases al:n*z=0
 ·have bd:n=0:=by
   rcases Nat.mul_eq_zero.1 al with h|h
   ·exact h
   ·omega
  subst bd
  have hX:Xs.toList=[]:=nl L
  have a6:E=#[]:=by
   apply Array.eq_empty_of_size_eq_zero
   rw[V];simp
  have a4:Xs=#[]:=by cases Xs;simp at hX;subst hX;rfl
  subst a4 a6
  simp[Instr.buildSlice,ii ht,eH (w:=w) hz,Instr.fill,Go.newRow,D]
  congr 2
  exact Array.eq_empty_of_size_eq_zero TB
 ·simp only[Instr.buildSlice,fi,ii ht,e9,eH (w:=w) hz]
  rw[ek (by simpa using au)]
  simp only[al,ib,fi,iv,e9,ba,a2,hf,Go.newRow,run_newObj,D];rfl
theorem DV.news{O:List (List AV)} {B off m c:Nat} {z:Nat} (h:DV w π (.sl O) (.slice (some ⟨B,off,none⟩) m c)) (hz:∀r∈O,r.length=z):
  m=O.length/\∃news:List Value,news.length=m*z/\(∀j u,news[j]? =some u->w.cell? ((⟨B,off,none⟩:Addr).add j)=some u)/\(∀u∈news,u.oneCell'=true)/\jn w π O.flatten news/\∀r∈O,∀x∈r,x.scalar=true:=by
 cases h with
 |NO _=>exact⟨rfl,[],TB,TB,TB,⟨rfl,TB⟩,TB⟩
 |sl _ _ _ cap L f h1 h2 h3 h4 h5 h6=>
  refine⟨rfl,?_⟩
  have ad:=jr hz
  -- every place of the row is some element's
  have ac:∀q,q<O.length*z->∃(i j:Nat) (r:List AV) (x:AV),O[i]? =some r/\r[j]? =some x/\q=i*z+j/\O.flatten[q]? =some x/\L=z:=by
   intro q R
   have D:0<z:=by
    rcases rc z with e|e
    ·subst e;simp at R
    ·exact e
   have hi:q/z<O.length:=by rw[Nat.div_lt_iff_lt_mul D];exact R
   have M:=dT hi
   have ae:=hz _ (Do hi)
   have hj:q%z<(O[q/z]).length:=by rw[ae];exact IO _ D
   have A:=dT hj
   have ak:q/z*z+q%z=q:=by rw[pd];exact yn q z
   refine⟨q/z,q%z,_,_,M,A,ak.symm,?_,by rw[<-h2 _ _ M,ae]⟩
   have:=lW hz M A
   rwa[ak]at this
  refine⟨(List.range (O.length*z)).map λq=>f (q/z) (q%z),TB,?_,?_,⟨by simp[ad],?_⟩,λr M x A=>?_⟩
  ·intro q u hu
   have R:q<O.length*z:=by
    rcases kn q (O.length*z)with h'|h'
    ·exact h'
    ·rw[ip (by simp;omega)]at hu;cases hu
   obtain⟨i,j,r,x,M,A,he,_,aa⟩:=ac q R;subst aa
   have D:0<L:=by
    rcases rc L with e|e
    ·subst e;simp at R
    ·exact e
   have E:j<L:=by
    rw[<-h2 _ _ M]
    rcases kn j r.length with h'|h'
    ·exact h'
    ·rw[ip h']at A;cases A
   have V:q/L=i:=by rw[he,pd,Nat.mul_add_div D,xc E,pm]
   have Z:q%L=j:=by rw[he,pd,Nat.mul_add_mod,xa E]
   simp only[im,kr R,ma,fo]at hu;subst hu;rw[iP,V,Z,he,<-zd];exact h5 i j r x M A
  ·intro u hu
   simp only[i8,fp]at hu;obtain⟨q,R,rfl⟩:=hu;obtain⟨i,j,r,x,M,A,he,_,aa⟩:=ac q R;subst aa
   have D:0<L:=by
    rcases rc L with e|e
    ·subst e;simp at R
    ·exact e
   have E:j<L:=by
    rw[<-h2 _ _ M]
    rcases kn j r.length with h'|h'
    ·exact h'
    ·rw[ip h']at A;cases A
   have V:q/L=i:=by rw[he,pd,Nat.mul_add_div D,xc E,pm]
   have Z:q%L=j:=by rw[he,pd,Nat.mul_add_mod,xa E]
   rw[V,Z];exact(h6 i j r x M A).Mw (h3 i j r x M A)
  ·intro q x u A hu
   have R:q<O.length*z:=by
    rcases kn q (O.length*z)with h'|h'
    ·exact h'
    ·rw[ip (by rw[ad];omega)]at A;cases A
   obtain⟨i,j,r,x',M,ab,he,ag,aa⟩:=ac q R;subst aa
   have al:x=x':=by rw[A]at ag;exact tz ag
   subst al
   have D:0<L:=by
    rcases rc L with e|e
    ·subst e;simp at R
    ·exact e
   have E:j<L:=by
    rw[<-h2 _ _ M]
    rcases kn j r.length with h'|h'
    ·exact h'
    ·rw[ip h']at ab;cases ab
   have V:q/L=i:=by rw[he,pd,Nat.mul_add_div D,xc E,pm]
   have Z:q%L=j:=by rw[he,pd,Nat.mul_add_mod,xa E]
   simp only[im,kr R,ma,fo]at hu;subst hu;rw[V,Z];exact h6 i j r x M ab
  ·obtain⟨i,hi⟩:=l3.1 M
   obtain⟨j,hj⟩:=l3.1 A
   exact h3 i j r x hi hj
theorem Rel.lD(R:Rel P nt n0 w0 π0 U s a w β τ π) {b:Nat} {x:dH} (h:dh b s.boxes=some x):β b<w.heap.size:=by
 obtain⟨_,_,⟨B,D,A,_⟩,_⟩:=R.boxes b x h;exact oL A
theorem Rel.grown(R:Rel P nt n0 w0 π0 U s a w β τ π) {id e z old:Nat} {i:TypeInfo} {zv:Value} (hi:P.info? e=some i) (hz:i.zero=some zv) (L:i.size=z) (ad:zv.cells.size=z) (ak:0<z) (ag:¬U id) {zs:List (List AV)} {vs:List Value} (O:vs.length=zs.length*z) (hd:jn w π zs.flatten vs) (A:∀r∈zs,r.length=z) (ae:∀r∈zs,∀x∈r,x.scalar=true)
  (ab:zs.length<=maxLen) {cs:Array Value} (M:cs=vs.toArray++Builtin.zeroCells zv.cells (grownCap w zs.length old e-zs.length)):
  ∃π',Rel P nt n0 w0 π0 (fu U id) {s with live:=(id,e)::s.live} a (w.drew.alloc (.cells cs e)) β (FP τ id (.slice (some ⟨w.heap.size,0,none⟩) zs.length (grownCap w zs.length old e))) π'/\
   DV (w.drew.alloc (.cells cs e)) π' (.sl zs) (.slice (some ⟨w.heap.size,0,none⟩) zs.length (grownCap w zs.length old e)):=by
 have D:=grownCap_ge w zs.length old e
 have aa:grownCap w zs.length old e<=maxLen:=grownCap_le_maxLen w zs.length old e ab
 have hsize:cs.size=grownCap w zs.length old e*z:=by
  rw[M];simp only[Array.size_append,List.size_toArray,size_zeroCells,ad,O,<-Nat.add_mul]
  congr 1;omega
 have V:n0.n<=w.heap.size:=ka R.gI R.below.size
 obtain⟨R',ac⟩:=R.draw.newRow (xs:=zs) (z:=z) (cap:=grownCap w zs.length old e) (cs:=cs) e A D (by rw[hsize];exact ik _ D)
  (λq x v hx hv=>by
   have hq:q<vs.length:=by
    rw[O,<-jr A]
    rcases kn q zs.flatten.length with Z|Z
    ·exact Z
    ·rw[ip Z]at hx;cases hx
   rw[M,Array.getElem?_append_left (by simpa using hq)]at hv
   exact DV.mono (w:=w) (w':=w.drew) (π:=π) (λ_ _ h=>h) (λ_ _ _=>rfl) (hd.2 q x v hx (by simpa using hv))) ae
 refine⟨_,R'.tX ag ?_ ?_ ?_,ac⟩
 ·refine .inr ⟨w.heap.size,zs.length,grownCap w zs.length old e,cs,i,rfl,.inl V,Hn w.drew _,D,aa,hi,by rw[L];exact hsize,λo ho hc=>?_⟩
  rw[L]at ho
  rcases hc with h|⟨_,h⟩
  ·have:=R.gj _ _ h;omega
  ·omega
 ·intro q e' B hq hB E
  have h1:=((R.live q e' hq).2.block hB).2
  simp[jq]at E;omega
 ·intro b x hb E
  have:=R.lD hb
  simp[jq]at E;omega
theorem Rel.append(R:Rel P nt n0 w0 π0 U s a w β τ π) {t e:TypeId} {i:TypeInfo} {zv:Value} {X Y:Operand} {x y:bC} (ht:P.underlying t=some (.slice e)) (hi:P.info? e=some i) (hz:i.zero=some zv) (b5:(0<i.size&&zv.cells.size==i.size&&0<i.bytes)=true)
  (hx:cq X=some x) (hy:cq Y=some y) {id:Nat} (b0:¬U id) (ty:TypeId) {K:SV->S->Prop} (h:bS (Pure P) id (.app e i.size i.bytes x y) K s):
  ∃v u s' w' τ' π',(Builtin.append_ #[t,t] ty #[a.eval X,a.eval Y]).run P w=.ok u w'/\RV β τ' w' π' v u/\v.gS (fu U id)/\K v s'/\Rel P nt n0 w0 π0 (fu U id) s' a w' β τ' π':=by
 simp only[ed,gc,kb]at b5;obtain⟨⟨b8,b6⟩,c0⟩:=b5;simp only[bS]at h;obtain⟨p,hp,k1⟩:=ah h;obtain⟨hr,hU⟩:=R.bX hx hp
 cases p with
 |ptr _ _=>exact k1.elim
 |rp _=>exact k1.elim
 |undef=>exact k1.elim
 |vs _ _ _ _=>exact k1.elim
 |wz _ _ _=>exact k1.elim
 |raw _ _=>exact k1.elim
 |pt _ _=>exact k1.elim
 |dat av q=>
  obtain⟨xs,a4,k2⟩:=ah k1;obtain⟨b,hb,k3⟩:=ah k2;obtain⟨D,a2,hbytes,an,bj,k4⟩:=ah k3;obtain⟨al,cp⟩:=hr
  have a5:=R.aM hy hb
  have cu:∀n,U n->fu U id n:=λn h=>.inl h
  -- what is appended: nil,or a slice whose cells are known
  have hnews:(a.eval Y=.slice none 0 0/\D=[])\/∃(A:Addr) (m c:Nat),a.eval Y=.slice (some A) m c/\m=D.length/\∃news:List Value,news.length=m*i.size/\(∀j u,news[j]? =some u->w.cell? (A.add j)=some u)/\(∀u∈news,u.oneCell'=true)/\jn w π D.flatten news/\∀r∈D,∀x∈r,x.scalar=true:=by
   cases b<;>simp only[rowsOf]at a2<;>try(cases a2;done)
   ·cases a2
    generalize a.eval Y=v at a5;cases a5;exact .inl ⟨rfl,rfl⟩
   ·cases a2
    generalize a.eval Y=v at a5
    cases a5 with
    |NO A=>exact .inr ⟨A,0,0,rfl,rfl,[],TB,TB,TB,⟨rfl,TB⟩,TB⟩
    |sl _ B off cap z f h1 h2 h3 h4 h5 h6=>
     obtain⟨hm,hn⟩:=DV.news (.sl D B off cap z f h1 h2 h3 h4 h5 h6) bj
     exact .inr ⟨⟨B,off,none⟩,_,cap,rfl,rfl,hn⟩
  have ac:(xs.length+D.length)<=maxLen:=by
   have:=GT (xs.length+D.length) c0
   simp only[maxLen];omega
  cases av<;>simp only[rowsOf]at a4<;>try(cases a4;done)
  case bV=>
   cases a4
   have au:a.eval X=.slice none 0 0:=by generalize a.eval X=v at al;cases al;rfl
   by_cases a3:D=[]
   ·subst a3
    simp only[kh]at k4
    refine⟨.dat .bV none,.slice none 0 0,s,w,τ,π,?_,⟨.bV,λt ht=>by cases ht⟩,trivial,k4,R.sub cu⟩
    rcases hnews with⟨V,_⟩|⟨A,m,c,V,hm,news,hl,_⟩
    ·rw[au,V]
     simp[Builtin.append_,ii ht,sizeOf,typeInfo,hi,Builtin.lenOf,Builtin.firstCells]
    ·simp at hm;subst hm
     rw[au,V];simp[Builtin.append_,ii ht,sizeOf,typeInfo,hi,Builtin.lenOf,Builtin.firstCells,loadCells,loadCellsFrom]
   ·simp only[a3,ib,kx]at k4
    rcases hnews with⟨_,co⟩|⟨A,m,c,V,rfl,news,hl,hcell,ao,ad,Z⟩
    ·exact absurd co a3
    ·have ci:0<D.length:=List.length_pos_iff.2 a3
     simp only[fl,la]at hbytes ac
     have aa:=run_append_nil (P:=P) w t ty e i zv ht hi hz A D.length c news hl hcell ci (by simp only[maxLen]at ac;omega) ST
     obtain⟨π',R',bo⟩:=R.grown (old:=0) hi hz rfl b6 b8 b0 hl ad bj Z ac rfl
     exact⟨.dat (.sl D) (some id),_,_,_,_,_,by rw[au,V];exact aa,⟨bo,λt ht=>by cases ht;rw[cj]⟩,.inr rfl,k4,R'⟩
  case sl l=>
   cases a4
   cases q with
   |none=>exact k4.elim
   |some q=>
    obtain⟨ae,hK⟩:=k4
    have hτ:a.eval X=τ q:=cp q rfl
    obtain⟨c5,cr⟩:=R.live q e ae;generalize au:a.eval X=v at al hτ
    rcases cr with a8|⟨B,len,cap,E,L,cb,ce,hh,c1,c2,b4,ak,hfree⟩
    ·rw[<-hτ]at a8
     subst a8;cases al
    ·rw[<-hτ]at cb
     have c3:L=i:=by rw[hi]at b4;exact(tz b4).symm
     subst c3;subst cb
     have bd:jq (τ q)=some B:=by rw[<-hτ];rfl
     have cg:len=xs.length:=by cases al<;>rfl
     subst cg;obtain⟨_,O,ca,holds,cv,b3,a9⟩:=DV.news al an
     have a6:∀(j:Nat) (u:Value),O[j]? =some u->E[j]? =some u:=by
      intro j u hu
      have:=holds j u hu
      rw[iP,la,ul w B j E e (0,0) hh]at this;exact this
     have M:∀r∈xs++D,r.length=L.size:=λr hr=>by
      rcases il.1 hr with hr|hr
      ·exact an r hr
      ·exact bj r hr
     -- what is appended,whatever it is,as a list of values
     have hsplit:xs.flatten++D.flatten=(xs++D).flatten:=TB
     have cx:xs.length*L.size<=E.size:=by rw[ak];exact ik _ c1
     have be:∀q' e',fq q' (nH q s.live)=some e'->jq (τ q')≠some B:=by
      intro q' e' bs am;obtain⟨h1,h2⟩:=kg bs;exact h2 (R.dm q' q e' e B h1 ae am bd)
     have bi:∀b x,dh b s.boxes=some x->β b≠B:=λb x hb e'=>R.dG q e b x ae hb (by rw[bd,e'])
     by_cases hroom:xs.length+D.length<=cap
     ·--in place
      have key:∃(news:List Value),news.length=D.length*L.size/\jn w π D.flatten news/\(∀r∈D,∀x∈r,x.scalar=true)/\
        (Builtin.append_ #[t,t] ty #[.slice (some ⟨B,0,none⟩) xs.length cap,a.eval Y]).run P w=.ok (.slice (some ⟨B,0,none⟩) (xs.length+D.length) cap) (w.setRow B (E.toList.take (xs.length*L.size)++news++E.toList.drop (xs.length*L.size+news.length)).toArray):=by
       rcases hnews with⟨V,rfl⟩|⟨A,m,c,V,rfl,news,hl,hcell,ao,ad,Z⟩
       ·refine⟨[],TB,⟨rfl,λi a v h=>by simp at h⟩,TB,?_⟩
        rw[V]
        have b2:w.setRow B (E.toList.take (xs.length*L.size)++[]++E.toList.drop (xs.length*L.size+([]:List Value).length)).toArray=w:=by
         have:=setRow_self w B E e (0,0) hh
         simpa using this
        rw[b2];simp at hroom;simp[Builtin.append_,ii ht,sizeOf,typeInfo,hi,Builtin.lenOf,Builtin.firstCells,hroom,storeCells]
       ·refine⟨news,hl,ad,Z,?_⟩
        rw[V]
        exact run_append_room (P:=P) w t ty e L ht hi B xs.length cap E hh A D.length c news hl hcell ao hroom (by rw[hl,ak,<-Nat.add_mul];exact ik _ hroom)
      obtain⟨news,hl,ad,Z,aa⟩:=key
      have ct:xs.length*L.size+news.length<=E.size:=by rw[hl,ak,<-Nat.add_mul];exact ik _ hroom
      have ch:=iQ E.toList news (xs.length*L.size) (by simpa using ct)
      generalize ar:(E.toList.take (xs.length*L.size)++news++E.toList.drop (xs.length*L.size+news.length)).toArray=cur' at aa
      have ag:∀o,cur'[o]? =if o<xs.length*L.size then E[o]? else if o<xs.length*L.size+news.length then news[o-xs.length*L.size]? else E[o]?:=by
       intro o;rw[<-ar,H0,ch];simp
      have R1:=(R.K7 q).I1 (m:=(xs.length+D.length)*L.size) (cur':=cur') ce hh (λo ho=>by
       rw[ag o,et]
       rcases kn o (xs.length*L.size)with h'|h'
       ·exact h'
       ·exact absurd ho (hfree o h')) be bi
      have bm:(w.setRow B cur').heap[B]? =some (.cells cur' e (0,0)):=setRow_heap w _ E _ e _ hh
      have ck:cur'.size=E.size:=by
       rw[<-ar];simp;omega
      have a7:∀q' e' C,fq q' (nH q s.live)=some e'->jq (τ q')=some C->jq (Value.slice (some ⟨B,0,none⟩) (xs.length+D.length) cap)≠some C:=by
       intro q' e' C bs hC am;simp[jq]at am
       exact be q' e' bs (by rw[hC,am])
      have R2:=R1.tX (id:=id) (e:=e) (v:=.slice (some ⟨B,0,none⟩) (xs.length+D.length) cap) b0
       (.inr ⟨B,xs.length+D.length,cap,cur',L,rfl,ce,bm,hroom,c2,hi,by rw[ck,ak],λo ho hc=>by
        rcases hc with h|⟨_,h⟩
        ·exact hfree o (by rw[Nat.add_mul]at ho;omega) h
        ·omega⟩) a7 (λb x hb am=>bi b x hb (by simpa[jq]using am.symm))
      refine⟨.dat (.sl (xs++D)) (some id),_,_,_,_,_,aa,⟨?_,λt ht=>by cases ht;rw[cj]⟩,.inr rfl,hK,R2⟩
      -- the longer slice reads as the longer list
      have hmono:∀{x:AV} {v:Value},DV w π x v->DV (w.setRow B cur') (grow π B ((xs.length+D.length)*L.size)) x v:=λh=>h.mono (λ_ _ h=>.inl h) (λb o h=>by
       by_cases e':b=B
       ·subst e'
        rw[ul _ _ _ cur' e (0,0) bm,ul _ _ _ E e (0,0) hh,ag o,et]
        rcases kn o (xs.length*L.size)with h'|h'
        ·exact h'
        ·exact absurd h (hfree o h')
       ·exact Ps w _ cur' ⟨b,o,none⟩ e')
      have ba:∀(j:Nat) (x:AV),(xs++D).flatten[j]? =some x->∃v,cur'[j]? =some v/\DV w π x v:=by
       intro j x hx;rw[<-hsplit]at hx;rw[ag j]
       by_cases hj:j<xs.length*L.size
       ·rw[et hj]
        rw[lc (by rw[jr an];exact hj)]at hx
        obtain⟨v,hv,hd⟩:=b3.get hx;exact⟨v,a6 j v hv,hd⟩
       ·rw[ek hj]
        rw[kw (by rw[jr an];omega),jr an]at hx
        obtain⟨v,hv,hd⟩:=ad.get hx
        have:j-xs.length*L.size<news.length:=by
         rcases kn (j-xs.length*L.size) news.length with h'|h'
         ·exact h'
         ·rw[ip h']at hv;cases hv
        rw[et ST]
        exact⟨v,hv,hd⟩
      have ab:xs.length+D.length=(xs++D).length:=TB
      rw[ab]
      refine .sl (xs++D) B 0 cap L.size (λi j=>cur'.getD (i*L.size+j) undef) (by simpa using hroom) (λi r hr=>M r (em hr)) (λi j r x hr hx=>?_) (λi j r x hr hx=>?_) (λi j r x hr hx=>?_) (λi j r x hr hx=>?_)
      ·rcases il.1 (em hr)with hr'|hr'
       ·exact a9 r hr' x (em hx)
       ·exact Z r hr' x (em hx)
      ·refine .inr ⟨rfl,?_⟩
       have hf:=lW M hr hx
       rcases kn (i*L.size+j) ((xs++D).length*L.size)with h'|h'
       ·omega
       ·rw[ip (by rw[jr M];exact h')]at hf;cases hf
      ·obtain⟨v,hv,hd⟩:=ba _ x (lW M hr hx)
       rw[la,ul _ _ _ cur' e (0,0) bm,hv];simp[hv]
      ·obtain⟨v,hv,hd⟩:=ba _ x (lW M hr hx)
       simp only[sa,hv,sm]
       have b7:=hmono hd
       rw[ab]at b7;exact b7
     ·--a new row
      rcases hnews with⟨V,rfl⟩|⟨A,m,c,V,rfl,news,hl,hcell,ao,ad,Z⟩
      ·simp at hroom;omega
      ·have aa:=run_append_grow (P:=P) w t ty e L zv ht hi hz ⟨B,0,none⟩ xs.length cap O ca holds A D.length c news hl hcell ST (by simp only[maxLen]at ac;omega) (growslice_fits ST hbytes)
       have ab:xs.length+D.length=(xs++D).length:=TB
       have c4:(O++news).length=(xs++D).length*L.size:=by simp[ca,hl,Nat.add_mul]
       have bo:jn w π (xs++D).flatten (O++news):=by rw[<-hsplit];exact b3.append ad
       have b1:∀r∈xs++D,∀x∈r,x.scalar=true:=λr hr=>by
        rcases il.1 hr with hr|hr
        ·exact a9 r hr
        ·exact Z r hr
       obtain⟨π',R',cy⟩:=(R.K7 q).grown (old:=cap) hi hz rfl b6 b8 b0 c4 bo M b1 (by rw[<-ab];exact ac) rfl
       rw[V];rw[ab]at aa
       refine⟨.dat (.sl (xs++D)) (some id),_,_,_,FP τ id (.slice (some ⟨w.heap.size,0,none⟩) (xs++D).length (grownCap w (xs++D).length cap e)),π',aa,⟨?_,λt ht=>by cases ht;rw[cj]⟩,.inr rfl,hK,?_⟩
       ·have e1:O.toArray++news.toArray=(O++news).toArray:=TB
        rw[e1];exact cy
       ·have e1:O.toArray++news.toArray=(O++news).toArray:=TB
        rw[e1];exact R'
end
open Go.RowKit (Below)
def Pe(w:World) (π:Nat->Nat->Prop) (P:Program) (t:TypeId) (as:List AV) (v:Value):Prop:=
 if oG P t then∃xs:Array Value,v=.agg xs/\jn w π as xs.toList/\∀a∈as,a.scalar=true
 else∃a,as=[a]/\DV w π a v
section
variable{P:Program} {w:World} {π:Nat->Nat->Prop}
theorem nP:∀{B A:List CK} {as D cs ds:List AV} {e:Bool},B.length=as.length->as.length=D.length->cU (B++A) (as++cs) (D++ds)=some e->∃E L,cU B as D=some E/\cU A cs ds=some L/\e=(E&&L)
 |[],A,[],[],cs,ds,e,_,_,h=>⟨true,e,rfl,h,rfl⟩
 |[],A,[],b::D,_,_,_,_,h,_=>by simp at h
 |[],A,a::as,_,_,_,_,h,_,_=>by simp at h
 |k::B,A,[],_,_,_,_,h,_,_=>by simp at h
 |k::B,A,a::as,[],_,_,_,_,h,_=>by simp at h
 |k::B,A,a::as,b::D,cs,ds,e,hk,M,h=>by
  simp only[s9,cU]at h;split at h
  ·rename_i x y hx R
   cases h
   obtain⟨E,L,V,O,Z⟩:=nP (by simpa using hk) (by simpa using M) R
   exact⟨x&&E,L,by simp[cU,hx,V],O,by rw[Z,Bool.and_assoc]⟩
  ·cases h
theorem y7{t:TypeId} {z:Nat} (hz:gq P t=some z) {d:TypeDesc} (Z:P.underlying t=some d) (L:oG P t=false->z=1) {as:List AV} {xs:Array Value} (hd:jn w π as xs.toList) (hs:∀a∈as,a.scalar=true) {off:Nat} (aa:off+z<=as.length):
  ∃v,(part t xs off).run P w=.ok v w/\Pe w π P t ((as.drop off).take z) v:=by
 have O:=yZ (P:=P) (w:=w) Z
 have V:=eH (P:=P) (w:=w) hz
 have hl:xs.size=as.length:=by have:=hd.1;simp at this;omega
 cases D:oG P t with
 |true=>
  refine⟨.agg (xs.extract off (off+z)),by simp[part,O,D,V],?_⟩
  unfold Pe;rw[et D]
  refine⟨_,rfl,⟨by simp;omega,λi a v B R=>?_⟩,λa B=>hs a (nf (tl B))⟩
  rw[s8]at B;split at B
  ·rename_i hi
   rw[lh]at B;refine hd.2 (off+i) a v B ?_
   have:xs.toList[off+i]? =(xs.extract off (off+z)).toList[i]?:=by
    simp only[Array.getElem?_toList,Array.getElem?_extract]
    rw[et ST]
   rw[this];exact R
  ·cases B
 |false=>
  have M:=L D
  subst M
  have E:off<xs.size:=ST
  refine⟨xs[off],by simp[part,O,D,E],?_⟩
  unfold Pe
  rw[ek (by simp[D])]
  have A:off<as.length:=ST
  refine⟨as[off],?_,hd.2 off _ _ (dT A) (by simp[E])⟩
  rw[List.drop_eq_getElem_cons A];rfl
theorem y8{d t:Nat} {D:List CK} (h:nJ P d t=some D):∃u,P.underlying t=some u/\(oG P t=false->D.length=1):=by
 cases d with
 |zero=>simp[nJ]at h
 |succ d=>
  simp only[nJ]at h
  split at h<;>first|(rename_i A;cases h;exact⟨_,A,λ_=>rfl⟩)|skip
  ·rename_i E A;exact⟨_,A,λB=>by simp[oG,A]at B⟩
  ·rename_i k e A;exact⟨_,A,λB=>by simp[oG,A]at B⟩
  ·cases h
theorem oN{k:CK} {a b:AV} {e:Bool} (h:cU [k] [a] [b]=some e):ru k a b=some e:=by
 simp only[cU]at h;split at h
 ·rename_i x y B A;cases h;cases A;simp[B]
 ·cases h
theorem oO:∀{A:List CK} {as B:List AV} {e:Bool},cU A as B=some e->A.length=as.length/\as.length=B.length
 |[],[],[],e,h=>⟨rfl,rfl⟩
 |[],[],b::B,_,h=>by simp[cU]at h
 |[],a::as,_,_,h=>by simp[cU]at h
 |k::A,[],_,_,h=>by simp[cU]at h
 |k::A,a::as,[],_,h=>by simp[cU]at h
 |k::A,a::as,b::B,e,h=>by
  simp only[cU]at h;split at h
  ·rename_i x y M E
   obtain⟨L,D⟩:=oO E;simp[L,D]
  ·cases h
theorem W4:∀(d:Nat) (t:TypeId) (ks:List CK),nJ P d t=some ks->∀(D:Nat),d<=D->∀(as bs:List AV) (x y:Value) (e:Bool),Pe w π P t as x->Pe w π P t bs y->cU ks as bs=some e->
  (Op.equalIn D t x y).run P w=.ok e w:=by
 intro d
 induction d with
 |zero=>intro t ks h;simp[nJ]at h
 |succ d ih=>
  intro t ks h D hD as bs x y e hx hy he
  obtain⟨D,rfl⟩:∃D',D=D'+1:=⟨D-1,ST⟩
  obtain⟨hla,hlb⟩:=oO he;simp only[nJ]at h
  -- the fields,one behind the other
  have hfields:∀(fs:List Field) (off:Nat) (ls:List CK),IT P (nJ P d) fs off=some ls->∀(xs ys:Array Value) (e:Bool),jn w π as xs.toList->(∀a∈as,a.scalar=true)->jn w π bs ys.toList->(∀a∈bs,a.scalar=true)->cU ls (as.drop off) (bs.drop off)=some e->(Op.eqFields D xs ys fs).run P w=.ok e w:=by
   intro fs
   induction fs with
   |nil=>
    intro off ls ht xs ys e h1 h2 h3 h4 he;simp[IT]at ht;subst ht;obtain⟨k1,k2⟩:=oO he
    have n1:as.drop off=[]:=List.eq_nil_of_length_eq_zero k1.symm
    have n2:bs.drop off=[]:=List.eq_nil_of_length_eq_zero (by rw[<-k2,<-k1];rfl)
    rw[n1,n2]at he;simp[cU]at he;subst he;rfl
   |cons f fs ihf=>
    intro off ls ht xs ys e h1 h2 h3 h4 he;simp only[IT]at ht;split at ht
    ·cases ht
    ·rename_i hname
     split at ht
     ·rename_i ms hz
      split at ht
      ·rename_i hsz
       obtain⟨hsz,hpos⟩:=hsz;simp only[Option.map_eq_some_iff]at ht;obtain⟨ls',ht,rfl⟩:=ht;obtain⟨k1,k2⟩:=oO he;simp only[List.length_append,List.length_drop]at k1 k2;obtain⟨u,hu,hone⟩:=y8 hz
       have hoff:f.offset=off:=by
        have:=not_or.1 hname
        simpa using this.2
       have hnm : f.name ≠ "_" := (not_or.1 hname).1
       have hma:off+ms.length<=as.length:=ST
       obtain⟨va,hva,hVa⟩:=y7 (P:=P) hsz hu hone h1 h2 (off:=off) ST
       obtain⟨vb,hvb,hVb⟩:=y7 (P:=P) hsz hu hone h3 h4 (off:=off) ST
       have hsplit:∀l:List AV,l.drop off=(l.drop off).take ms.length++l.drop (off+ms.length):=by
        intro l;rw[<-List.drop_drop,List.take_append_drop]
       rw[hsplit as,hsplit bs]at he
       obtain⟨e1,e2,he1,he2,rfl⟩:=nP (by simp;omega) (by simp;omega) he
       have hr:=ih f.type ms hz D ST _ _ va vb e1 hVa hVb he1
       have hrest:=ihf (off+ms.length) ls' ht xs ys e2 h1 h2 h3 h4 he2
       simp only[Op.eqFields,if_pos hnm,hoff,Sem.run_bind,hva,hvb,Result.andThen_ok,hr];cases e1
       ·simp
       ·simpa using hrest
      ·cases ht
     ·cases ht
  have hscalar:oG P t=false->∃a b,as=[a]/\bs=[b]/\DV w π a x/\DV w π b y:=by
   intro hg;simp only[Pe,hg,Bool.false_eq_true,if_false]at hx hy;obtain⟨a,rfl,ha⟩:=hx;obtain⟨b,rfl,hb⟩:=hy;exact⟨a,b,rfl,rfl,ha,hb⟩
  split at h
  ·rename_i hu
   cases h
   obtain⟨a,b,rfl,rfl,ha,hb⟩:=hscalar (by simp[oG,hu])
   have hc:=oN he
   cases a<;>cases b<;>simp only[ru]at hc<;>try(cases hc;done)
   cases ha;cases hb;cases hc;exact run_equalIn_bool' w D t _ _ hu
  ·rename_i k hu
   cases h
   obtain⟨a,b,rfl,rfl,ha,hb⟩:=hscalar (by simp[oG,hu])
   have hc:=oN he
   cases a<;>cases b<;>simp only[ru]at hc<;>try(cases hc;done)
   split at hc
   ·rename_i hk
    subst hk;cases ha;cases hb;cases hc;exact run_equalIn_int w D t _ k _ _ hu
   ·cases hc
  ·rename_i k hu
   cases h
   obtain⟨a,b,rfl,rfl,ha,hb⟩:=hscalar (by simp[oG,hu])
   have hc:=oN he
   cases a<;>cases b<;>simp only[ru]at hc<;>try(cases hc;done)
   split at hc
   ·rename_i hk
    subst hk;cases ha;cases hb;cases hc;simp[Op.equalIn,run_underlying hu,Op.floatEq]
   ·cases hc
  ·rename_i hu
   cases h
   obtain⟨a,b,rfl,rfl,ha,hb⟩:=hscalar (by simp[oG,hu])
   have hc:=oN he
   cases a<;>cases b<;>simp only[ru]at hc<;>try(cases hc;done)
   cases ha;cases hb;cases hc;simp[Op.equalIn,run_underlying hu]
  ·rename_i fs hu
   split at h
   ·cases h
   ·rename_i hst
    simp only[Pe,oG,hu,if_true]at hx hy;obtain⟨xs,rfl,hxd,hxs⟩:=hx;obtain⟨ys,rfl,hyd,hys⟩:=hy
    have hfo:P.fieldsOf t=fs:=by simp[Program.fieldsOf,hu]
    rw[run_equalIn_struct w D t xs ys (by rw[hfo];exact hu) (by simpa using hst),hfo]
    exact hfields fs.toList 0 ks h xs ys e hxd hxs hyd hys (by simpa using he)
  ·rename_i k el hu
   split at h
   ·rename_i ms hz
    split at h
    ·rename_i hsz
     cases h;simp only[Pe,oG,hu,if_true]at hx hy;obtain⟨xs,rfl,hxd,hxs⟩:=hx;obtain⟨ys,rfl,hyd,hys⟩:=hy
     obtain⟨i,hi⟩:∃i,P.info? el=some i:=by
      simp only[gq,Option.map_eq_some_iff]at hsz;obtain⟨i,hi,_⟩:=hsz;exact⟨i,hi⟩
     rw[run_equalIn_array w D xs ys hu hi];obtain⟨u,hue,hone⟩:=y8 hz
     have hcz:P.cellsOf el=ms.length:=by
      have:=hsz
      simp only[gq]at this;simp[Program.cellsOf,this]
     rw[hcz]
     have hlk:as.length=k*ms.length:=by rw[<-hla];simp
     -- item by item
     have hitems:∀(m off:Nat),off+m=k->∀e,cU (List.replicate m ms).flatten (as.drop (off*ms.length)) (bs.drop (off*ms.length))=some e->(Op.eqItems D el ms.length xs ys ((List.range m).map (· +off))).run P w=.ok e w:=by
      intro m
      induction m with
      |zero=>
       intro off hoff e2 he2
       have hoff':off=k:=ST
       rw[hoff']at he2
       have n1:as.drop (k*ms.length)=[]:=List.drop_eq_nil_of_le ST
       have n2:bs.drop (k*ms.length)=[]:=List.drop_eq_nil_of_le ST
       rw[n1,n2]at he2;simp[cU]at he2;subst he2;rfl
      |succ m ihm=>
       intro off hoff e he
       have hle:off*ms.length+ms.length<=k*ms.length:=by
        have:(off+1)*ms.length<=k*ms.length:=Nat.mul_le_mul_right ms.length ST
        rw[Nat.add_mul]at this;omega
       obtain⟨va,hva,hVa⟩:=y7 (P:=P) hsz hue hone hxd hxs (off:=off*ms.length) ST
       obtain⟨vb,hvb,hVb⟩:=y7 (P:=P) hsz hue hone hyd hys (off:=off*ms.length) ST
       have hsplit:∀l:List AV,l.drop (off*ms.length)=(l.drop (off*ms.length)).take ms.length++l.drop ((off+1)*ms.length):=by
        intro l
        rw[show(off+1)*ms.length=off*ms.length+ms.length by rw[Nat.add_mul];omega,<-List.drop_drop,List.take_append_drop]
       rw[hsplit as,hsplit bs,List.replicate_succ,List.flatten_cons]at he
       obtain⟨e1,e2,he1,he2,rfl⟩:=nP (by simp;omega) (by simp;omega) he
       have hr:=ih el ms hz D ST _ _ va vb e1 hVa hVb he1
       have hrest:=ihm (off+1) ST e2 he2
       have hl:(List.range (m+1)).map (· +off)=off::(List.range m).map (· +(off+1)):=by
        rw[List.range_succ_eq_map];simp;intro q _;omega
       rw[hl];simp only[Op.eqItems,Sem.run_bind,hva,hvb,Result.andThen_ok,hr];cases e1
       ·simp
       ·simpa using hrest
     have:=hitems k 0 ST e (by simpa using he)
     simpa using this
    ·cases h
   ·cases h
  ·cases h
end
end Go.Eng
