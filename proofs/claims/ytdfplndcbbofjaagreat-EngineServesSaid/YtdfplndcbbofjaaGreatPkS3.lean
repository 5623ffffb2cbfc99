/- Part 3 of the engine and its library. -/
import Derived.Test.YtdfplndcbbofjaaGreatPkS2
set_option linter.all false
set_option maxRecDepth 10000
set_option maxHeartbeats 4000000
namespace Go.Eng
open Go
open Go.RowKit (Below)
section
variable{P:Program} {nt:Nat} {n0:ju} {w0:World} {π0:Nat->Nat->Prop} {U:Nat->Prop} {s:S} {a:Act} {w:World} {β:Nat->Nat} {τ:Nat->Value} {π:Nat->Nat->Prop}
theorem Rel.FK(R:Rel P nt n0 w0 π0 U s a w β τ π) (z:Nat):∀(Xs:List (Nat×Operand)) (xs:List bn) (rows:List (List AV)) (k:Nat) (pre tail:List AV) (us:Array Value),
  Xs.map (·.1)=(List.range Xs.length).map (· +k)->Xs.mapM (λp=>bV p.2)=some xs->lp s z xs=some rows->iy w π (pre++tail) us.toList->(∀c∈pre++tail,c.scalar=true)->pre.length=k*z->tail.length=Xs.length*z->
  ∃B,Instr.fill (λi=>some (i*z,z)) us (Xs.map λp=>(p.1,a.eval p.2))=some B/\iy w π (pre++rows.flatten) B.toList/\(∀c∈pre++rows.flatten,c.scalar=true)/\rows.length=Xs.length/\∀r∈rows,r.length=z
 |[],xs,rows,k,pre,tail,us,h1,V,A,hd,hs,hp,ht=>by
  simp at V;subst V;simp[lp]at A;subst A
  have:tail=[]:=rc (by simpa using ht)
  subst this
  exact⟨us,rfl,by simpa using hd,by simpa using hs,rfl,TB⟩
 |(i,X)::Xs,xs,rows,k,pre,tail,us,h1,V,A,hd,hs,hp,ht=>by
  simp only[vd,p7,kb,xf,gg]at V;obtain⟨x,hx,ae,am,rfl⟩:=V;simp only[lp]at A;split at A
  ·rename_i av L ak O
   split at A
   ·rename_i Z
    obtain⟨Z,a2⟩:=Z;cases A
    have hi:i=k:=by
     have:=pb (λl=>l[0]?) h1
     simpa using this
    subst hi
    have au:Xs.map (·.1)=(List.range Xs.length).map (· +(i+1)):=by
     have aa:=pb List.tail h1
     simp only[l4,List.tail_cons,fl,List.range_succ_eq_map,List.map_map]at aa;rw[aa]
     apply ti
     intro q _;simp;omega
    have ao:=R.aF hx ak
    obtain⟨ab,a4⟩:=ao.cells (λvs e=>by subst e;simp[iL]at a2)
    have an:(a.eval X).cells.size=z:=by have:=ab.1;simp at this;omega
    have a7:us.size=pre.length+tail.length:=by have:=hd.1;simp at this;omega
    have a8:tail.length=Xs.length*z+z:=by rw[ht];simp[Nat.add_mul]
    obtain⟨a6,he,a3,a9⟩:=tq (place:=λi=>some (i*z,z)) (cells:=us) (i:=i) (off:=i*z) (v:=a.eval X) (rest:=Xs.map λp=>(p.1,a.eval p.2)) (by rw[an]) ST
    have ac:=hd.splice ab (off:=i*z) (by simp;omega)
    have al:(pre++tail).take (i*z)++av.cells++(pre++tail).drop (i*z+av.cells.length)=(pre++av.cells)++tail.drop z:=by
     rw[<-hp,List.take_left,Z,PQ,List.drop_eq_nil_of_le ST]
     simp
    rw[al]at ac
    have M:∀c∈(pre++av.cells)++tail.drop z,c.scalar=true:=by
     intro c D;simp only[ka]at D
     rcases D with(D|D)|D
     ·exact hs c (by simp[D])
     ·exact a4 c D
     ·exact hs c (by simp[pm D])
    obtain⟨B,hf,a5,ag,ad,ar⟩:=R.FK z Xs ae L (i+1) (pre++av.cells) (tail.drop z) a6 au am O (by rw[a3];exact ac) M (by simp[hp,Z,Nat.add_mul]) (by simp;omega)
    refine⟨B,by rw[l4,he];exact hf,by simpa[List.append_assoc]using a5,by simpa[List.append_assoc]using ag,by simp[ad],?_⟩
    intro r hr
    rcases lw.1 hr with rfl|hr
    ·exact Z
    ·exact ar r hr
   ·cases A
  ·cases A
theorem Rel.buildSlice(R:Rel P nt n0 w0 π0 U s a w β τ π) {t e:TypeId} {n z:Nat} {Xs:Array (Nat×Operand)} {zs:List AV} {xs:List bn} (ht:P.underlying t=some (.slice e)) (a9:zeroOf P e=some zs) (hz:eI P e=some z)
  (a4:Xs.toList.mapM (λp=>bV p.2)=some xs) (al:(n*z<=16777216&&0<z&&zs.length==z&&Xs.toList.map (·.1)==List.range n)=true) {id:Nat} (bi:¬U id) {K:SV->S->Prop} (h:bB (Pure P) id (.PG e z xs) K s):
  ∃v y s' w' τ' π',(Instr.buildSlice t n (Xs.map λ(i,x)=>(i,a.eval x))).run P w=.ok y w'/\RV β τ' w' π' v y/\v.fJ (dZ U id)/\K v s'/\Rel P nt n0 w0 π0 (dZ U id) s' a w' β τ' π':=by
 simp only[bB]at h;obtain⟨rows,ae,hK⟩:=af h;simp only[dT,gn,lc]at al;obtain⟨⟨⟨hn,ab⟩,a8⟩,aa⟩:=al
 obtain⟨zv,bd,ag,an⟩:=rD (P:=P) (w:=w) (π:=π) a9
 have M:Xs.toList.length=n:=by have:=pb List.length aa;simpa using this
 have au:zv.cells.size=z:=by have:=ag.1;simp at this;omega
 -- the row of zeros that is filled
 have ad:iy w π ([]++(List.range (n*z)).map λi=>zs.getD (i%z) default) ((Array.range (n*z)).map (zv.cells[· %zv.cells.size]!)).toList:=by
  refine⟨TB,λi c u A hu=>?_⟩
  simp only[lr,jp,Array.toList_map,Array.toList_range]at A hu
  by_cases hi:i<n*z
  ·have hm:i%z<z:=In _ ab
   rw[kh hi]at A hu;simp only[mi,gg]at A hu;subst A;subst hu
   have h1:zs[i%z]? =some (zs.getD (i%z) default):=by
    rw[fi,et ST];simp
   have h2:zv.cells.toList[i%z]? =some (zv.cells[i%zv.cells.size]!):=by
    rw[au]
    have:i%z<zv.cells.size:=ST
    simp[this]
   exact ag.2 _ _ _ h1 h2
  ·rw[iv (by simp;omega)]at A
   simp at A
 have O:∀c∈([]:List AV)++(List.range (n*z)).map λi=>zs.getD (i%z) default,c.scalar=true:=by
  intro c A;simp only[lr,kp,ib]at A;obtain⟨i,hi,rfl⟩:=A
  have hm:i%z<zs.length:=by rw[a8];exact In _ ab
  rw[fi,et hm];exact an _ (GT hm)
 obtain⟨L,hf,hd,hs,ao,ak⟩:=R.FK z Xs.toList xs rows 0 [] _ _ (by rw[aa,M];simp) a4 ae ad O TB (by simp[M])
 simp only[lr]at hd hs
 have D:rows.length=n:=by rw[ao,M]
 have Z:L.size=n*z:=by have:=hd.1;rw[iA ak,D]at this;simpa using this.symm
 obtain⟨R',ba⟩:=R.newRow (xs:=rows) (z:=z) (cap:=n) (cs:=L) e ak ST (by rw[D];omega) (λi x v hx hv=>hd.2 i x v hx (by simpa using hv)) (λr hr x hx=>hs x (Ix.2 ⟨r,hr,hx⟩))
 obtain⟨i,hi,V⟩:∃i,P.info? e=some i/\i.size=z:=by
  simp only[eI,em]at hz;obtain⟨i,hi,a6⟩:=hz;exact⟨i,hi,a6⟩
 have ar:n0.n<=w.heap.size:=kf R.fc R.below.size
 have R2:=R'.rF (v:=.slice (some ⟨w.heap.size,0,none⟩) rows.length n) bi (by
   refine .inr ⟨w.heap.size,rows.length,n,L,i,rfl,.inl ar,Id w _,ST,?_,hi,by rw[V];exact Z,λo ho A=>?_⟩
   ·have:=Hm n ab
    simp only[maxLen];omega
   ·rw[V]at ho
    rcases A with h|⟨_,h⟩
    ·have:=R.ez _ _ h;omega
    ·omega)
  (λq e' B hq hB ac=>by
   have h1:=((R.live q e' hq).2.block hB).2
   simp[iz]at ac
   omega)
  (λb x hb ac=>by
   obtain⟨_,_,⟨bj,el,hh,_⟩,_⟩:=R.boxes b x hb
   have:=ng hh
   simp[iz]at ac
   omega)
 refine⟨.dat (.sl rows) (some id),_,_,_,_,_,?_,⟨ba,λt ht=>by cases ht;rw[bP]⟩,.inr rfl,hK,R2⟩
 have a2:¬(n*z>16777216):=ST
 have a3:(Xs.map λ(i,x)=>(i,a.eval x)).toList=Xs.toList.map λp=>(p.1,a.eval p.2):=TB
 by_cases am:n*z=0
 ·have be:n=0:=by
   rcases Nat.mul_eq_zero.1 am with h|h
   ·exact h
   ·omega
  subst be
  have hX:Xs.toList=[]:=rc M
  have a7:L=#[]:=by
   apply Array.eq_empty_of_size_eq_zero
   rw[Z];simp
  have a5:Xs=#[]:=by cases Xs;simp at hX;subst hX;rfl
  subst a5 a7
  simp[Instr.buildSlice,il ht,dL (w:=w) hz,Instr.fill,Go.newRow,D]
  congr 2
  exact Array.eq_empty_of_size_eq_zero TB
 ·simp only[Instr.buildSlice,fp,il ht,fo,dL (w:=w) hz]
  rw[fx (by simpa using a2)]
  simp only[am,ik,fp,i8,fo,bd,a3,hf,Go.newRow,run_newObj,D];rfl
theorem DV.news{R:List (List AV)} {B off m c:Nat} {z:Nat} (h:DV w π (.sl R) (.slice (some ⟨B,off,none⟩) m c)) (hz:∀r∈R,r.length=z):
  m=R.length/\∃news:List Value,news.length=m*z/\(∀j u,news[j]? =some u->w.cell? ((⟨B,off,none⟩:Addr).add j)=some u)/\(∀u∈news,u.oneCell'=true)/\iy w π R.flatten news/\∀r∈R,∀x∈r,x.scalar=true:=by
 cases h with
 |K1 _=>exact⟨rfl,[],TB,TB,TB,⟨rfl,TB⟩,TB⟩
 |sl _ _ _ cap M f h1 h2 h3 h4 h5 h6=>
  refine⟨rfl,?_⟩
  have ae:=iA hz
  -- every place of the row is some element's
  have ad:∀q,q<R.length*z->∃(i j:Nat) (r:List AV) (x:AV),R[i]? =some r/\r[j]? =some x/\q=i*z+j/\R.flatten[q]? =some x/\M=z:=by
   intro q V
   have D:0<z:=by
    rcases sd z with e|e
    ·subst e;simp at V
    ·exact e
   have hi:q/z<R.length:=by rw[Nat.div_lt_iff_lt_mul D];exact V
   have O:=et hi
   have ag:=hz _ (GT hi)
   have hj:q%z<(R[q/z]).length:=by rw[ag];exact In _ D
   have A:=et hj
   have al:q/z*z+q%z=q:=by rw[p4];exact Hd q z
   refine⟨q/z,q%z,_,_,O,A,al.symm,?_,by rw[<-h2 _ _ O,ag]⟩
   have:=kj hz O A
   rwa[al]at this
  refine⟨(List.range (R.length*z)).map λq=>f (q/z) (q%z),TB,?_,?_,⟨by simp[ae],?_⟩,λr O x A=>?_⟩
  ·intro q u hu
   have V:q<R.length*z:=by
    rcases ix q (R.length*z)with h'|h'
    ·exact h'
    ·rw[iv (by simp;omega)]at hu;cases hu
   obtain⟨i,j,r,x,O,A,he,_,ab⟩:=ad q V;subst ab
   have D:0<M:=by
    rcases sd M with e|e
    ·subst e;simp at V
    ·exact e
   have L:j<M:=by
    rw[<-h2 _ _ O]
    rcases ix j r.length with h'|h'
    ·exact h'
    ·rw[iv h']at A;cases A
   have Z:q/M=i:=by rw[he,p4,Nat.mul_add_div D,yk L,py]
   have aa:q%M=j:=by rw[he,p4,Nat.mul_add_mod,pu L]
   simp only[jp,kh V,mi,gg]at hu;subst hu;rw[gG,Z,aa,he,<-B0];exact h5 i j r x O A
  ·intro u hu
   simp only[kp,ib]at hu;obtain⟨q,V,rfl⟩:=hu;obtain⟨i,j,r,x,O,A,he,_,ab⟩:=ad q V;subst ab
   have D:0<M:=by
    rcases sd M with e|e
    ·subst e;simp at V
    ·exact e
   have L:j<M:=by
    rw[<-h2 _ _ O]
    rcases ix j r.length with h'|h'
    ·exact h'
    ·rw[iv h']at A;cases A
   have Z:q/M=i:=by rw[he,p4,Nat.mul_add_div D,yk L,py]
   have aa:q%M=j:=by rw[he,p4,Nat.mul_add_mod,pu L]
   rw[Z,aa];exact(h6 i j r x O A).Jv (h3 i j r x O A)
  ·intro q x u A hu
   have V:q<R.length*z:=by
    rcases ix q (R.length*z)with h'|h'
    ·exact h'
    ·rw[iv (by rw[ae];omega)]at A;cases A
   obtain⟨i,j,r,x',O,ac,he,ak,ab⟩:=ad q V;subst ab
   have am:x=x':=by rw[A]at ak;exact vx ak
   subst am
   have D:0<M:=by
    rcases sd M with e|e
    ·subst e;simp at V
    ·exact e
   have L:j<M:=by
    rw[<-h2 _ _ O]
    rcases ix j r.length with h'|h'
    ·exact h'
    ·rw[iv h']at ac;cases ac
   have Z:q/M=i:=by rw[he,p4,Nat.mul_add_div D,yk L,py]
   have aa:q%M=j:=by rw[he,p4,Nat.mul_add_mod,pu L]
   simp only[jp,kh V,mi,gg]at hu;subst hu;rw[Z,aa];exact h6 i j r x O ac
  ·obtain⟨i,hi⟩:=mr.1 O
   obtain⟨j,hj⟩:=mr.1 A
   exact h3 i j r x hi hj
theorem Rel.jS(R:Rel P nt n0 w0 π0 U s a w β τ π) {b:Nat} {x:cI} (h:b9 b s.boxes=some x):β b<w.heap.size:=by
 obtain⟨_,_,⟨B,D,A,_⟩,_⟩:=R.boxes b x h;exact ng A
theorem Rel.grown(R:Rel P nt n0 w0 π0 U s a w β τ π) {id e z old:Nat} {i:TypeInfo} {zv:Value} (hi:P.info? e=some i) (hz:i.zero=some zv) (M:i.size=z) (ad:zv.cells.size=z) (ak:0<z) (ag:¬U id) {zs:List (List AV)} {vs:List Value} (V:vs.length=zs.length*z) (hd:iy w π zs.flatten vs) (A:∀r∈zs,r.length=z) (ae:∀r∈zs,∀x∈r,x.scalar=true)
  (ab:zs.length<=maxLen) {cs:Array Value} (O:cs=vs.toArray++Builtin.zeroCells zv.cells (grownCap w zs.length old e-zs.length)):
  ∃π',Rel P nt n0 w0 π0 (dZ U id) {s with live:=(id,e)::s.live} a (w.drew.alloc (.cells cs e)) β (CG τ id (.slice (some ⟨w.heap.size,0,none⟩) zs.length (grownCap w zs.length old e))) π'/\
   DV (w.drew.alloc (.cells cs e)) π' (.sl zs) (.slice (some ⟨w.heap.size,0,none⟩) zs.length (grownCap w zs.length old e)):=by
 have D:=grownCap_ge w zs.length old e
 have aa:grownCap w zs.length old e<=maxLen:=grownCap_le_maxLen w zs.length old e ab
 have hsize:cs.size=grownCap w zs.length old e*z:=by
  rw[O];simp only[Array.size_append,List.size_toArray,size_zeroCells,ad,V,<-Nat.add_mul]
  congr 1;omega
 have Z:n0.n<=w.heap.size:=kf R.fc R.below.size
 obtain⟨R',ac⟩:=R.draw.newRow (xs:=zs) (z:=z) (cap:=grownCap w zs.length old e) (cs:=cs) e A D (by rw[hsize];exact io _ D)
  (λq x v hx hv=>by
   have hq:q<vs.length:=by
    rw[V,<-iA A]
    rcases ix q zs.flatten.length with h'|h'
    ·exact h'
    ·rw[iv h']at hx;cases hx
   rw[O,Array.getElem?_append_left (by simpa using hq)]at hv
   exact DV.mono (w:=w) (w':=w.drew) (π:=π) (λ_ _ h=>h) (λ_ _ _=>rfl) (hd.2 q x v hx (by simpa using hv))) ae
 refine⟨_,R'.rF ag ?_ ?_ ?_,ac⟩
 ·refine .inr ⟨w.heap.size,zs.length,grownCap w zs.length old e,cs,i,rfl,.inl Z,Id w.drew _,D,aa,hi,by rw[M];exact hsize,λo ho hc=>?_⟩
  rw[M]at ho
  rcases hc with h|⟨_,h⟩
  ·have:=R.ez _ _ h;omega
  ·omega
 ·intro q e' B hq hB L
  have h1:=((R.live q e' hq).2.block hB).2
  simp[iz]at L;omega
 ·intro b x hb L
  have:=R.jS hb
  simp[iz]at L;omega
theorem Rel.append(R:Rel P nt n0 w0 π0 U s a w β τ π) {t e:TypeId} {i:TypeInfo} {zv:Value} {X Y:Operand} {x y:bn} (ht:P.underlying t=some (.slice e)) (hi:P.info? e=some i) (hz:i.zero=some zv) (b6:(0<i.size&&zv.cells.size==i.size&&0<i.bytes)=true)
  (hx:bV X=some x) (hy:bV Y=some y) {id:Nat} (b1:¬U id) (ty:TypeId) {K:SV->S->Prop} (h:bB (Pure P) id (.app e i.size i.bytes x y) K s):
  ∃v u s' w' τ' π',(Builtin.append_ #[t,t] ty #[a.eval X,a.eval Y]).run P w=.ok u w'/\RV β τ' w' π' v u/\v.fJ (dZ U id)/\K v s'/\Rel P nt n0 w0 π0 (dZ U id) s' a w' β τ' π':=by
 simp only[dT,gn,lc]at b6;obtain⟨⟨ca,b7⟩,c2⟩:=b6;simp only[bB]at h;obtain⟨p,hp,k1⟩:=af h;obtain⟨hr,hU⟩:=R.bK hx hp
 cases p with
 |ptr _ _=>exact k1.elim
 |rp _=>exact k1.elim
 |undef=>exact k1.elim
 |vs _ _ _ _=>exact k1.elim
 |tW _ _ _=>exact k1.elim
 |raw _ _=>exact k1.elim
 |pt _ _=>exact k1.elim
 |dat av q=>
  obtain⟨xs,a5,k2⟩:=af k1;obtain⟨b,hb,k3⟩:=af k2;obtain⟨D,a3,hbytes,ao,bm,k4⟩:=af k3;obtain⟨am,ct⟩:=hr
  have a6:=R.aF hy hb
  have cx:∀n,U n->dZ U id n:=λn h=>.inl h
  -- what is appended: nil,or a slice whose cells are known
  have hnews:(a.eval Y=.slice none 0 0/\D=[])\/∃(A:Addr) (m c:Nat),a.eval Y=.slice (some A) m c/\m=D.length/\∃news:List Value,news.length=m*i.size/\(∀j u,news[j]? =some u->w.cell? (A.add j)=some u)/\(∀u∈news,u.oneCell'=true)/\iy w π D.flatten news/\∀r∈D,∀x∈r,x.scalar=true:=by
   cases b<;>simp only[rowsOf]at a3<;>try(cases a3;done)
   ·cases a3
    generalize a.eval Y=v at a6;cases a6;exact .inl ⟨rfl,rfl⟩
   ·cases a3
    generalize a.eval Y=v at a6
    cases a6 with
    |K1 A=>exact .inr ⟨A,0,0,rfl,rfl,[],TB,TB,TB,⟨rfl,TB⟩,TB⟩
    |sl _ B off cap z f h1 h2 h3 h4 h5 h6=>
     obtain⟨hm,hn⟩:=DV.news (.sl D B off cap z f h1 h2 h3 h4 h5 h6) bm
     exact .inr ⟨⟨B,off,none⟩,_,cap,rfl,rfl,hn⟩
  have ad:(xs.length+D.length)<=maxLen:=by
   have:=Hm (xs.length+D.length) c2
   simp only[maxLen];omega
  cases av<;>simp only[rowsOf]at a5<;>try(cases a5;done)
  case bF=>
   cases a5
   have a2:a.eval X=.slice none 0 0:=by generalize a.eval X=v at am;cases am;rfl
   by_cases a4:D=[]
   ·subst a4
    simp only[kv]at k4
    refine⟨.dat .bF none,.slice none 0 0,s,w,τ,π,?_,⟨.bF,λt ht=>by cases ht⟩,trivial,k4,R.sub cx⟩
    rcases hnews with⟨Z,_⟩|⟨A,m,c,Z,hm,news,hl,_⟩
    ·rw[a2,Z]
     simp[Builtin.append_,il ht,sizeOf,typeInfo,hi,Builtin.lenOf,Builtin.firstCells]
    ·simp at hm;subst hm
     rw[a2,Z];simp[Builtin.append_,il ht,sizeOf,typeInfo,hi,Builtin.lenOf,Builtin.firstCells,loadCells,loadCellsFrom]
   ·simp only[a4,ik,lr]at k4
    rcases hnews with⟨_,cr⟩|⟨A,m,c,Z,rfl,news,hl,hcell,ar,ae,aa⟩
    ·exact absurd cr a4
    ·have co:0<D.length:=List.length_pos_iff.2 a4
     simp only[ge,la]at hbytes ad
     have ab:=run_append_nil (P:=P) w t ty e i zv ht hi hz A D.length c news hl hcell co (by simp only[maxLen]at ad;omega) ST
     obtain⟨π',R',bs⟩:=R.grown (old:=0) hi hz rfl b7 ca b1 hl ae bm aa ad rfl
     exact⟨.dat (.sl D) (some id),_,_,_,_,_,by rw[a2,Z];exact ab,⟨bs,λt ht=>by cases ht;rw[bP]⟩,.inr rfl,k4,R'⟩
  case sl l=>
   cases a5
   cases q with
   |none=>exact k4.elim
   |some q=>
    obtain⟨ag,hK⟩:=k4
    have hτ:a.eval X=τ q:=ct q rfl
    obtain⟨da,cu⟩:=R.live q e ag;generalize a2:a.eval X=v at am hτ
    rcases cu with a9|⟨B,len,cap,L,M,ce,ch,hh,c3,c4,b5,al,hfree⟩
    ·rw[<-hτ]at a9
     subst a9;cases am
    ·rw[<-hτ]at ce
     have c5:M=i:=by rw[hi]at b5;exact(vx b5).symm
     subst c5;subst ce
     have be:iz (τ q)=some B:=by rw[<-hτ];rfl
     have ci:len=xs.length:=by cases am<;>rfl
     subst ci;obtain⟨_,V,cb,holds,cy,b4,ba⟩:=DV.news am ao
     have a7:∀(j:Nat) (u:Value),V[j]? =some u->L[j]? =some u:=by
      intro j u hu
      have:=holds j u hu
      rw[gG,la,ww w B j L e (0,0) hh]at this;exact this
     have O:∀r∈xs++D,r.length=M.size:=λr hr=>by
      rcases ka.1 hr with hr|hr
      ·exact ao r hr
      ·exact bm r hr
     -- what is appended,whatever it is,as a list of values
     have hsplit:xs.flatten++D.flatten=(xs++D).flatten:=TB
     have c0:xs.length*M.size<=L.size:=by rw[al];exact io _ c3
     have bi:∀q' e',dY q' (lZ q s.live)=some e'->iz (τ q')≠some B:=by
      intro q' e' b0 an;obtain⟨h1,h2⟩:=jg b0;exact h2 (R.cg q' q e' e B h1 ag an be)
     have bj:∀b x,b9 b s.boxes=some x->β b≠B:=λb x hb e'=>R.cz q e b x ag hb (by rw[be,e'])
     by_cases hroom:xs.length+D.length<=cap
     ·--in place
      have key:∃(news:List Value),news.length=D.length*M.size/\iy w π D.flatten news/\(∀r∈D,∀x∈r,x.scalar=true)/\
        (Builtin.append_ #[t,t] ty #[.slice (some ⟨B,0,none⟩) xs.length cap,a.eval Y]).run P w=.ok (.slice (some ⟨B,0,none⟩) (xs.length+D.length) cap) (w.setRow B (L.toList.take (xs.length*M.size)++news++L.toList.drop (xs.length*M.size+news.length)).toArray):=by
       rcases hnews with⟨Z,rfl⟩|⟨A,m,c,Z,rfl,news,hl,hcell,ar,ae,aa⟩
       ·refine⟨[],TB,⟨rfl,λi a v h=>by simp at h⟩,TB,?_⟩
        rw[Z]
        have b3:w.setRow B (L.toList.take (xs.length*M.size)++[]++L.toList.drop (xs.length*M.size+([]:List Value).length)).toArray=w:=by
         have:=setRow_self w B L e (0,0) hh
         simpa using this
        rw[b3];simp at hroom;simp[Builtin.append_,il ht,sizeOf,typeInfo,hi,Builtin.lenOf,Builtin.firstCells,hroom,storeCells]
       ·refine⟨news,hl,ae,aa,?_⟩
        rw[Z]
        exact run_append_room (P:=P) w t ty e M ht hi B xs.length cap L hh A D.length c news hl hcell ar hroom (by rw[hl,al,<-Nat.add_mul];exact io _ hroom)
      obtain⟨news,hl,ae,aa,ab⟩:=key
      have cv:xs.length*M.size+news.length<=L.size:=by rw[hl,al,<-Nat.add_mul];exact io _ hroom
      have ck:=gH L.toList news (xs.length*M.size) (by simpa using cv)
      generalize au:(L.toList.take (xs.length*M.size)++news++L.toList.drop (xs.length*M.size+news.length)).toArray=cur' at ab
      have ak:∀o,cur'[o]? =if o<xs.length*M.size then L[o]? else if o<xs.length*M.size+news.length then news[o-xs.length*M.size]? else L[o]?:=by
       intro o;rw[<-au,If,ck];simp
      have R1:=(R.H6 q).FJ (m:=(xs.length+D.length)*M.size) (cur':=cur') ch hh (λo ho=>by
       rw[ak o,gc]
       rcases ix o (xs.length*M.size)with h'|h'
       ·exact h'
       ·exact absurd ho (hfree o h')) bi bj
      have bo:(w.setRow B cur').heap[B]? =some (.cells cur' e (0,0)):=setRow_heap w _ L _ e _ hh
      have cp:cur'.size=L.size:=by
       rw[<-au];simp;omega
      have a8:∀q' e' C,dY q' (lZ q s.live)=some e'->iz (τ q')=some C->iz (Value.slice (some ⟨B,0,none⟩) (xs.length+D.length) cap)≠some C:=by
       intro q' e' C b0 hC an;simp[iz]at an
       exact bi q' e' b0 (by rw[hC,an])
      have R2:=R1.rF (id:=id) (e:=e) (v:=.slice (some ⟨B,0,none⟩) (xs.length+D.length) cap) b1
       (.inr ⟨B,xs.length+D.length,cap,cur',M,rfl,ch,bo,hroom,c4,hi,by rw[cp,al],λo ho hc=>by
        rcases hc with h|⟨_,h⟩
        ·exact hfree o (by rw[Nat.add_mul]at ho;omega) h
        ·omega⟩) a8 (λb x hb an=>bj b x hb (by simpa[iz]using an.symm))
      refine⟨.dat (.sl (xs++D)) (some id),_,_,_,_,_,ab,⟨?_,λt ht=>by cases ht;rw[bP]⟩,.inr rfl,hK,R2⟩
      -- the longer slice reads as the longer list
      have hmono:∀{x:AV} {v:Value},DV w π x v->DV (w.setRow B cur') (grow π B ((xs.length+D.length)*M.size)) x v:=λh=>h.mono (λ_ _ h=>.inl h) (λb o h=>by
       by_cases e':b=B
       ·subst e'
        rw[ww _ _ _ cur' e (0,0) bo,ww _ _ _ L e (0,0) hh,ak o,gc]
        rcases ix o (xs.length*M.size)with h'|h'
        ·exact h'
        ·exact absurd h (hfree o h')
       ·exact Ps w _ cur' ⟨b,o,none⟩ e')
      have bd:∀(j:Nat) (x:AV),(xs++D).flatten[j]? =some x->∃v,cur'[j]? =some v/\DV w π x v:=by
       intro j x hx;rw[<-hsplit]at hx;rw[ak j]
       by_cases hj:j<xs.length*M.size
       ·rw[gc hj]
        rw[km (by rw[iA ao];exact hj)]at hx
        obtain⟨v,hv,hd⟩:=b4.get hx;exact⟨v,a7 j v hv,hd⟩
       ·rw[fx hj]
        rw[ll (by rw[iA ao];omega),iA ao]at hx
        obtain⟨v,hv,hd⟩:=ae.get hx
        have:j-xs.length*M.size<news.length:=by
         rcases ix (j-xs.length*M.size) news.length with h'|h'
         ·exact h'
         ·rw[iv h']at hv;cases hv
        rw[gc ST]
        exact⟨v,hv,hd⟩
      have ac:xs.length+D.length=(xs++D).length:=TB
      rw[ac]
      refine .sl (xs++D) B 0 cap M.size (λi j=>cur'.getD (i*M.size+j) undef) (by simpa using hroom) (λi r hr=>O r (ev hr)) (λi j r x hr hx=>?_) (λi j r x hr hx=>?_) (λi j r x hr hx=>?_) (λi j r x hr hx=>?_)
      ·rcases ka.1 (ev hr)with hr'|hr'
       ·exact ba r hr' x (ev hx)
       ·exact aa r hr' x (ev hx)
      ·refine .inr ⟨rfl,?_⟩
       have hf:=kj O hr hx
       rcases ix (i*M.size+j) ((xs++D).length*M.size)with h'|h'
       ·omega
       ·rw[iv (by rw[iA O];exact h')]at hf;cases hf
      ·obtain⟨v,hv,hd⟩:=bd _ x (kj O hr hx)
       rw[la,ww _ _ _ cur' e (0,0) bo,hv];simp[hv]
      ·obtain⟨v,hv,hd⟩:=bd _ x (kj O hr hx)
       simp only[sT,hv,tt]
       have b8:=hmono hd
       rw[ac]at b8;exact b8
     ·--a new row
      rcases hnews with⟨Z,rfl⟩|⟨A,m,c,Z,rfl,news,hl,hcell,ar,ae,aa⟩
      ·simp at hroom;omega
      ·have ab:=run_append_grow (P:=P) w t ty e M zv ht hi hz ⟨B,0,none⟩ xs.length cap V cb holds A D.length c news hl hcell ST (by simp only[maxLen]at ad;omega) (growslice_fits ST hbytes)
       have ac:xs.length+D.length=(xs++D).length:=TB
       have c6:(V++news).length=(xs++D).length*M.size:=by simp[cb,hl,Nat.add_mul]
       have bs:iy w π (xs++D).flatten (V++news):=by rw[<-hsplit];exact b4.append ae
       have b2:∀r∈xs++D,∀x∈r,x.scalar=true:=λr hr=>by
        rcases ka.1 hr with hr|hr
        ·exact ba r hr
        ·exact aa r hr
       obtain⟨π',R',c1⟩:=(R.H6 q).grown (old:=cap) hi hz rfl b7 ca b1 c6 bs O b2 (by rw[<-ac];exact ad) rfl
       rw[Z];rw[ac]at ab
       refine⟨.dat (.sl (xs++D)) (some id),_,_,_,CG τ id (.slice (some ⟨w.heap.size,0,none⟩) (xs++D).length (grownCap w (xs++D).length cap e)),π',ab,⟨?_,λt ht=>by cases ht;rw[bP]⟩,.inr rfl,hK,?_⟩
       ·have e1:V.toArray++news.toArray=(V++news).toArray:=TB
        rw[e1];exact c1
       ·have e1:V.toArray++news.toArray=(V++news).toArray:=TB
        rw[e1];exact R'
end
open Go.RowKit (Below)
def Ms(w:World) (π:Nat->Nat->Prop) (P:Program) (t:TypeId) (as:List AV) (v:Value):Prop:=
 if mY P t then∃xs:Array Value,v=.agg xs/\iy w π as xs.toList/\∀a∈as,a.scalar=true
 else∃a,as=[a]/\DV w π a v
section
variable{P:Program} {w:World} {π:Nat->Nat->Prop}
theorem me:∀{B A:List CK} {as D cs ds:List AV} {e:Bool},B.length=as.length->as.length=D.length->dH (B++A) (as++cs) (D++ds)=some e->∃L M,dH B as D=some L/\dH A cs ds=some M/\e=(L&&M)
 |[],A,[],[],cs,ds,e,_,_,h=>⟨true,e,rfl,h,rfl⟩
 |[],A,[],b::D,_,_,_,_,h,_=>by simp at h
 |[],A,a::as,_,_,_,_,h,_,_=>by simp at h
 |k::B,A,[],_,_,_,_,h,_,_=>by simp at h
 |k::B,A,a::as,[],_,_,_,_,h,_=>by simp at h
 |k::B,A,a::as,b::D,cs,ds,e,hk,O,h=>by
  simp only[ws,dH]at h;split at h
  ·rename_i x y hx V
   cases h
   obtain⟨L,M,Z,R,h3⟩:=me (by simpa using hk) (by simpa using O) V
   exact⟨x&&L,M,by simp[dH,hx,Z],R,by rw[h3,Bool.and_assoc]⟩
  ·cases h
theorem vS{t:TypeId} {z:Nat} (hz:eI P t=some z) {d:TypeDesc} (hu:P.underlying t=some d) (M:mY P t=false->z=1) {as:List AV} {xs:Array Value} (hd:iy w π as xs.toList) (hs:∀a∈as,a.scalar=true) {off:Nat} (aa:off+z<=as.length):
  ∃v,(part t xs off).run P w=.ok v w/\Ms w π P t ((as.drop off).take z) v:=by
 have R:=vQ (P:=P) (w:=w) hu
 have Z:=dL (P:=P) (w:=w) hz
 have hl:xs.size=as.length:=by have:=hd.1;simp at this;omega
 cases D:mY P t with
 |true=>
  refine⟨.agg (xs.extract off (off+z)),by simp[part,R,D,Z],?_⟩
  unfold Ms;rw[gc D]
  refine⟨_,rfl,⟨by simp;omega,λi a v B V=>?_⟩,λa B=>hs a (pm (ut B))⟩
  rw[ul]at B;split at B
  ·rename_i hi
   rw[lh]at B;refine hd.2 (off+i) a v B ?_
   have:xs.toList[off+i]? =(xs.extract off (off+z)).toList[i]?:=by
    simp only[Array.getElem?_toList,Array.getElem?_extract]
    rw[gc ST]
   rw[this];exact V
  ·cases B
 |false=>
  have O:=M D
  subst O
  have L:off<xs.size:=ST
  refine⟨xs[off],by simp[part,R,D,L],?_⟩
  unfold Ms
  rw[fx (by simp[D])]
  have A:off<as.length:=ST
  refine⟨as[off],?_,hd.2 off _ _ (et A) (by simp[L])⟩
  rw[Os A];rfl
theorem vT{d t:Nat} {D:List CK} (h:l6 P d t=some D):∃u,P.underlying t=some u/\(mY P t=false->D.length=1):=by
 cases d with
 |zero=>simp[l6]at h
 |succ d=>
  simp only[l6]at h
  split at h<;>first|(rename_i A;cases h;exact⟨_,A,λ_=>rfl⟩)|skip
  ·rename_i L A;exact⟨_,A,λB=>by simp[mY,A]at B⟩
  ·rename_i k e A;exact⟨_,A,λB=>by simp[mY,A]at B⟩
  ·cases h
theorem ni{k:CK} {a b:AV} {e:Bool} (h:dH [k] [a] [b]=some e):uK k a b=some e:=by
 simp only[dH]at h;split at h
 ·rename_i x y B A;cases h;cases A;simp[B]
 ·cases h
theorem nj:∀{A:List CK} {as B:List AV} {e:Bool},dH A as B=some e->A.length=as.length/\as.length=B.length
 |[],[],[],e,h=>⟨rfl,rfl⟩
 |[],[],b::B,_,h=>by simp[dH]at h
 |[],a::as,_,_,h=>by simp[dH]at h
 |k::A,[],_,_,h=>by simp[dH]at h
 |k::A,a::as,[],_,h=>by simp[dH]at h
 |k::A,a::as,b::B,e,h=>by
  simp only[dH]at h;split at h
  ·rename_i x y O L
   obtain⟨M,D⟩:=nj L;simp[M,D]
  ·cases h
theorem Ua:∀(d:Nat) (t:TypeId) (ks:List CK),l6 P d t=some ks->∀(D:Nat),d<=D->∀(as bs:List AV) (x y:Value) (e:Bool),Ms w π P t as x->Ms w π P t bs y->dH ks as bs=some e->
  (Op.equalIn D t x y).run P w=.ok e w:=by
 intro d
 induction d with
 |zero=>intro t ks h;simp[l6]at h
 |succ d ih=>
  intro t ks h D hD as bs x y e hx hy he
  obtain⟨D,rfl⟩:∃D',D=D'+1:=⟨D-1,ST⟩
  obtain⟨hla,hlb⟩:=nj he;simp only[l6]at h
  -- the fields,one behind the other
  have hfields:∀(fs:List Field) (off:Nat) (ls:List CK),FB P (l6 P d) fs off=some ls->∀(xs ys:Array Value) (e:Bool),iy w π as xs.toList->(∀a∈as,a.scalar=true)->iy w π bs ys.toList->(∀a∈bs,a.scalar=true)->dH ls (as.drop off) (bs.drop off)=some e->(Op.eqFields D xs ys fs).run P w=.ok e w:=by
   intro fs
   induction fs with
   |nil=>
    intro off ls ht xs ys e h1 h2 h3 h4 he;simp[FB]at ht;subst ht;obtain⟨k1,k2⟩:=nj he
    have n1:as.drop off=[]:=List.eq_nil_of_length_eq_zero k1.symm
    have n2:bs.drop off=[]:=List.eq_nil_of_length_eq_zero (by rw[<-k2,<-k1];rfl)
    rw[n1,n2]at he;simp[dH]at he;subst he;rfl
   |cons f fs ihf=>
    intro off ls ht xs ys e h1 h2 h3 h4 he;simp only[FB]at ht;split at ht
    ·cases ht
    ·rename_i hname
     split at ht
     ·rename_i ms hz
      split at ht
      ·rename_i hsz
       obtain⟨hsz,hpos⟩:=hsz;simp only[Option.map_eq_some_iff]at ht;obtain⟨ls',ht,rfl⟩:=ht;obtain⟨k1,k2⟩:=nj he;simp only[List.length_append,List.length_drop]at k1 k2;obtain⟨u,hu,hone⟩:=vT hz
       have hoff:f.offset=off:=by
        have:=not_or.1 hname
        simpa using this.2
       have hnm : f.name ≠ "_" := (not_or.1 hname).1
       have hma:off+ms.length<=as.length:=ST
       obtain⟨va,hva,hVa⟩:=vS (P:=P) hsz hu hone h1 h2 (off:=off) ST
       obtain⟨vb,hvb,hVb⟩:=vS (P:=P) hsz hu hone h3 h4 (off:=off) ST
       have hsplit:∀l:List AV,l.drop off=(l.drop off).take ms.length++l.drop (off+ms.length):=by
        intro l;rw[<-List.drop_drop,List.take_append_drop]
       rw[hsplit as,hsplit bs]at he
       obtain⟨e1,e2,he1,he2,rfl⟩:=me (by simp;omega) (by simp;omega) he
       have hr:=ih f.type ms hz D ST _ _ va vb e1 hVa hVb he1
       have hrest:=ihf (off+ms.length) ls' ht xs ys e2 h1 h2 h3 h4 he2
       simp only[Op.eqFields,if_pos hnm,hoff,Sem.run_bind,hva,hvb,Result.andThen_ok,hr];cases e1
       ·simp
       ·simpa using hrest
      ·cases ht
     ·cases ht
  have hscalar:mY P t=false->∃a b,as=[a]/\bs=[b]/\DV w π a x/\DV w π b y:=by
   intro hg;simp only[Ms,hg,Bool.false_eq_true,if_false]at hx hy;obtain⟨a,rfl,ha⟩:=hx;obtain⟨b,rfl,hb⟩:=hy;exact⟨a,b,rfl,rfl,ha,hb⟩
  split at h
  ·rename_i hu
   cases h
   obtain⟨a,b,rfl,rfl,ha,hb⟩:=hscalar (by simp[mY,hu])
   have hc:=ni he
   cases a<;>cases b<;>simp only[uK]at hc<;>try(cases hc;done)
   cases ha;cases hb;cases hc;exact run_equalIn_bool' w D t _ _ hu
  ·rename_i k hu
   cases h
   obtain⟨a,b,rfl,rfl,ha,hb⟩:=hscalar (by simp[mY,hu])
   have hc:=ni he
   cases a<;>cases b<;>simp only[uK]at hc<;>try(cases hc;done)
   split at hc
   ·rename_i hk
    subst hk;cases ha;cases hb;cases hc;exact run_equalIn_int w D t _ k _ _ hu
   ·cases hc
  ·rename_i k hu
   cases h
   obtain⟨a,b,rfl,rfl,ha,hb⟩:=hscalar (by simp[mY,hu])
   have hc:=ni he
   cases a<;>cases b<;>simp only[uK]at hc<;>try(cases hc;done)
   split at hc
   ·rename_i hk
    subst hk;cases ha;cases hb;cases hc;simp[Op.equalIn,run_underlying hu,Op.floatEq]
   ·cases hc
  ·rename_i hu
   cases h
   obtain⟨a,b,rfl,rfl,ha,hb⟩:=hscalar (by simp[mY,hu])
   have hc:=ni he
   cases a<;>cases b<;>simp only[uK]at hc<;>try(cases hc;done)
   cases ha;cases hb;cases hc;simp[Op.equalIn,run_underlying hu]
  ·rename_i fs hu
   split at h
   ·cases h
   ·rename_i hst
    simp only[Ms,mY,hu,if_true]at hx hy;obtain⟨xs,rfl,hxd,hxs⟩:=hx;obtain⟨ys,rfl,hyd,hys⟩:=hy
    have hfo:P.fieldsOf t=fs:=by simp[Program.fieldsOf,hu]
    rw[run_equalIn_struct w D t xs ys (by rw[hfo];exact hu) (by simpa using hst),hfo]
    exact hfields fs.toList 0 ks h xs ys e hxd hxs hyd hys (by simpa using he)
  ·rename_i k el hu
   split at h
   ·rename_i ms hz
    split at h
    ·rename_i hsz
     cases h;simp only[Ms,mY,hu,if_true]at hx hy;obtain⟨xs,rfl,hxd,hxs⟩:=hx;obtain⟨ys,rfl,hyd,hys⟩:=hy
     obtain⟨i,hi⟩:∃i,P.info? el=some i:=by
      simp only[eI,Option.map_eq_some_iff]at hsz;obtain⟨i,hi,_⟩:=hsz;exact⟨i,hi⟩
     rw[run_equalIn_array w D xs ys hu hi];obtain⟨u,hue,hone⟩:=vT hz
     have hcz:P.cellsOf el=ms.length:=by
      have:=hsz
      simp only[eI]at this;simp[Program.cellsOf,this]
     rw[hcz]
     have hlk:as.length=k*ms.length:=by rw[<-hla];simp
     -- item by item
     have hitems:∀(m off:Nat),off+m=k->∀e,dH (List.replicate m ms).flatten (as.drop (off*ms.length)) (bs.drop (off*ms.length))=some e->(Op.eqItems D el ms.length xs ys ((List.range m).map (· +off))).run P w=.ok e w:=by
      intro m
      induction m with
      |zero=>
       intro off hoff e2 he2
       have hoff':off=k:=ST
       rw[hoff']at he2
       have n1:as.drop (k*ms.length)=[]:=List.drop_eq_nil_of_le ST
       have n2:bs.drop (k*ms.length)=[]:=List.drop_eq_nil_of_le ST
       rw[n1,n2]at he2;simp[dH]at he2;subst he2;rfl
      |succ m ihm=>
       intro off hoff e he
       have hle:off*ms.length+ms.length<=k*ms.length:=by
        have:(off+1)*ms.length<=k*ms.length:=Nat.mul_le_mul_right ms.length ST
        rw[Nat.add_mul]at this;omega
       obtain⟨va,hva,hVa⟩:=vS (P:=P) hsz hue hone hxd hxs (off:=off*ms.length) ST
       obtain⟨vb,hvb,hVb⟩:=vS (P:=P) hsz hue hone hyd hys (off:=off*ms.length) ST
       have hsplit:∀l:List AV,l.drop (off*ms.length)=(l.drop (off*ms.length)).take ms.length++l.drop ((off+1)*ms.length):=by
        intro l
        rw[show(off+1)*ms.length=off*ms.length+ms.length by rw[Nat.add_mul];omega,<-List.drop_drop,List.take_append_drop]
       rw[hsplit as,hsplit bs,List.replicate_succ,List.flatten_cons]at he
       obtain⟨e1,e2,he1,he2,rfl⟩:=me (by simp;omega) (by simp;omega) he
       have hr:=ih el ms hz D ST _ _ va vb e1 hVa hVb he1
       have hrest:=ihm (off+1) ST e2 he2
       have hl:(List.range (m+1)).map (· +off)=off::(List.range m).map (· +(off+1)):=by
        rw[List.range_succ_eq_map];simp;intro q _;omega
       rw[hl];simp only[Op.eqItems,Sem.run_bind,hva,hvb,Result.andThen_ok,hr];cases e1
       ·simp
       ·simpa using hrest
     have:=hitems k 0 ST e (by simpa using he)
     simpa using this
    ·cases h
   ·cases h
  ·cases h
end
end Go.Eng
