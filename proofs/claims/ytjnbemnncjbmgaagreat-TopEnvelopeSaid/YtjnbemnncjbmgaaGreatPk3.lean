/- Part 3 of the engine and its library. -/
import Derived.Test.YtjnbemnncjbmgaaGreatPk2
set_option linter.all false
set_option maxRecDepth 10000
set_option maxHeartbeats 4000000
namespace Go.Eng
open Go
open Go.RowKit (Below)
section
variable{P:Program} {nt:Nat} {n0:gV} {w0:World} {π0:Nat->Nat->Prop} {U:Nat->Prop} {s:S} {a:Act} {w:World} {β:Nat->Nat} {τ:Nat->Value} {π:Nat->Nat->Prop}
theorem Rel.MG(R:Rel P nt n0 w0 π0 U s a w β τ π) (z:Nat):∀(Xs:List (Nat×Operand)) (xs:List aR) (rows:List (List AV)) (k:Nat) (pre tail:List AV) (us:Array Value),
  Xs.map (·.1)=(List.range Xs.length).map (· +k)->Xs.mapM (λp=>dn p.2)=some xs->lq s z xs=some rows->jR w π (pre++tail) us.toList->(∀c∈pre++tail,c.scalar=true)->pre.length=k*z->tail.length=Xs.length*z->
  ∃L,Instr.fill (λi=>some (i*z,z)) us (Xs.map λp=>(p.1,a.eval p.2))=some L/\jR w π (pre++rows.flatten) L.toList/\(∀c∈pre++rows.flatten,c.scalar=true)/\rows.length=Xs.length/\∀r∈rows,r.length=z
 |[],xs,rows,k,pre,tail,us,h1,h2,D,hd,hs,hp,ht=>by
  simp at h2;subst h2;simp[lq]at D;subst D
  have:tail=[]:=sT (by simpa using ht)
  subst this
  exact⟨us,rfl,by simpa using hd,by simpa using hs,rfl,adI⟩
 |(i,X)::Xs,xs,rows,k,pre,tail,us,h1,h2,D,hd,hs,hp,ht=>by
  simp only[tl,pb,jp,vd,fx]at h2;obtain⟨x,hx,a2,ar,rfl⟩:=h2;simp only[lq]at D;split at D
  ·rename_i av O ae Z
   split at D
   ·rename_i hz
    obtain⟨hz,ao⟩:=hz;cases D
    have hi:i=k:=by
     have:=sd (λl=>l[0]?) h1
     simpa using this
    subst hi
    have a5:Xs.map (·.1)=(List.range Xs.length).map (· +(i+1)):=by
     have ab:=sd List.tail h1
     simp only[kr,List.tail_cons,fi,List.range_succ_eq_map,acl]at ab;rw[ab]
     apply B0
     intro q _;simp;omega
    have a6:=R.aL hx ae
    obtain⟨ac,a3⟩:=a6.cells (λvs e=>by subst e;simp[iI]at ao)
    have ak:(a.eval X).cells.size=z:=by have:=ac.1;simp at this;omega
    have a7:us.size=pre.length+tail.length:=by have:=hd.1;simp at this;omega
    have a9:tail.length=Xs.length*z+z:=by rw[ht];simp[Nat.add_mul]
    obtain⟨ag,he,am,a8⟩:=ye (place:=λi=>some (i*z,z)) (cells:=us) (i:=i) (off:=i*z) (v:=a.eval X) (rest:=Xs.map λp=>(p.1,a.eval p.2)) (by rw[ak]) ado
    have aa:=hd.splice ac (off:=i*z) (by simp;omega)
    have al:(pre++tail).take (i*z)++av.cells++(pre++tail).drop (i*z+av.cells.length)=(pre++av.cells)++tail.drop z:=by
     rw[<-hp,List.take_left,hz,xi,List.drop_eq_nil_of_le ado]
     simp
    rw[al]at aa
    have V:∀c∈(pre++av.cells)++tail.drop z,c.scalar=true:=by
     intro c M;simp only[lr]at M
     rcases M with(M|M)|M
     ·exact hs c (by simp[M])
     ·exact a3 c M
     ·exact hs c (by simp[sm M])
    obtain⟨L,hf,au,a4,ad,an⟩:=R.MG z Xs a2 O (i+1) (pre++av.cells) (tail.drop z) ag a5 ar Z (by rw[am];exact aa) V (by simp[hp,hz,Nat.add_mul]) (by simp;omega)
    refine⟨L,by rw[kr,he];exact hf,by simpa[List.append_assoc]using au,by simpa[List.append_assoc]using a4,by simp[ad],?_⟩
    intro r hr
    rcases nm.1 hr with rfl|hr
    ·exact hz
    ·exact an r hr
   ·cases D
  ·cases D
theorem Rel.buildSlice(R:Rel P nt n0 w0 π0 U s a w β τ π) {t e:TypeId} {n z:Nat} {Xs:Array (Nat×Operand)} {zs:List AV} {xs:List aR} (ht:P.underlying t=some (.slice e)) (a4:zeroOf P e=some zs) (hz:gF P e=some z)
  (a5:Xs.toList.mapM (λp=>dn p.2)=some xs) (al:(n*z<=16777216&&0<z&&zs.length==z&&Xs.toList.map (·.1)==List.range n)=true) {id:Nat} (be:¬U id) {K:SV->S->Prop} (h:bF (Pure P) id (.U6 e z xs) K s):
  ∃v y s' w' τ' π',(Instr.buildSlice t n (Xs.map λ(i,x)=>(i,a.eval x))).run P w=.ok y w'/\RV β τ' w' π' v y/\v.iA (fQ U id)/\K v s'/\Rel P nt n0 w0 π0 (fQ U id) s' a w' β τ' π':=by
 simp only[bF]at h;obtain⟨rows,ae,hK⟩:=ah h;simp only[ed,ii,l4]at al;obtain⟨⟨⟨hn,ac⟩,a8⟩,ab⟩:=al
 obtain⟨zv,bi,am,a3⟩:=wA (P:=P) (w:=w) (π:=π) a4
 have O:Xs.toList.length=n:=by have:=sd List.length ab;simpa using this
 have ao:zv.cells.size=z:=by have:=am.1;simp at this;omega
 -- the row of zeros that is filled
 have ag:jR w π ([]++(List.range (n*z)).map λi=>zs.getD (i%z) default) ((Array.range (n*z)).map (zv.cells[· %zv.cells.size]!)).toList:=by
  refine⟨adI,λi c u D hu=>?_⟩
  simp only[my,ka,Array.toList_map,Array.toList_range]at D hu
  by_cases hi:i<n*z
  ·have hm:i%z<z:=acx _ ac
   rw[kv hi]at D hu;simp only[mn,fx]at D hu;subst D;subst hu
   have h1:zs[i%z]? =some (zs.getD (i%z) default):=by
    rw[em,eh ado];simp
   have h2:zv.cells.toList[i%z]? =some (zv.cells[i%zv.cells.size]!):=by
    rw[ao]
    have:i%z<zv.cells.size:=ado
    simp[this]
   exact am.2 _ _ _ h1 h2
  ·rw[kh (by simp;omega)]at D
   simp at D
 have V:∀c∈([]:List AV)++(List.range (n*z)).map λi=>zs.getD (i%z) default,c.scalar=true:=by
  intro c D;simp only[my,mi,ip]at D;obtain⟨i,hi,rfl⟩:=D
  have hm:i%z<zs.length:=by rw[a8];exact acx _ ac
  rw[em,eh hm];exact a3 _ (FS hm)
 obtain⟨L,hf,hd,hs,au,ak⟩:=R.MG z Xs.toList xs rows 0 [] _ _ (by rw[ab,O];simp) a5 ae ag V adI (by simp[O])
 simp only[my]at hd hs
 have M:rows.length=n:=by rw[au,O]
 have Z:L.size=n*z:=by have:=hd.1;rw[jW ak,M]at this;simpa using this.symm
 obtain⟨R',bd⟩:=R.newRow (xs:=rows) (z:=z) (cap:=n) (cs:=L) e ak ado (by rw[M];omega) (λi x v hx hv=>hd.2 i x v hx (by simpa using hv)) (λr hr x hx=>hs x (abH.2 ⟨r,hr,hx⟩))
 obtain⟨i,hi,aa⟩:∃i,P.info? e=some i/\i.size=z:=by
  simp only[gF,eg]at hz;obtain⟨i,hi,a6⟩:=hz;exact⟨i,hi,a6⟩
 have ar:n0.n<=w.heap.size:=lh R.gG R.below.size
 have R2:=R'.wD (v:=.slice (some ⟨w.heap.size,0,none⟩) rows.length n) be (by
   refine .inr ⟨w.heap.size,rows.length,n,L,i,rfl,.inl ar,UV w _,ado,?_,hi,by rw[aa];exact Z,λo ho D=>?_⟩
   ·have:=PH n ac
    simp only[maxLen];omega
   ·rw[aa]at ho
    rcases D with h|⟨_,h⟩
    ·have:=R.eZ _ _ h;omega
    ·omega)
  (λq e' B hq hB ad=>by
   have h1:=((R.live q e' hq).2.block hB).2
   simp[jV]at ad
   omega)
  (λb x hb ad=>by
   obtain⟨_,_,⟨bl,el,hh,_⟩,_⟩:=R.boxes b x hb
   have:=qL hh
   simp[jV]at ad
   omega)
 refine⟨.dat (.sl rows) (some id),_,_,_,_,_,?_,⟨bd,λt ht=>by cases ht;rw[cZ]⟩,.inr rfl,hK,R2⟩
 have a2:¬(n*z>16777216):=ado
 have a7:(Xs.map λ(i,x)=>(i,a.eval x)).toList=Xs.toList.map λp=>(p.1,a.eval p.2):=adI
 by_cases an:n*z=0
 ·have ba:n=0:=by
   rcases Nat.mul_eq_zero.1 an with h|h
   ·exact h
   ·omega
  subst ba
  have hX:Xs.toList=[]:=sT O
  have bj:L=#[]:=by
   apply Array.eq_empty_of_size_eq_zero
   rw[Z];simp
  have a9:Xs=#[]:=by cases Xs;simp at hX;subst hX;rfl
  subst a9 bj
  simp[Instr.buildSlice,ix ht,eV (w:=w) hz,Instr.fill,Go.newRow,M]
  congr 2
  exact Array.eq_empty_of_size_eq_zero adI
 ·simp only[Instr.buildSlice,ia,ix ht,ge,eV (w:=w) hz]
  rw[fb (by simpa using a2)]
  simp only[an,il,ia,kx,ge,bi,a7,hf,Go.newRow,run_newObj,M];rfl
theorem DV.news{V:List (List AV)} {B off m c:Nat} {z:Nat} (h:DV w π (.sl V) (.slice (some ⟨B,off,none⟩) m c)) (hz:∀r∈V,r.length=z):
  m=V.length/\∃news:List Value,news.length=m*z/\(∀j u,news[j]? =some u->w.cell? ((⟨B,off,none⟩:Addr).add j)=some u)/\(∀u∈news,u.oneCell'=true)/\jR w π V.flatten news/\∀r∈V,∀x∈r,x.scalar=true:=by
 cases h with
 |S5 _=>exact⟨rfl,[],adI,adI,adI,⟨rfl,adI⟩,adI⟩
 |sl _ _ _ cap O f h1 h2 h3 h4 h5 h6=>
  refine⟨rfl,?_⟩
  have ak:=jW hz
  -- every place of the row is some element's
  have ad:∀q,q<V.length*z->∃(i j:Nat) (r:List AV) (x:AV),V[i]? =some r/\r[j]? =some x/\q=i*z+j/\V.flatten[q]? =some x/\O=z:=by
   intro q Z
   have L:0<z:=by
    rcases xc z with e|e
    ·subst e;simp at Z
    ·exact e
   have hi:q/z<V.length:=by rw[Nat.div_lt_iff_lt_mul L];exact Z
   have R:=eh hi
   have al:=hz _ (FS hi)
   have hj:q%z<(V[q/z]).length:=by rw[al];exact acx _ L
   have D:=eh hj
   have am:q/z*z+q%z=q:=by rw[t0];exact Os q z
   refine⟨q/z,q%z,_,_,R,D,am.symm,?_,by rw[<-h2 _ _ R,al]⟩
   have:=nr hz R D
   rwa[am]at this
  refine⟨(List.range (V.length*z)).map λq=>f (q/z) (q%z),adI,?_,?_,⟨by simp[ak],?_⟩,λr R x D=>?_⟩
  ·intro q u hu
   have Z:q<V.length*z:=by
    rcases ma q (V.length*z)with h'|h'
    ·exact h'
    ·rw[kh (by simp;omega)]at hu;cases hu
   obtain⟨i,j,r,x,R,D,he,_,ac⟩:=ad q Z;subst ac
   have L:0<O:=by
    rcases xc O with e|e
    ·subst e;simp at Z
    ·exact e
   have M:j<O:=by
    rw[<-h2 _ _ R]
    rcases ma j r.length with h'|h'
    ·exact h'
    ·rw[kh h']at D;cases D
   have aa:q/O=i:=by rw[he,t0,Nat.mul_add_div L,H4 M,se]
   have ab:q%O=j:=by rw[he,t0,Nat.mul_add_mod,H3 M]
   simp only[ka,kv Z,mn,fx]at hu;subst hu;rw[jj,aa,ab,he,<-IH];exact h5 i j r x R D
  ·intro u hu
   simp only[mi,ip]at hu;obtain⟨q,Z,rfl⟩:=hu;obtain⟨i,j,r,x,R,D,he,_,ac⟩:=ad q Z;subst ac
   have L:0<O:=by
    rcases xc O with e|e
    ·subst e;simp at Z
    ·exact e
   have M:j<O:=by
    rw[<-h2 _ _ R]
    rcases ma j r.length with h'|h'
    ·exact h'
    ·rw[kh h']at D;cases D
   have aa:q/O=i:=by rw[he,t0,Nat.mul_add_div L,H4 M,se]
   have ab:q%O=j:=by rw[he,t0,Nat.mul_add_mod,H3 M]
   rw[aa,ab];exact(h6 i j r x R D).QO (h3 i j r x R D)
  ·intro q x u D hu
   have Z:q<V.length*z:=by
    rcases ma q (V.length*z)with h'|h'
    ·exact h'
    ·rw[kh (by rw[ak];omega)]at D;cases D
   obtain⟨i,j,r,x',R,ae,he,ag,ac⟩:=ad q Z;subst ac
   have an:x=x':=by rw[D]at ag;exact Ax ag
   subst an
   have L:0<O:=by
    rcases xc O with e|e
    ·subst e;simp at Z
    ·exact e
   have M:j<O:=by
    rw[<-h2 _ _ R]
    rcases ma j r.length with h'|h'
    ·exact h'
    ·rw[kh h']at ae;cases ae
   have aa:q/O=i:=by rw[he,t0,Nat.mul_add_div L,H4 M,se]
   have ab:q%O=j:=by rw[he,t0,Nat.mul_add_mod,H3 M]
   simp only[ka,kv Z,mn,fx]at hu;subst hu;rw[aa,ab];exact h6 i j r x R ae
  ·obtain⟨i,hi⟩:=nf.1 R
   obtain⟨j,hj⟩:=nf.1 D
   exact h3 i j r x hi hj
theorem Rel.mM(R:Rel P nt n0 w0 π0 U s a w β τ π) {b:Nat} {x:bV} (h:cj b s.boxes=some x):β b<w.heap.size:=by
 obtain⟨_,_,⟨L,M,D,_⟩,_⟩:=R.boxes b x h;exact qL D
theorem Rel.grown(R:Rel P nt n0 w0 π0 U s a w β τ π) {id e z old:Nat} {i:TypeInfo} {zv:Value} (hi:P.info? e=some i) (hz:i.zero=some zv) (V:i.size=z) (ae:zv.cells.size=z) (al:0<z) (ad:¬U id) {zs:List (List AV)} {vs:List Value} (O:vs.length=zs.length*z) (hd:jR w π zs.flatten vs) (D:∀r∈zs,r.length=z) (ag:∀r∈zs,∀x∈r,x.scalar=true)
  (ab:zs.length<=maxLen) {cs:Array Value} (Z:cs=vs.toArray++Builtin.zeroCells zv.cells (grownCap w zs.length old e-zs.length)):
  ∃π',Rel P nt n0 w0 π0 (fQ U id) {s with live:=(id,e)::s.live} a (w.drew.alloc (.cells cs e)) β (IZ τ id (.slice (some ⟨w.heap.size,0,none⟩) zs.length (grownCap w zs.length old e))) π'/\
   DV (w.drew.alloc (.cells cs e)) π' (.sl zs) (.slice (some ⟨w.heap.size,0,none⟩) zs.length (grownCap w zs.length old e)):=by
 have M:=grownCap_ge w zs.length old e
 have ac:grownCap w zs.length old e<=maxLen:=grownCap_le_maxLen w zs.length old e ab
 have hsize:cs.size=grownCap w zs.length old e*z:=by
  rw[Z];simp only[Array.size_append,List.size_toArray,size_zeroCells,ae,O,<-Nat.add_mul]
  congr 1;omega
 have aa:n0.n<=w.heap.size:=lh R.gG R.below.size
 obtain⟨R',ak⟩:=R.draw.newRow (xs:=zs) (z:=z) (cap:=grownCap w zs.length old e) (cs:=cs) e D M (by rw[hsize];exact kd _ M)
  (λq x v hx hv=>by
   have hq:q<vs.length:=by
    rw[O,<-jW D]
    rcases ma q zs.flatten.length with h'|h'
    ·exact h'
    ·rw[kh h']at hx;cases hx
   rw[Z,Array.getElem?_append_left (by simpa using hq)]at hv
   exact DV.mono (w:=w) (w':=w.drew) (π:=π) (λ_ _ h=>h) (λ_ _ _=>rfl) (hd.2 q x v hx (by simpa using hv))) ag
 refine⟨_,R'.wD ad ?_ ?_ ?_,ak⟩
 ·refine .inr ⟨w.heap.size,zs.length,grownCap w zs.length old e,cs,i,rfl,.inl aa,UV w.drew _,M,ac,hi,by rw[V];exact hsize,λo ho hc=>?_⟩
  rw[V]at ho
  rcases hc with h|⟨_,h⟩
  ·have:=R.eZ _ _ h;omega
  ·omega
 ·intro q e' B hq hB L
  have h1:=((R.live q e' hq).2.block hB).2
  simp[jV]at L;omega
 ·intro b x hb L
  have:=R.mM hb
  simp[jV]at L;omega
theorem Rel.append(R:Rel P nt n0 w0 π0 U s a w β τ π) {t e:TypeId} {i:TypeInfo} {zv:Value} {X Y:Operand} {x y:aR} (ht:P.underlying t=some (.slice e)) (hi:P.info? e=some i) (hz:i.zero=some zv) (b2:(0<i.size&&zv.cells.size==i.size&&0<i.bytes)=true)
  (hx:dn X=some x) (hy:dn Y=some y) {id:Nat} (bm:¬U id) (ty:TypeId) {K:SV->S->Prop} (h:bF (Pure P) id (.app e i.size i.bytes x y) K s):
  ∃v u s' w' τ' π',(Builtin.append_ #[t,t] ty #[a.eval X,a.eval Y]).run P w=.ok u w'/\RV β τ' w' π' v u/\v.iA (fQ U id)/\K v s'/\Rel P nt n0 w0 π0 (fQ U id) s' a w' β τ' π':=by
 simp only[ed,ii,l4]at b2;obtain⟨⟨b4,b5⟩,c2⟩:=b2;simp only[bF]at h;obtain⟨p,hp,k1⟩:=ah h;obtain⟨hr,hU⟩:=R.bX hx hp
 cases p with
 |ptr _ _=>exact k1.elim
 |rp _=>exact k1.elim
 |undef=>exact k1.elim
 |vs _ _ _ _=>exact k1.elim
 |nX _ _ _=>exact k1.elim
 |raw _ _=>exact k1.elim
 |pt _ _=>exact k1.elim
 |dat av q=>
  obtain⟨xs,a3,k2⟩:=ah k1;obtain⟨b,hb,k3⟩:=ah k2;obtain⟨D,a2,hbytes,ao,bo,k4⟩:=ah k3;obtain⟨an,ck⟩:=hr
  have a5:=R.aL hy hb
  have ct:∀n,U n->fQ U id n:=λn h=>.inl h
  -- what is appended: nil,or a slice whose cells are known
  have hnews:(a.eval Y=.slice none 0 0/\D=[])\/∃(A:Addr) (m c:Nat),a.eval Y=.slice (some A) m c/\m=D.length/\∃news:List Value,news.length=m*i.size/\(∀j u,news[j]? =some u->w.cell? (A.add j)=some u)/\(∀u∈news,u.oneCell'=true)/\jR w π D.flatten news/\∀r∈D,∀x∈r,x.scalar=true:=by
   cases b<;>simp only[rowsOf]at a2<;>try(cases a2;done)
   ·cases a2
    generalize a.eval Y=v at a5;cases a5;exact .inl ⟨rfl,rfl⟩
   ·cases a2
    generalize a.eval Y=v at a5
    cases a5 with
    |S5 A=>exact .inr ⟨A,0,0,rfl,rfl,[],adI,adI,adI,⟨rfl,adI⟩,adI⟩
    |sl _ B off cap z f h1 h2 h3 h4 h5 h6=>
     obtain⟨hm,hn⟩:=DV.news (.sl D B off cap z f h1 h2 h3 h4 h5 h6) bo
     exact .inr ⟨⟨B,off,none⟩,_,cap,rfl,rfl,hn⟩
  have ad:(xs.length+D.length)<=maxLen:=by
   have:=PH (xs.length+D.length) c2
   simp only[maxLen];omega
  cases av<;>simp only[rowsOf]at a3<;>try(cases a3;done)
  case aZ=>
   cases a3
   have a4:a.eval X=.slice none 0 0:=by generalize a.eval X=v at an;cases an;rfl
   by_cases a6:D=[]
   ·subst a6
    simp only[kw]at k4
    refine⟨.dat .aZ none,.slice none 0 0,s,w,τ,π,?_,⟨.aZ,λt ht=>by cases ht⟩,trivial,k4,R.sub ct⟩
    rcases hnews with⟨Z,_⟩|⟨A,m,c,Z,hm,news,hl,_⟩
    ·rw[a4,Z]
     simp[Builtin.append_,ix ht,sizeOf,typeInfo,hi,Builtin.lenOf,Builtin.firstCells]
    ·simp at hm;subst hm
     rw[a4,Z];simp[Builtin.append_,ix ht,sizeOf,typeInfo,hi,Builtin.lenOf,Builtin.firstCells,loadCells,loadCellsFrom]
   ·simp only[a6,il,my]at k4
    rcases hnews with⟨_,ci⟩|⟨A,m,c,Z,rfl,news,hl,hcell,ar,ae,aa⟩
    ·exact absurd ci a6
    ·have ce:0<D.length:=List.length_pos_iff.2 a6
     simp only[ib,lc]at hbytes ad
     have ab:=run_append_nil (P:=P) w t ty e i zv ht hi hz A D.length c news hl hcell ce (by simp only[maxLen]at ad;omega) ado
     obtain⟨π',R',bl⟩:=R.grown (old:=0) hi hz rfl b5 b4 bm hl ae bo aa ad rfl
     exact⟨.dat (.sl D) (some id),_,_,_,_,_,by rw[a4,Z];exact ab,⟨bl,λt ht=>by cases ht;rw[cZ]⟩,.inr rfl,k4,R'⟩
  case sl l=>
   cases a3
   cases q with
   |none=>exact k4.elim
   |some q=>
    obtain⟨ag,hK⟩:=k4
    have hτ:a.eval X=τ q:=ck q rfl
    obtain⟨c5,cu⟩:=R.live q e ag;generalize a4:a.eval X=v at an hτ
    rcases cu with a9|⟨B,len,cap,L,M,ca,b3,hh,c0,c1,b8,al,hfree⟩
    ·rw[<-hτ]at a9
     subst a9;cases an
    ·rw[<-hτ]at ca
     have c3:M=i:=by rw[hi]at b8;exact(Ax b8).symm
     subst c3;subst ca
     have bd:jV (τ q)=some B:=by rw[<-hτ];rfl
     have cr:len=xs.length:=by cases an<;>rfl
     subst cr;obtain⟨_,V,cb,holds,cv,b6,bj⟩:=DV.news an ao
     have a8:∀(j:Nat) (u:Value),V[j]? =some u->L[j]? =some u:=by
      intro j u hu
      have:=holds j u hu
      rw[jj,lc,GT w B j L e (0,0) hh]at this;exact this
     have O:∀r∈xs++D,r.length=M.size:=λr hr=>by
      rcases lr.1 hr with hr|hr
      ·exact ao r hr
      ·exact bo r hr
     -- what is appended,whatever it is,as a list of values
     have hsplit:xs.flatten++D.flatten=(xs++D).flatten:=adI
     have cx:xs.length*M.size<=L.size:=by rw[al];exact kd _ c0
     have bi:∀q' e',d9 q' (jT q s.live)=some e'->jV (τ q')≠some B:=by
      intro q' e' bw am;obtain⟨h1,h2⟩:=lz bw;exact h2 (R.dr q' q e' e B h1 ag am bd)
     have be:∀b x,cj b s.boxes=some x->β b≠B:=λb x hb e'=>R.dw q e b x ag hb (by rw[bd,e'])
     by_cases hroom:xs.length+D.length<=cap
     ·--in place
      have key:∃(news:List Value),news.length=D.length*M.size/\jR w π D.flatten news/\(∀r∈D,∀x∈r,x.scalar=true)/\
        (Builtin.append_ #[t,t] ty #[.slice (some ⟨B,0,none⟩) xs.length cap,a.eval Y]).run P w=.ok (.slice (some ⟨B,0,none⟩) (xs.length+D.length) cap) (w.setRow B (L.toList.take (xs.length*M.size)++news++L.toList.drop (xs.length*M.size+news.length)).toArray):=by
       rcases hnews with⟨Z,rfl⟩|⟨A,m,c,Z,rfl,news,hl,hcell,ar,ae,aa⟩
       ·refine⟨[],adI,⟨rfl,λi a v h=>by simp at h⟩,adI,?_⟩
        rw[Z]
        have b1:w.setRow B (L.toList.take (xs.length*M.size)++[]++L.toList.drop (xs.length*M.size+([]:List Value).length)).toArray=w:=by
         have:=setRow_self w B L e (0,0) hh
         simpa using this
        rw[b1];simp at hroom;simp[Builtin.append_,ix ht,sizeOf,typeInfo,hi,Builtin.lenOf,Builtin.firstCells,hroom,storeCells]
       ·refine⟨news,hl,ae,aa,?_⟩
        rw[Z]
        exact run_append_room (P:=P) w t ty e M ht hi B xs.length cap L hh A D.length c news hl hcell ar hroom (by rw[hl,al,<-Nat.add_mul];exact kd _ hroom)
      obtain⟨news,hl,ae,aa,ab⟩:=key
      have ch:xs.length*M.size+news.length<=L.size:=by rw[hl,al,<-Nat.add_mul];exact kd _ hroom
      have co:=jk L.toList news (xs.length*M.size) (by simpa using ch)
      generalize au:(L.toList.take (xs.length*M.size)++news++L.toList.drop (xs.length*M.size+news.length)).toArray=cur' at ab
      have ak:∀o,cur'[o]? =if o<xs.length*M.size then L[o]? else if o<xs.length*M.size+news.length then news[o-xs.length*M.size]? else L[o]?:=by
       intro o;rw[<-au,Hc,co];simp
      have R1:=(R.Pn q).MF (m:=(xs.length+D.length)*M.size) (cur':=cur') b3 hh (λo ho=>by
       rw[ak o,fp]
       rcases ma o (xs.length*M.size)with h'|h'
       ·exact h'
       ·exact absurd ho (hfree o h')) bi be
      have bs:(w.setRow B cur').heap[B]? =some (.cells cur' e (0,0)):=setRow_heap w _ L _ e _ hh
      have cp:cur'.size=L.size:=by
       rw[<-au];simp;omega
      have a7:∀q' e' C,d9 q' (jT q s.live)=some e'->jV (τ q')=some C->jV (Value.slice (some ⟨B,0,none⟩) (xs.length+D.length) cap)≠some C:=by
       intro q' e' C bw hC am;simp[jV]at am
       exact bi q' e' bw (by rw[hC,am])
      have R2:=R1.wD (id:=id) (e:=e) (v:=.slice (some ⟨B,0,none⟩) (xs.length+D.length) cap) bm
       (.inr ⟨B,xs.length+D.length,cap,cur',M,rfl,b3,bs,hroom,c1,hi,by rw[cp,al],λo ho hc=>by
        rcases hc with h|⟨_,h⟩
        ·exact hfree o (by rw[Nat.add_mul]at ho;omega) h
        ·omega⟩) a7 (λb x hb am=>be b x hb (by simpa[jV]using am.symm))
      refine⟨.dat (.sl (xs++D)) (some id),_,_,_,_,_,ab,⟨?_,λt ht=>by cases ht;rw[cZ]⟩,.inr rfl,hK,R2⟩
      -- the longer slice reads as the longer list
      have hmono:∀{x:AV} {v:Value},DV w π x v->DV (w.setRow B cur') (grow π B ((xs.length+D.length)*M.size)) x v:=λh=>h.mono (λ_ _ h=>.inl h) (λb o h=>by
       by_cases e':b=B
       ·subst e'
        rw[GT _ _ _ cur' e (0,0) bs,GT _ _ _ L e (0,0) hh,ak o,fp]
        rcases ma o (xs.length*M.size)with h'|h'
        ·exact h'
        ·exact absurd h (hfree o h')
       ·exact adf w _ cur' ⟨b,o,none⟩ e')
      have ba:∀(j:Nat) (x:AV),(xs++D).flatten[j]? =some x->∃v,cur'[j]? =some v/\DV w π x v:=by
       intro j x hx;rw[<-hsplit]at hx;rw[ak j]
       by_cases hj:j<xs.length*M.size
       ·rw[fp hj]
        rw[iv (by rw[jW ao];exact hj)]at hx
        obtain⟨v,hv,hd⟩:=b6.get hx;exact⟨v,a8 j v hv,hd⟩
       ·rw[fb hj]
        rw[im (by rw[jW ao];omega),jW ao]at hx
        obtain⟨v,hv,hd⟩:=ae.get hx
        have:j-xs.length*M.size<news.length:=by
         rcases ma (j-xs.length*M.size) news.length with h'|h'
         ·exact h'
         ·rw[kh h']at hv;cases hv
        rw[fp ado]
        exact⟨v,hv,hd⟩
      have ac:xs.length+D.length=(xs++D).length:=adI
      rw[ac]
      refine .sl (xs++D) B 0 cap M.size (λi j=>cur'.getD (i*M.size+j) undef) (by simpa using hroom) (λi r hr=>O r (er hr)) (λi j r x hr hx=>?_) (λi j r x hr hx=>?_) (λi j r x hr hx=>?_) (λi j r x hr hx=>?_)
      ·rcases lr.1 (er hr)with hr'|hr'
       ·exact bj r hr' x (er hx)
       ·exact aa r hr' x (er hx)
      ·refine .inr ⟨rfl,?_⟩
       have hf:=nr O hr hx
       rcases ma (i*M.size+j) ((xs++D).length*M.size)with h'|h'
       ·omega
       ·rw[kh (by rw[jW O];exact h')]at hf;cases hf
      ·obtain⟨v,hv,hd⟩:=ba _ x (nr O hr hx)
       rw[lc,GT _ _ _ cur' e (0,0) bs,hv];simp[hv]
      ·obtain⟨v,hv,hd⟩:=ba _ x (nr O hr hx)
       simp only[xn,hv,yn]
       have b7:=hmono hd
       rw[ac]at b7;exact b7
     ·--a new row
      rcases hnews with⟨Z,rfl⟩|⟨A,m,c,Z,rfl,news,hl,hcell,ar,ae,aa⟩
      ·simp at hroom;omega
      ·have ab:=run_append_grow (P:=P) w t ty e M zv ht hi hz ⟨B,0,none⟩ xs.length cap V cb holds A D.length c news hl hcell ado (by simp only[maxLen]at ad;omega) (growslice_fits ado hbytes)
       have ac:xs.length+D.length=(xs++D).length:=adI
       have cy:(V++news).length=(xs++D).length*M.size:=by simp[cb,hl,Nat.add_mul]
       have bl:jR w π (xs++D).flatten (V++news):=by rw[<-hsplit];exact b6.append ae
       have b0:∀r∈xs++D,∀x∈r,x.scalar=true:=λr hr=>by
        rcases lr.1 hr with hr|hr
        ·exact bj r hr
        ·exact aa r hr
       obtain⟨π',R',c4⟩:=(R.Pn q).grown (old:=cap) hi hz rfl b5 b4 bm cy bl O b0 (by rw[<-ac];exact ad) rfl
       rw[Z];rw[ac]at ab
       refine⟨.dat (.sl (xs++D)) (some id),_,_,_,IZ τ id (.slice (some ⟨w.heap.size,0,none⟩) (xs++D).length (grownCap w (xs++D).length cap e)),π',ab,⟨?_,λt ht=>by cases ht;rw[cZ]⟩,.inr rfl,hK,?_⟩
       ·have e1:V.toArray++news.toArray=(V++news).toArray:=adI
        rw[e1];exact c4
       ·have e1:V.toArray++news.toArray=(V++news).toArray:=adI
        rw[e1];exact R'
end
open Go.RowKit (Below)
def UZ(w:World) (π:Nat->Nat->Prop) (P:Program) (t:TypeId) (as:List AV) (v:Value):Prop:=
 if qD P t then∃xs:Array Value,v=.agg xs/\jR w π as xs.toList/\∀a∈as,a.scalar=true
 else∃a,as=[a]/\DV w π a v
section
variable{P:Program} {w:World} {π:Nat->Nat->Prop}
theorem pI:∀{L D:List CK} {as M cs ds:List AV} {e:Bool},L.length=as.length->as.length=M.length->cV (L++D) (as++cs) (M++ds)=some e->∃O R,cV L as M=some O/\cV D cs ds=some R/\e=(O&&R)
 |[],D,[],[],cs,ds,e,_,_,h=>⟨true,e,rfl,h,rfl⟩
 |[],D,[],b::M,_,_,_,_,h,_=>by simp at h
 |[],D,a::as,_,_,_,_,h,_,_=>by simp at h
 |k::L,D,[],_,_,_,_,h,_,_=>by simp at h
 |k::L,D,a::as,[],_,_,_,_,h,_=>by simp at h
 |k::L,D,a::as,b::M,cs,ds,e,hk,V,h=>by
  simp only[ts,cV]at h;split at h
  ·rename_i x y hx hy
   cases h
   obtain⟨O,R,h1,h2,Z⟩:=pI (by simpa using hk) (by simpa using V) hy
   exact⟨x&&O,R,by simp[cV,hx,h1],h2,by rw[Z,Bool.and_assoc]⟩
  ·cases h
theorem Bb{t:TypeId} {z:Nat} (hz:gF P t=some z) {d:TypeDesc} (hu:P.underlying t=some d) (R:qD P t=false->z=1) {as:List AV} {xs:Array Value} (hd:jR w π as xs.toList) (hs:∀a∈as,a.scalar=true) {off:Nat} (aa:off+z<=as.length):
  ∃v,(part t xs off).run P w=.ok v w/\UZ w π P t ((as.drop off).take z) v:=by
 have Z:=Ba (P:=P) (w:=w) hu
 have h2:=eV (P:=P) (w:=w) hz
 have hl:xs.size=as.length:=by have:=hd.1;simp at this;omega
 cases M:qD P t with
 |true=>
  refine⟨.agg (xs.extract off (off+z)),by simp[part,Z,M,h2],?_⟩
  unfold UZ;rw[fp M]
  refine⟨_,rfl,⟨by simp;omega,λi a v L hv=>?_⟩,λa L=>hs a (sm (zd L))⟩
  rw[yv]at L;split at L
  ·rename_i hi
   rw[lL]at L;refine hd.2 (off+i) a v L ?_
   have:xs.toList[off+i]? =(xs.extract off (off+z)).toList[i]?:=by
    simp only[adm,Array.getElem?_extract]
    rw[fp ado]
   rw[this];exact hv
  ·cases L
 |false=>
  have V:=R M
  subst V
  have O:off<xs.size:=ado
  refine⟨xs[off],by simp[part,Z,M,O],?_⟩
  unfold UZ
  rw[fb (by simp[M])]
  have D:off<as.length:=ado
  refine⟨as[off],?_,hd.2 off _ _ (eh D) (by simp[O])⟩
  rw[acX D];rfl
theorem Bc{d t:Nat} {M:List CK} (h:pn P d t=some M):∃u,P.underlying t=some u/\(qD P t=false->M.length=1):=by
 cases d with
 |zero=>simp[pn]at h
 |succ d=>
  simp only[pn]at h
  split at h<;>first|(rename_i D;cases h;exact⟨_,D,λ_=>rfl⟩)|skip
  ·rename_i O D;exact⟨_,D,λL=>by simp[qD,D]at L⟩
  ·rename_i k e D;exact⟨_,D,λL=>by simp[qD,D]at L⟩
  ·cases h
theorem qM{k:CK} {a b:AV} {e:Bool} (h:cV [k] [a] [b]=some e):tS k a b=some e:=by
 simp only[cV]at h;split at h
 ·rename_i x y D L;cases h;cases L;simp[D]
 ·cases h
theorem qN:∀{D:List CK} {as L:List AV} {e:Bool},cV D as L=some e->D.length=as.length/\as.length=L.length
 |[],[],[],e,h=>⟨rfl,rfl⟩
 |[],[],b::L,_,h=>by simp[cV]at h
 |[],a::as,_,_,h=>by simp[cV]at h
 |k::D,[],_,_,h=>by simp[cV]at h
 |k::D,a::as,[],_,h=>by simp[cV]at h
 |k::D,a::as,b::L,e,h=>by
  simp only[cV]at h;split at h
  ·rename_i x y V O
   obtain⟨M,R⟩:=qN O;simp[M,R]
  ·cases h
theorem ad3:∀(d:Nat) (t:TypeId) (ks:List CK),pn P d t=some ks->∀(D:Nat),d<=D->∀(as bs:List AV) (x y:Value) (e:Bool),UZ w π P t as x->UZ w π P t bs y->cV ks as bs=some e->
  (Op.equalIn D t x y).run P w=.ok e w:=by
 intro d
 induction d with
 |zero=>intro t ks h;simp[pn]at h
 |succ d ih=>
  intro t ks h D hD as bs x y e hx hy he
  obtain⟨D,rfl⟩:∃D',D=D'+1:=⟨D-1,ado⟩
  obtain⟨hla,hlb⟩:=qN he;simp only[pn]at h
  -- the fields,one behind the other
  have hfields:∀(fs:List Field) (off:Nat) (ls:List CK),Mw P (pn P d) fs off=some ls->∀(xs ys:Array Value) (e:Bool),jR w π as xs.toList->(∀a∈as,a.scalar=true)->jR w π bs ys.toList->(∀a∈bs,a.scalar=true)->cV ls (as.drop off) (bs.drop off)=some e->(Op.eqFields D xs ys fs).run P w=.ok e w:=by
   intro fs
   induction fs with
   |nil=>
    intro off ls ht xs ys e h1 h2 h3 h4 he;simp[Mw]at ht;subst ht;obtain⟨k1,k2⟩:=qN he
    have n1:as.drop off=[]:=List.eq_nil_of_length_eq_zero k1.symm
    have n2:bs.drop off=[]:=List.eq_nil_of_length_eq_zero (by rw[<-k2,<-k1];rfl)
    rw[n1,n2]at he;simp[cV]at he;subst he;rfl
   |cons f fs ihf=>
    intro off ls ht xs ys e h1 h2 h3 h4 he;simp only[Mw]at ht;split at ht
    ·cases ht
    ·rename_i hname
     split at ht
     ·rename_i ms hz
      split at ht
      ·rename_i hsz
       obtain⟨hsz,hpos⟩:=hsz;simp only[Option.map_eq_some_iff]at ht;obtain⟨ls',ht,rfl⟩:=ht;obtain⟨k1,k2⟩:=qN he;simp only[List.length_append,List.length_drop]at k1 k2;obtain⟨u,hu,hone⟩:=Bc hz
       have hoff:f.offset=off:=by
        have:=not_or.1 hname
        simpa using this.2
       have hnm : f.name ≠ "_" := (not_or.1 hname).1
       have hma:off+ms.length<=as.length:=ado
       obtain⟨va,hva,hVa⟩:=Bb (P:=P) hsz hu hone h1 h2 (off:=off) ado
       obtain⟨vb,hvb,hVb⟩:=Bb (P:=P) hsz hu hone h3 h4 (off:=off) ado
       have hsplit:∀l:List AV,l.drop off=(l.drop off).take ms.length++l.drop (off+ms.length):=by
        intro l;rw[<-List.drop_drop,List.take_append_drop]
       rw[hsplit as,hsplit bs]at he
       obtain⟨e1,e2,he1,he2,rfl⟩:=pI (by simp;omega) (by simp;omega) he
       have hr:=ih f.type ms hz D ado _ _ va vb e1 hVa hVb he1
       have hrest:=ihf (off+ms.length) ls' ht xs ys e2 h1 h2 h3 h4 he2
       simp only[Op.eqFields,if_pos hnm,hoff,Sem.run_bind,hva,hvb,Result.andThen_ok,hr];cases e1
       ·simp
       ·simpa using hrest
      ·cases ht
     ·cases ht
  have hscalar:qD P t=false->∃a b,as=[a]/\bs=[b]/\DV w π a x/\DV w π b y:=by
   intro hg;simp only[UZ,hg,Bool.false_eq_true,if_false]at hx hy;obtain⟨a,rfl,ha⟩:=hx;obtain⟨b,rfl,hb⟩:=hy;exact⟨a,b,rfl,rfl,ha,hb⟩
  split at h
  ·rename_i hu
   cases h
   obtain⟨a,b,rfl,rfl,ha,hb⟩:=hscalar (by simp[qD,hu])
   have hc:=qM he
   cases a<;>cases b<;>simp only[tS]at hc<;>try(cases hc;done)
   cases ha;cases hb;cases hc;exact run_equalIn_bool' w D t _ _ hu
  ·rename_i k hu
   cases h
   obtain⟨a,b,rfl,rfl,ha,hb⟩:=hscalar (by simp[qD,hu])
   have hc:=qM he
   cases a<;>cases b<;>simp only[tS]at hc<;>try(cases hc;done)
   split at hc
   ·rename_i hk
    subst hk;cases ha;cases hb;cases hc;exact run_equalIn_int w D t _ k _ _ hu
   ·cases hc
  ·rename_i k hu
   cases h
   obtain⟨a,b,rfl,rfl,ha,hb⟩:=hscalar (by simp[qD,hu])
   have hc:=qM he
   cases a<;>cases b<;>simp only[tS]at hc<;>try(cases hc;done)
   split at hc
   ·rename_i hk
    subst hk;cases ha;cases hb;cases hc;simp[Op.equalIn,run_underlying hu,Op.floatEq]
   ·cases hc
  ·rename_i hu
   cases h
   obtain⟨a,b,rfl,rfl,ha,hb⟩:=hscalar (by simp[qD,hu])
   have hc:=qM he
   cases a<;>cases b<;>simp only[tS]at hc<;>try(cases hc;done)
   cases ha;cases hb;cases hc;simp[Op.equalIn,run_underlying hu]
  ·rename_i fs hu
   split at h
   ·cases h
   ·rename_i hst
    simp only[UZ,qD,hu,if_true]at hx hy;obtain⟨xs,rfl,hxd,hxs⟩:=hx;obtain⟨ys,rfl,hyd,hys⟩:=hy
    have hfo:P.fieldsOf t=fs:=by simp[Program.fieldsOf,hu]
    rw[run_equalIn_struct w D t xs ys (by rw[hfo];exact hu) (by simpa using hst),hfo]
    exact hfields fs.toList 0 ks h xs ys e hxd hxs hyd hys (by simpa using he)
  ·rename_i k el hu
   split at h
   ·rename_i ms hz
    split at h
    ·rename_i hsz
     cases h;simp only[UZ,qD,hu,if_true]at hx hy;obtain⟨xs,rfl,hxd,hxs⟩:=hx;obtain⟨ys,rfl,hyd,hys⟩:=hy
     obtain⟨i,hi⟩:∃i,P.info? el=some i:=by
      simp only[gF,Option.map_eq_some_iff]at hsz;obtain⟨i,hi,_⟩:=hsz;exact⟨i,hi⟩
     rw[run_equalIn_array w D xs ys hu hi];obtain⟨u,hue,hone⟩:=Bc hz
     have hcz:P.cellsOf el=ms.length:=by
      have:=hsz
      simp only[gF]at this;simp[Program.cellsOf,this]
     rw[hcz]
     have hlk:as.length=k*ms.length:=by rw[<-hla];simp
     -- item by item
     have hitems:∀(m off:Nat),off+m=k->∀e,cV (List.replicate m ms).flatten (as.drop (off*ms.length)) (bs.drop (off*ms.length))=some e->(Op.eqItems D el ms.length xs ys ((List.range m).map (· +off))).run P w=.ok e w:=by
      intro m
      induction m with
      |zero=>
       intro off hoff e2 he2
       have hoff':off=k:=ado
       rw[hoff']at he2
       have n1:as.drop (k*ms.length)=[]:=List.drop_eq_nil_of_le ado
       have n2:bs.drop (k*ms.length)=[]:=List.drop_eq_nil_of_le ado
       rw[n1,n2]at he2;simp[cV]at he2;subst he2;rfl
      |succ m ihm=>
       intro off hoff e he
       have hle:off*ms.length+ms.length<=k*ms.length:=by
        have:(off+1)*ms.length<=k*ms.length:=Nat.mul_le_mul_right ms.length ado
        rw[Nat.add_mul]at this;omega
       obtain⟨va,hva,hVa⟩:=Bb (P:=P) hsz hue hone hxd hxs (off:=off*ms.length) ado
       obtain⟨vb,hvb,hVb⟩:=Bb (P:=P) hsz hue hone hyd hys (off:=off*ms.length) ado
       have hsplit:∀l:List AV,l.drop (off*ms.length)=(l.drop (off*ms.length)).take ms.length++l.drop ((off+1)*ms.length):=by
        intro l
        rw[show(off+1)*ms.length=off*ms.length+ms.length by rw[Nat.add_mul];omega,<-List.drop_drop,List.take_append_drop]
       rw[hsplit as,hsplit bs,List.replicate_succ,List.flatten_cons]at he
       obtain⟨e1,e2,he1,he2,rfl⟩:=pI (by simp;omega) (by simp;omega) he
       have hr:=ih el ms hz D ado _ _ va vb e1 hVa hVb he1
       have hrest:=ihm (off+1) ado e2 he2
       have hl:(List.range (m+1)).map (· +off)=off::(List.range m).map (· +(off+1)):=by
        rw[List.range_succ_eq_map];simp;intro q _;omega
       rw[hl];simp only[Op.eqItems,Sem.run_bind,hva,hvb,Result.andThen_ok,hr];cases e1
       ·simp
       ·simpa using hrest
     have:=hitems k 0 ado e (by simpa using he)
     simpa using this
    ·cases h
   ·cases h
  ·cases h
end
end Go.Eng
