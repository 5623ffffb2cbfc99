/- Part 3 of the engine and its library. -/
import Derived.Test.YtjnbemnncjbmgaaGreatPkA2
set_option linter.all false
set_option maxRecDepth 10000
set_option maxHeartbeats 4000000
namespace Go.Eng
open Go
open Go.RowKit (Below)
section
variable{P:Program} {nt:Nat} {n0:gw} {w0:World} {π0:Nat->Nat->Prop} {U:Nat->Prop} {s:S} {a:Act} {w:World} {β:Nat->Nat} {τ:Nat->Value} {π:Nat->Nat->Prop}
theorem Rel.J4(R:Rel P nt n0 w0 π0 U s a w β τ π) (z:Nat):∀(Xs:List (Nat×Operand)) (xs:List aM) (rows:List (List AV)) (k:Nat) (pre tail:List AV) (us:Array Value),
  Xs.map (·.1)=(List.range Xs.length).map (· +k)->Xs.mapM (λp=>cn p.2)=some xs->j7 s z xs=some rows->ji w π (pre++tail) us.toList->(∀c∈pre++tail,c.scalar=true)->pre.length=k*z->tail.length=Xs.length*z->
  ∃L,Instr.fill (λi=>some (i*z,z)) us (Xs.map λp=>(p.1,a.eval p.2))=some L/\ji w π (pre++rows.flatten) L.toList/\(∀c∈pre++rows.flatten,c.scalar=true)/\rows.length=Xs.length/\∀r∈rows,r.length=z
 |[],xs,rows,k,pre,tail,us,h1,h2,D,hd,hs,hp,ht=>by
  simp at h2;subst h2;simp[j7]at D;subst D
  have:tail=[]:=rc (by simpa using ht)
  subst this
  exact⟨us,rfl,by simpa using hd,by simpa using hs,rfl,aaP⟩
 |(i,X)::Xs,xs,rows,k,pre,tail,us,h1,h2,D,hd,hs,hp,ht=>by
  simp only[rt,pb,io,tl,gc]at h2;obtain⟨x,hx,ae,am,rfl⟩:=h2;simp only[j7]at D;split at D
  ·rename_i av O ak Z
   split at D
   ·rename_i hz
    obtain⟨hz,a2⟩:=hz;cases D
    have hi:i=k:=by
     have:=rh (λl=>l[0]?) h1
     simpa using this
    subst hi
    have au:Xs.map (·.1)=(List.range Xs.length).map (· +(i+1)):=by
     have aa:=rh List.tail h1
     simp only[ka,List.tail_cons,fb,List.range_succ_eq_map,List.map_map]at aa;rw[aa]
     apply H4
     intro q _;simp;omega
    have ao:=R.aG hx ak
    obtain⟨ab,a4⟩:=ao.cells (λvs e=>by subst e;simp[gS]at a2)
    have an:(a.eval X).cells.size=z:=by have:=ab.1;simp at this;omega
    have a7:us.size=pre.length+tail.length:=by have:=hd.1;simp at this;omega
    have a8:tail.length=Xs.length*z+z:=by rw[ht];simp[Nat.add_mul]
    obtain⟨a6,he,a3,a9⟩:=vU (place:=λi=>some (i*z,z)) (cells:=us) (i:=i) (off:=i*z) (v:=a.eval X) (rest:=Xs.map λp=>(p.1,a.eval p.2)) (by rw[an]) aaN
    have ac:=hd.splice ab (off:=i*z) (by simp;omega)
    have al:(pre++tail).take (i*z)++av.cells++(pre++tail).drop (i*z+av.cells.length)=(pre++av.cells)++tail.drop z:=by
     rw[<-hp,List.take_left,hz,ww,List.drop_eq_nil_of_le aaN]
     simp
    rw[al]at ac
    have V:∀c∈(pre++av.cells)++tail.drop z,c.scalar=true:=by
     intro c M;simp only[lh]at M
     rcases M with(M|M)|M
     ·exact hs c (by simp[M])
     ·exact a4 c M
     ·exact hs c (by simp[pC M])
    obtain⟨L,hf,a5,ag,ad,ar⟩:=R.J4 z Xs ae O (i+1) (pre++av.cells) (tail.drop z) a6 au am Z (by rw[a3];exact ac) V (by simp[hp,hz,Nat.add_mul]) (by simp;omega)
    refine⟨L,by rw[ka,he];exact hf,by simpa[List.append_assoc]using a5,by simpa[List.append_assoc]using ag,by simp[ad],?_⟩
    intro r hr
    rcases nb.1 hr with rfl|hr
    ·exact hz
    ·exact ar r hr
   ·cases D
  ·cases D
theorem Rel.buildSlice(R:Rel P nt n0 w0 π0 U s a w β τ π) {t e:TypeId} {n z:Nat} {Xs:Array (Nat×Operand)} {zs:List AV} {xs:List aM} (ht:P.underlying t=some (.slice e)) (ba:zeroOf P e=some zs) (hz:f7 P e=some z)
  (a5:Xs.toList.mapM (λp=>cn p.2)=some xs) (am:(n*z<=16777216&&0<z&&zs.length==z&&Xs.toList.map (·.1)==List.range n)=true) {id:Nat} (bj:¬U id) {K:SV->S->Prop} (h:bn (Pure P) id (.RG e z xs) K s):
  ∃v y s' w' τ' π',(Instr.buildSlice t n (Xs.map λ(i,x)=>(i,a.eval x))).run P w=.ok y w'/\RV β τ' w' π' v y/\v.gK (eN U id)/\K v s'/\Rel P nt n0 w0 π0 (eN U id) s' a w' β τ' π':=by
 simp only[bn]at h;obtain⟨rows,ag,hK⟩:=ah h;simp only[ed,ii,md]at am;obtain⟨⟨⟨hn,ac⟩,a9⟩,ab⟩:=am
 obtain⟨zv,be,ak,ao⟩:=uD (P:=P) (w:=w) (π:=π) ba
 have O:Xs.toList.length=n:=by have:=rh List.length ab;simpa using this
 have a2:zv.cells.size=z:=by have:=ak.1;simp at this;omega
 -- the row of zeros that is filled
 have ae:ji w π ([]++(List.range (n*z)).map λi=>zs.getD (i%z) default) ((Array.range (n*z)).map (zv.cells[· %zv.cells.size]!)).toList:=by
  refine⟨aaP,λi c u D hu=>?_⟩
  simp only[ml,kx,Array.toList_map,Array.toList_range]at D hu
  by_cases hi:i<n*z
  ·have hm:i%z<z:=QR _ ac
   rw[mr hi]at D hu;simp only[mt,gc]at D hu;subst D;subst hu
   have h1:zs[i%z]? =some (zs.getD (i%z) default):=by
    rw[ia,eh aaN];simp
   have h2:zv.cells.toList[i%z]? =some (zv.cells[i%zv.cells.size]!):=by
    rw[a2]
    have:i%z<zv.cells.size:=aaN
    simp[this]
   exact ak.2 _ _ _ h1 h2
  ·rw[kb (by simp;omega)]at D
   simp at D
 have V:∀c∈([]:List AV)++(List.range (n*z)).map λi=>zs.getD (i%z) default,c.scalar=true:=by
  intro c D;simp only[ml,ne,j9]at D;obtain⟨i,hi,rfl⟩:=D
  have hm:i%z<zs.length:=by rw[a9];exact QR _ ac
  rw[ia,eh hm];exact ao _ (xn hm)
 obtain⟨M,hf,hd,hs,ar,al⟩:=R.J4 z Xs.toList xs rows 0 [] _ _ (by rw[ab,O];simp) a5 ag ae V aaP (by simp[O])
 simp only[ml]at hd hs
 have L:rows.length=n:=by rw[ar,O]
 have aa:M.size=n*z:=by have:=hd.1;rw[jm al,L]at this;simpa using this.symm
 obtain⟨R',bd⟩:=R.newRow (xs:=rows) (z:=z) (cap:=n) (cs:=M) e al aaN (by rw[L];omega) (λi x v hx hv=>hd.2 i x v hx (by simpa using hv)) (λr hr x hx=>hs x (NE.2 ⟨r,hr,hx⟩))
 obtain⟨i,hi,Z⟩:∃i,P.info? e=some i/\i.size=z:=by
  simp only[f7,eg]at hz;obtain⟨i,hi,a7⟩:=hz;exact⟨i,hi,a7⟩
 have au:n0.n<=w.heap.size:=kw R.f9 R.below.size
 have R2:=R'.uF (v:=.slice (some ⟨w.heap.size,0,none⟩) rows.length n) bj (by
   refine .inr ⟨w.heap.size,rows.length,n,M,i,rfl,.inl au,LE w _,aaN,?_,hi,by rw[Z];exact aa,λo ho D=>?_⟩
   ·have:=IH n ac
    simp only[maxLen];omega
   ·rw[Z]at ho
    rcases D with h|⟨_,h⟩
    ·have:=R.eF _ _ h;omega
    ·omega)
  (λq e' B hq hB ad=>by
   have h1:=((R.live q e' hq).2.block hB).2
   simp[jl]at ad
   omega)
  (λb x hb ad=>by
   obtain⟨_,_,⟨bl,el,hh,_⟩,_⟩:=R.boxes b x hb
   have:=oP hh
   simp[jl]at ad
   omega)
 refine⟨.dat (.sl rows) (some id),_,_,_,_,_,?_,⟨bd,λt ht=>by cases ht;rw[bY]⟩,.inr rfl,hK,R2⟩
 have a3:¬(n*z>16777216):=aaN
 have a4:(Xs.map λ(i,x)=>(i,a.eval x)).toList=Xs.toList.map λp=>(p.1,a.eval p.2):=aaP
 by_cases an:n*z=0
 ·have bi:n=0:=by
   rcases Nat.mul_eq_zero.1 an with h|h
   ·exact h
   ·omega
  subst bi
  have hX:Xs.toList=[]:=rc O
  have a8:M=#[]:=by
   apply Array.eq_empty_of_size_eq_zero
   rw[aa];simp
  have a6:Xs=#[]:=by cases Xs;simp at hX;subst hX;rfl
  subst a6 a8
  simp[Instr.buildSlice,im ht,eu (w:=w) hz,Instr.fill,Go.newRow,L]
  congr 2
  exact Array.eq_empty_of_size_eq_zero aaP
 ·simp only[Instr.buildSlice,f8,im ht,fp,eu (w:=w) hz]
  rw[ge (by simpa using a3)]
  simp only[an,il,f8,km,fp,be,a4,hf,Go.newRow,run_newObj,L];rfl
theorem DV.news{V:List (List AV)} {B off m c:Nat} {z:Nat} (h:DV w π (.sl V) (.slice (some ⟨B,off,none⟩) m c)) (hz:∀r∈V,r.length=z):
  m=V.length/\∃news:List Value,news.length=m*z/\(∀j u,news[j]? =some u->w.cell? ((⟨B,off,none⟩:Addr).add j)=some u)/\(∀u∈news,u.oneCell'=true)/\ji w π V.flatten news/\∀r∈V,∀x∈r,x.scalar=true:=by
 cases h with
 |PV _=>exact⟨rfl,[],aaP,aaP,aaP,⟨rfl,aaP⟩,aaP⟩
 |sl _ _ _ cap O f h1 h2 h3 h4 h5 h6=>
  refine⟨rfl,?_⟩
  have ag:=jm hz
  -- every place of the row is some element's
  have ae:∀q,q<V.length*z->∃(i j:Nat) (r:List AV) (x:AV),V[i]? =some r/\r[j]? =some x/\q=i*z+j/\V.flatten[q]? =some x/\O=z:=by
   intro q Z
   have L:0<z:=by
    rcases FS z with e|e
    ·subst e;simp at Z
    ·exact e
   have hi:q/z<V.length:=by rw[Nat.div_lt_iff_lt_mul L];exact Z
   have R:=eh hi
   have ak:=hz _ (xn hi)
   have hj:q%z<(V[q/z]).length:=by rw[ak];exact QR _ L
   have D:=eh hj
   have am:q/z*z+q%z=q:=by rw[se];exact H5 q z
   refine⟨q/z,q%z,_,_,R,D,am.symm,?_,by rw[<-h2 _ _ R,ak]⟩
   have:=l5 hz R D
   rwa[am]at this
  refine⟨(List.range (V.length*z)).map λq=>f (q/z) (q%z),aaP,?_,?_,⟨by simp[ag],?_⟩,λr R x D=>?_⟩
  ·intro q u hu
   have Z:q<V.length*z:=by
    rcases lj q (V.length*z)with h'|h'
    ·exact h'
    ·rw[kb (by simp;omega)]at hu;cases hu
   obtain⟨i,j,r,x,R,D,he,_,ac⟩:=ae q Z;subst ac
   have L:0<O:=by
    rcases FS O with e|e
    ·subst e;simp at Z
    ·exact e
   have M:j<O:=by
    rw[<-h2 _ _ R]
    rcases lj j r.length with h'|h'
    ·exact h'
    ·rw[kb h']at D;cases D
   have aa:q/O=i:=by rw[he,se,Nat.mul_add_div L,Do M,sh]
   have ab:q%O=j:=by rw[he,se,Nat.mul_add_mod,B0 M]
   simp only[kx,mr Z,mt,gc]at hu;subst hu;rw[iK,aa,ab,he,<-Hb];exact h5 i j r x R D
  ·intro u hu
   simp only[ne,j9]at hu;obtain⟨q,Z,rfl⟩:=hu;obtain⟨i,j,r,x,R,D,he,_,ac⟩:=ae q Z;subst ac
   have L:0<O:=by
    rcases FS O with e|e
    ·subst e;simp at Z
    ·exact e
   have M:j<O:=by
    rw[<-h2 _ _ R]
    rcases lj j r.length with h'|h'
    ·exact h'
    ·rw[kb h']at D;cases D
   have aa:q/O=i:=by rw[he,se,Nat.mul_add_div L,Do M,sh]
   have ab:q%O=j:=by rw[he,se,Nat.mul_add_mod,B0 M]
   rw[aa,ab];exact(h6 i j r x R D).N7 (h3 i j r x R D)
  ·intro q x u D hu
   have Z:q<V.length*z:=by
    rcases lj q (V.length*z)with h'|h'
    ·exact h'
    ·rw[kb (by rw[ag];omega)]at D;cases D
   obtain⟨i,j,r,x',R,ad,he,al,ac⟩:=ae q Z;subst ac
   have an:x=x':=by rw[D]at al;exact xa al
   subst an
   have L:0<O:=by
    rcases FS O with e|e
    ·subst e;simp at Z
    ·exact e
   have M:j<O:=by
    rw[<-h2 _ _ R]
    rcases lj j r.length with h'|h'
    ·exact h'
    ·rw[kb h']at ad;cases ad
   have aa:q/O=i:=by rw[he,se,Nat.mul_add_div L,Do M,sh]
   have ab:q%O=j:=by rw[he,se,Nat.mul_add_mod,B0 M]
   simp only[kx,mr Z,mt,gc]at hu;subst hu;rw[aa,ab];exact h6 i j r x R ad
  ·obtain⟨i,hi⟩:=my.1 R
   obtain⟨j,hj⟩:=my.1 D
   exact h3 i j r x hi hj
theorem Rel.lC(R:Rel P nt n0 w0 π0 U s a w β τ π) {b:Nat} {x:bH} (h:bO b s.boxes=some x):β b<w.heap.size:=by
 obtain⟨_,_,⟨L,M,D,_⟩,_⟩:=R.boxes b x h;exact oP D
theorem Rel.grown(R:Rel P nt n0 w0 π0 U s a w β τ π) {id e z old:Nat} {i:TypeInfo} {zv:Value} (hi:P.info? e=some i) (hz:i.zero=some zv) (O:i.size=z) (ae:zv.cells.size=z) (al:0<z) (ak:¬U id) {zs:List (List AV)} {vs:List Value} (Z:vs.length=zs.length*z) (hd:ji w π zs.flatten vs) (D:∀r∈zs,r.length=z) (ag:∀r∈zs,∀x∈r,x.scalar=true)
  (ac:zs.length<=maxLen) {cs:Array Value} (V:cs=vs.toArray++Builtin.zeroCells zv.cells (grownCap w zs.length old e-zs.length)):
  ∃π',Rel P nt n0 w0 π0 (eN U id) {s with live:=(id,e)::s.live} a (w.drew.alloc (.cells cs e)) β (Ge τ id (.slice (some ⟨w.heap.size,0,none⟩) zs.length (grownCap w zs.length old e))) π'/\
   DV (w.drew.alloc (.cells cs e)) π' (.sl zs) (.slice (some ⟨w.heap.size,0,none⟩) zs.length (grownCap w zs.length old e)):=by
 have L:=grownCap_ge w zs.length old e
 have ab:grownCap w zs.length old e<=maxLen:=grownCap_le_maxLen w zs.length old e ac
 have hsize:cs.size=grownCap w zs.length old e*z:=by
  rw[V];simp only[Array.size_append,List.size_toArray,size_zeroCells,ae,Z,<-Nat.add_mul]
  congr 1;omega
 have aa:n0.n<=w.heap.size:=kw R.f9 R.below.size
 obtain⟨R',ad⟩:=R.draw.newRow (xs:=zs) (z:=z) (cap:=grownCap w zs.length old e) (cs:=cs) e D L (by rw[hsize];exact ip _ L)
  (λq x v hx hv=>by
   have hq:q<vs.length:=by
    rw[Z,<-jm D]
    rcases lj q zs.flatten.length with h'|h'
    ·exact h'
    ·rw[kb h']at hx;cases hx
   rw[V,Array.getElem?_append_left (by simpa using hq)]at hv
   exact DV.mono (w:=w) (w':=w.drew) (π:=π) (λ_ _ h=>h) (λ_ _ _=>rfl) (hd.2 q x v hx (by simpa using hv))) ag
 refine⟨_,R'.uF ak ?_ ?_ ?_,ad⟩
 ·refine .inr ⟨w.heap.size,zs.length,grownCap w zs.length old e,cs,i,rfl,.inl aa,LE w.drew _,L,ab,hi,by rw[O];exact hsize,λo ho hc=>?_⟩
  rw[O]at ho
  rcases hc with h|⟨_,h⟩
  ·have:=R.eF _ _ h;omega
  ·omega
 ·intro q e' B hq hB M
  have h1:=((R.live q e' hq).2.block hB).2
  simp[jl]at M;omega
 ·intro b x hb M
  have:=R.lC hb
  simp[jl]at M;omega
theorem Rel.append(R:Rel P nt n0 w0 π0 U s a w β τ π) {t e:TypeId} {i:TypeInfo} {zv:Value} {X Y:Operand} {x y:aM} (ht:P.underlying t=some (.slice e)) (hi:P.info? e=some i) (hz:i.zero=some zv) (b4:(0<i.size&&zv.cells.size==i.size&&0<i.bytes)=true)
  (hx:cn X=some x) (hy:cn Y=some y) {id:Nat} (bw:¬U id) (ty:TypeId) {K:SV->S->Prop} (h:bn (Pure P) id (.app e i.size i.bytes x y) K s):
  ∃v u s' w' τ' π',(Builtin.append_ #[t,t] ty #[a.eval X,a.eval Y]).run P w=.ok u w'/\RV β τ' w' π' v u/\v.gK (eN U id)/\K v s'/\Rel P nt n0 w0 π0 (eN U id) s' a w' β τ' π':=by
 simp only[ed,ii,md]at b4;obtain⟨⟨b7,b5⟩,c0⟩:=b4;simp only[bn]at h;obtain⟨p,hp,k1⟩:=ah h;obtain⟨hr,hU⟩:=R.bJ hx hp
 cases p with
 |ptr _ _=>exact k1.elim
 |rp _=>exact k1.elim
 |undef=>exact k1.elim
 |vs _ _ _ _=>exact k1.elim
 |mL _ _ _=>exact k1.elim
 |raw _ _=>exact k1.elim
 |pt _ _=>exact k1.elim
 |dat av q=>
  obtain⟨xs,a5,k2⟩:=ah k1;obtain⟨b,hb,k3⟩:=ah k2;obtain⟨D,a3,hbytes,ao,bl,k4⟩:=ah k3;obtain⟨am,cp⟩:=hr
  have a6:=R.aG hy hb
  have cu:∀n,U n->eN U id n:=λn h=>.inl h
  -- what is appended: nil,or a slice whose cells are known
  have hnews:(a.eval Y=.slice none 0 0/\D=[])\/∃(A:Addr) (m c:Nat),a.eval Y=.slice (some A) m c/\m=D.length/\∃news:List Value,news.length=m*i.size/\(∀j u,news[j]? =some u->w.cell? (A.add j)=some u)/\(∀u∈news,u.oneCell'=true)/\ji w π D.flatten news/\∀r∈D,∀x∈r,x.scalar=true:=by
   cases b<;>simp only[rowsOf]at a3<;>try(cases a3;done)
   ·cases a3
    generalize a.eval Y=v at a6;cases a6;exact .inl ⟨rfl,rfl⟩
   ·cases a3
    generalize a.eval Y=v at a6
    cases a6 with
    |PV A=>exact .inr ⟨A,0,0,rfl,rfl,[],aaP,aaP,aaP,⟨rfl,aaP⟩,aaP⟩
    |sl _ B off cap z f h1 h2 h3 h4 h5 h6=>
     obtain⟨hm,hn⟩:=DV.news (.sl D B off cap z f h1 h2 h3 h4 h5 h6) bl
     exact .inr ⟨⟨B,off,none⟩,_,cap,rfl,rfl,hn⟩
  have ad:(xs.length+D.length)<=maxLen:=by
   have:=IH (xs.length+D.length) c0
   simp only[maxLen];omega
  cases av<;>simp only[rowsOf]at a5<;>try(cases a5;done)
  case aU=>
   cases a5
   have a2:a.eval X=.slice none 0 0:=by generalize a.eval X=v at am;cases am;rfl
   by_cases a4:D=[]
   ·subst a4
    simp only[kv]at k4
    refine⟨.dat .aU none,.slice none 0 0,s,w,τ,π,?_,⟨.aU,λt ht=>by cases ht⟩,trivial,k4,R.sub cu⟩
    rcases hnews with⟨Z,_⟩|⟨A,m,c,Z,hm,news,hl,_⟩
    ·rw[a2,Z]
     simp[Builtin.append_,im ht,sizeOf,typeInfo,hi,Builtin.lenOf,Builtin.firstCells]
    ·simp at hm;subst hm
     rw[a2,Z];simp[Builtin.append_,im ht,sizeOf,typeInfo,hi,Builtin.lenOf,Builtin.firstCells,loadCells,loadCellsFrom]
   ·simp only[a4,il,ml]at k4
    rcases hnews with⟨_,co⟩|⟨A,m,c,Z,rfl,news,hl,hcell,ar,ae,aa⟩
    ·exact absurd co a4
    ·have ci:0<D.length:=List.length_pos_iff.2 a4
     simp only[gs,kr]at hbytes ad
     have ab:=run_append_nil (P:=P) w t ty e i zv ht hi hz A D.length c news hl hcell ci (by simp only[maxLen]at ad;omega) aaN
     obtain⟨π',R',bo⟩:=R.grown (old:=0) hi hz rfl b5 b7 bw hl ae bl aa ad rfl
     exact⟨.dat (.sl D) (some id),_,_,_,_,_,by rw[a2,Z];exact ab,⟨bo,λt ht=>by cases ht;rw[bY]⟩,.inr rfl,k4,R'⟩
  case sl l=>
   cases a5
   cases q with
   |none=>exact k4.elim
   |some q=>
    obtain⟨ag,hK⟩:=k4
    have hτ:a.eval X=τ q:=cp q rfl
    obtain⟨c5,cr⟩:=R.live q e ag;generalize a2:a.eval X=v at am hτ
    rcases cr with a9|⟨B,len,cap,L,M,ca,cb,hh,c1,c2,b3,al,hfree⟩
    ·rw[<-hτ]at a9
     subst a9;cases am
    ·rw[<-hτ]at ca
     have c3:M=i:=by rw[hi]at b3;exact(xa b3).symm
     subst c3;subst ca
     have be:jl (τ q)=some B:=by rw[<-hτ];rfl
     have ce:len=xs.length:=by cases am<;>rfl
     subst ce;obtain⟨_,V,b8,holds,cv,b2,ba⟩:=DV.news am ao
     have a7:∀(j:Nat) (u:Value),V[j]? =some u->L[j]? =some u:=by
      intro j u hu
      have:=holds j u hu
      rw[iK,kr,xr w B j L e (0,0) hh]at this;exact this
     have O:∀r∈xs++D,r.length=M.size:=λr hr=>by
      rcases lh.1 hr with hr|hr
      ·exact ao r hr
      ·exact bl r hr
     -- what is appended,whatever it is,as a list of values
     have hsplit:xs.flatten++D.flatten=(xs++D).flatten:=aaP
     have cx:xs.length*M.size<=L.size:=by rw[al];exact ip _ c1
     have bi:∀q' e',dJ q' (jj q s.live)=some e'->jl (τ q')≠some B:=by
      intro q' e' bs an;obtain⟨h1,h2⟩:=kg bs;exact h2 (R.cw q' q e' e B h1 ag an be)
     have bj:∀b x,bO b s.boxes=some x->β b≠B:=λb x hb e'=>R.cz q e b x ag hb (by rw[be,e'])
     by_cases hroom:xs.length+D.length<=cap
     ·--in place
      have key:∃(news:List Value),news.length=D.length*M.size/\ji w π D.flatten news/\(∀r∈D,∀x∈r,x.scalar=true)/\
        (Builtin.append_ #[t,t] ty #[.slice (some ⟨B,0,none⟩) xs.length cap,a.eval Y]).run P w=.ok (.slice (some ⟨B,0,none⟩) (xs.length+D.length) cap) (w.setRow B (L.toList.take (xs.length*M.size)++news++L.toList.drop (xs.length*M.size+news.length)).toArray):=by
       rcases hnews with⟨Z,rfl⟩|⟨A,m,c,Z,rfl,news,hl,hcell,ar,ae,aa⟩
       ·refine⟨[],aaP,⟨rfl,λi a v h=>by simp at h⟩,aaP,?_⟩
        rw[Z]
        have b1:w.setRow B (L.toList.take (xs.length*M.size)++[]++L.toList.drop (xs.length*M.size+([]:List Value).length)).toArray=w:=by
         have:=setRow_self w B L e (0,0) hh
         simpa using this
        rw[b1];simp at hroom;simp[Builtin.append_,im ht,sizeOf,typeInfo,hi,Builtin.lenOf,Builtin.firstCells,hroom,storeCells]
       ·refine⟨news,hl,ae,aa,?_⟩
        rw[Z]
        exact run_append_room (P:=P) w t ty e M ht hi B xs.length cap L hh A D.length c news hl hcell ar hroom (by rw[hl,al,<-Nat.add_mul];exact ip _ hroom)
      obtain⟨news,hl,ae,aa,ab⟩:=key
      have ct:xs.length*M.size+news.length<=L.size:=by rw[hl,al,<-Nat.add_mul];exact ip _ hroom
      have ch:=iL L.toList news (xs.length*M.size) (by simpa using ct)
      generalize au:(L.toList.take (xs.length*M.size)++news++L.toList.drop (xs.length*M.size+news.length)).toArray=cur' at ab
      have ak:∀o,cur'[o]? =if o<xs.length*M.size then L[o]? else if o<xs.length*M.size+news.length then news[o-xs.length*M.size]? else L[o]?:=by
       intro o;rw[<-au,xv,ch];simp
      have R1:=(R.MH q).J3 (m:=(xs.length+D.length)*M.size) (cur':=cur') cb hh (λo ho=>by
       rw[ak o,ib]
       rcases lj o (xs.length*M.size)with h'|h'
       ·exact h'
       ·exact absurd ho (hfree o h')) bi bj
      have bm:(w.setRow B cur').heap[B]? =some (.cells cur' e (0,0)):=setRow_heap w _ L _ e _ hh
      have ck:cur'.size=L.size:=by
       rw[<-au];simp;omega
      have a8:∀q' e' C,dJ q' (jj q s.live)=some e'->jl (τ q')=some C->jl (Value.slice (some ⟨B,0,none⟩) (xs.length+D.length) cap)≠some C:=by
       intro q' e' C bs hC an;simp[jl]at an
       exact bi q' e' bs (by rw[hC,an])
      have R2:=R1.uF (id:=id) (e:=e) (v:=.slice (some ⟨B,0,none⟩) (xs.length+D.length) cap) bw
       (.inr ⟨B,xs.length+D.length,cap,cur',M,rfl,cb,bm,hroom,c2,hi,by rw[ck,al],λo ho hc=>by
        rcases hc with h|⟨_,h⟩
        ·exact hfree o (by rw[Nat.add_mul]at ho;omega) h
        ·omega⟩) a8 (λb x hb an=>bj b x hb (by simpa[jl]using an.symm))
      refine⟨.dat (.sl (xs++D)) (some id),_,_,_,_,_,ab,⟨?_,λt ht=>by cases ht;rw[bY]⟩,.inr rfl,hK,R2⟩
      -- the longer slice reads as the longer list
      have hmono:∀{x:AV} {v:Value},DV w π x v->DV (w.setRow B cur') (grow π B ((xs.length+D.length)*M.size)) x v:=λh=>h.mono (λ_ _ h=>.inl h) (λb o h=>by
       by_cases e':b=B
       ·subst e'
        rw[xr _ _ _ cur' e (0,0) bm,xr _ _ _ L e (0,0) hh,ak o,ib]
        rcases lj o (xs.length*M.size)with h'|h'
        ·exact h'
        ·exact absurd h (hfree o h')
       ·exact aal w _ cur' ⟨b,o,none⟩ e')
      have bd:∀(j:Nat) (x:AV),(xs++D).flatten[j]? =some x->∃v,cur'[j]? =some v/\DV w π x v:=by
       intro j x hx;rw[<-hsplit]at hx;rw[ak j]
       by_cases hj:j<xs.length*M.size
       ·rw[ib hj]
        rw[kp (by rw[jm ao];exact hj)]at hx
        obtain⟨v,hv,hd⟩:=b2.get hx;exact⟨v,a7 j v hv,hd⟩
       ·rw[ge hj]
        rw[kt (by rw[jm ao];omega),jm ao]at hx
        obtain⟨v,hv,hd⟩:=ae.get hx
        have:j-xs.length*M.size<news.length:=by
         rcases lj (j-xs.length*M.size) news.length with h'|h'
         ·exact h'
         ·rw[kb h']at hv;cases hv
        rw[ib aaN]
        exact⟨v,hv,hd⟩
      have ac:xs.length+D.length=(xs++D).length:=aaP
      rw[ac]
      refine .sl (xs++D) B 0 cap M.size (λi j=>cur'.getD (i*M.size+j) undef) (by simpa using hroom) (λi r hr=>O r (et hr)) (λi j r x hr hx=>?_) (λi j r x hr hx=>?_) (λi j r x hr hx=>?_) (λi j r x hr hx=>?_)
      ·rcases lh.1 (et hr)with hr'|hr'
       ·exact ba r hr' x (et hx)
       ·exact aa r hr' x (et hx)
      ·refine .inr ⟨rfl,?_⟩
       have hf:=l5 O hr hx
       rcases lj (i*M.size+j) ((xs++D).length*M.size)with h'|h'
       ·omega
       ·rw[kb (by rw[jm O];exact h')]at hf;cases hf
      ·obtain⟨v,hv,hd⟩:=bd _ x (l5 O hr hx)
       rw[kr,xr _ _ _ cur' e (0,0) bm,hv];simp[hv]
      ·obtain⟨v,hv,hd⟩:=bd _ x (l5 O hr hx)
       simp only[vd,hv,wi]
       have b6:=hmono hd
       rw[ac]at b6;exact b6
     ·--a new row
      rcases hnews with⟨Z,rfl⟩|⟨A,m,c,Z,rfl,news,hl,hcell,ar,ae,aa⟩
      ·simp at hroom;omega
      ·have ab:=run_append_grow (P:=P) w t ty e M zv ht hi hz ⟨B,0,none⟩ xs.length cap V b8 holds A D.length c news hl hcell aaN (by simp only[maxLen]at ad;omega) (growslice_fits aaN hbytes)
       have ac:xs.length+D.length=(xs++D).length:=aaP
       have c4:(V++news).length=(xs++D).length*M.size:=by simp[b8,hl,Nat.add_mul]
       have bo:ji w π (xs++D).flatten (V++news):=by rw[<-hsplit];exact b2.append ae
       have b0:∀r∈xs++D,∀x∈r,x.scalar=true:=λr hr=>by
        rcases lh.1 hr with hr|hr
        ·exact ba r hr
        ·exact aa r hr
       obtain⟨π',R',cy⟩:=(R.MH q).grown (old:=cap) hi hz rfl b5 b7 bw c4 bo O b0 (by rw[<-ac];exact ad) rfl
       rw[Z];rw[ac]at ab
       refine⟨.dat (.sl (xs++D)) (some id),_,_,_,Ge τ id (.slice (some ⟨w.heap.size,0,none⟩) (xs++D).length (grownCap w (xs++D).length cap e)),π',ab,⟨?_,λt ht=>by cases ht;rw[bY]⟩,.inr rfl,hK,?_⟩
       ·have e1:V.toArray++news.toArray=(V++news).toArray:=aaP
        rw[e1];exact cy
       ·have e1:V.toArray++news.toArray=(V++news).toArray:=aaP
        rw[e1];exact R'
end
open Go.RowKit (Below)
def RB(w:World) (π:Nat->Nat->Prop) (P:Program) (t:TypeId) (as:List AV) (v:Value):Prop:=
 if oJ P t then∃xs:Array Value,v=.agg xs/\ji w π as xs.toList/\∀a∈as,a.scalar=true
 else∃a,as=[a]/\DV w π a v
section
variable{P:Program} {w:World} {π:Nat->Nat->Prop}
theorem n9:∀{L D:List CK} {as M cs ds:List AV} {e:Bool},L.length=as.length->as.length=M.length->cq (L++D) (as++cs) (M++ds)=some e->∃O R,cq L as M=some O/\cq D cs ds=some R/\e=(O&&R)
 |[],D,[],[],cs,ds,e,_,_,h=>⟨true,e,rfl,h,rfl⟩
 |[],D,[],b::M,_,_,_,_,h,_=>by simp at h
 |[],D,a::as,_,_,_,_,h,_,_=>by simp at h
 |k::L,D,[],_,_,_,_,h,_,_=>by simp at h
 |k::L,D,a::as,[],_,_,_,_,h,_=>by simp at h
 |k::L,D,a::as,b::M,cs,ds,e,hk,V,h=>by
  simp only[sa,cq]at h;split at h
  ·rename_i x y hx hy
   cases h
   obtain⟨O,R,h1,Z,h3⟩:=n9 (by simpa using hk) (by simpa using V) hy
   exact⟨x&&O,R,by simp[cq,hx,h1],Z,by rw[h3,Bool.and_assoc]⟩
  ·cases h
theorem yS{t:TypeId} {z:Nat} (hz:f7 P t=some z) {d:TypeDesc} (hu:P.underlying t=some d) (R:oJ P t=false->z=1) {as:List AV} {xs:Array Value} (hd:ji w π as xs.toList) (hs:∀a∈as,a.scalar=true) {off:Nat} (aa:off+z<=as.length):
  ∃v,(part t xs off).run P w=.ok v w/\RB w π P t ((as.drop off).take z) v:=by
 have Z:=yR (P:=P) (w:=w) hu
 have h2:=eu (P:=P) (w:=w) hz
 have hl:xs.size=as.length:=by have:=hd.1;simp at this;omega
 cases M:oJ P t with
 |true=>
  refine⟨.agg (xs.extract off (off+z)),by simp[part,Z,M,h2],?_⟩
  unfold RB;rw[ib M]
  refine⟨_,rfl,⟨by simp;omega,λi a v L hv=>?_⟩,λa L=>hs a (pC (ul L))⟩
  rw[ws]at L;split at L
  ·rename_i hi
   rw[lw]at L;refine hd.2 (off+i) a v L ?_
   have:xs.toList[off+i]? =(xs.extract off (off+z)).toList[i]?:=by
    simp only[aaJ,Array.getElem?_extract]
    rw[ib aaN]
   rw[this];exact hv
  ·cases L
 |false=>
  have V:=R M
  subst V
  have O:off<xs.size:=aaN
  refine⟨xs[off],by simp[part,Z,M,O],?_⟩
  unfold RB
  rw[ge (by simp[M])]
  have D:off<as.length:=aaN
  refine⟨as[off],?_,hd.2 off _ _ (eh D) (by simp[O])⟩
  rw[aaa D];rfl
theorem yT{d t:Nat} {M:List CK} (h:nQ P d t=some M):∃u,P.underlying t=some u/\(oJ P t=false->M.length=1):=by
 cases d with
 |zero=>simp[nQ]at h
 |succ d=>
  simp only[nQ]at h
  split at h<;>first|(rename_i D;cases h;exact⟨_,D,λ_=>rfl⟩)|skip
  ·rename_i O D;exact⟨_,D,λL=>by simp[oJ,D]at L⟩
  ·rename_i k e D;exact⟨_,D,λL=>by simp[oJ,D]at L⟩
  ·cases h
theorem oQ{k:CK} {a b:AV} {e:Bool} (h:cq [k] [a] [b]=some e):rI k a b=some e:=by
 simp only[cq]at h;split at h
 ·rename_i x y L D;cases h;cases D;simp[L]
 ·cases h
theorem oR:∀{D:List CK} {as L:List AV} {e:Bool},cq D as L=some e->D.length=as.length/\as.length=L.length
 |[],[],[],e,h=>⟨rfl,rfl⟩
 |[],[],b::L,_,h=>by simp[cq]at h
 |[],a::as,_,_,h=>by simp[cq]at h
 |k::D,[],_,_,h=>by simp[cq]at h
 |k::D,a::as,[],_,h=>by simp[cq]at h
 |k::D,a::as,b::L,e,h=>by
  simp only[cq]at h;split at h
  ·rename_i x y V O
   obtain⟨R,M⟩:=oR O;simp[R,M]
  ·cases h
theorem aa0:∀(d:Nat) (t:TypeId) (ks:List CK),nQ P d t=some ks->∀(D:Nat),d<=D->∀(as bs:List AV) (x y:Value) (e:Bool),RB w π P t as x->RB w π P t bs y->cq ks as bs=some e->
  (Op.equalIn D t x y).run P w=.ok e w:=by
 intro d
 induction d with
 |zero=>intro t ks h;simp[nQ]at h
 |succ d ih=>
  intro t ks h D hD as bs x y e hx hy he
  obtain⟨D,rfl⟩:∃D',D=D'+1:=⟨D-1,aaN⟩
  obtain⟨hla,hlb⟩:=oR he;simp only[nQ]at h
  -- the fields,one behind the other
  have hfields:∀(fs:List Field) (off:Nat) (ls:List CK),JU P (nQ P d) fs off=some ls->∀(xs ys:Array Value) (e:Bool),ji w π as xs.toList->(∀a∈as,a.scalar=true)->ji w π bs ys.toList->(∀a∈bs,a.scalar=true)->cq ls (as.drop off) (bs.drop off)=some e->(Op.eqFields D xs ys fs).run P w=.ok e w:=by
   intro fs
   induction fs with
   |nil=>
    intro off ls ht xs ys e h1 h2 h3 h4 he;simp[JU]at ht;subst ht;obtain⟨k1,k2⟩:=oR he
    have n1:as.drop off=[]:=List.eq_nil_of_length_eq_zero k1.symm
    have n2:bs.drop off=[]:=List.eq_nil_of_length_eq_zero (by rw[<-k2,<-k1];rfl)
    rw[n1,n2]at he;simp[cq]at he;subst he;rfl
   |cons f fs ihf=>
    intro off ls ht xs ys e h1 h2 h3 h4 he;simp only[JU]at ht;split at ht
    ·cases ht
    ·rename_i hname
     split at ht
     ·rename_i ms hz
      split at ht
      ·rename_i hsz
       obtain⟨hsz,hpos⟩:=hsz;simp only[Option.map_eq_some_iff]at ht;obtain⟨ls',ht,rfl⟩:=ht;obtain⟨k1,k2⟩:=oR he;simp only[List.length_append,List.length_drop]at k1 k2;obtain⟨u,hu,hone⟩:=yT hz
       have hoff:f.offset=off:=by
        have:=not_or.1 hname
        simpa using this.2
       have hnm : f.name ≠ "_" := (not_or.1 hname).1
       have hma:off+ms.length<=as.length:=aaN
       obtain⟨va,hva,hVa⟩:=yS (P:=P) hsz hu hone h1 h2 (off:=off) aaN
       obtain⟨vb,hvb,hVb⟩:=yS (P:=P) hsz hu hone h3 h4 (off:=off) aaN
       have hsplit:∀l:List AV,l.drop off=(l.drop off).take ms.length++l.drop (off+ms.length):=by
        intro l;rw[<-List.drop_drop,List.take_append_drop]
       rw[hsplit as,hsplit bs]at he
       obtain⟨e1,e2,he1,he2,rfl⟩:=n9 (by simp;omega) (by simp;omega) he
       have hr:=ih f.type ms hz D aaN _ _ va vb e1 hVa hVb he1
       have hrest:=ihf (off+ms.length) ls' ht xs ys e2 h1 h2 h3 h4 he2
       simp only[Op.eqFields,if_pos hnm,hoff,Sem.run_bind,hva,hvb,Result.andThen_ok,hr];cases e1
       ·simp
       ·simpa using hrest
      ·cases ht
     ·cases ht
  have hscalar:oJ P t=false->∃a b,as=[a]/\bs=[b]/\DV w π a x/\DV w π b y:=by
   intro hg;simp only[RB,hg,Bool.false_eq_true,if_false]at hx hy;obtain⟨a,rfl,ha⟩:=hx;obtain⟨b,rfl,hb⟩:=hy;exact⟨a,b,rfl,rfl,ha,hb⟩
  split at h
  ·rename_i hu
   cases h
   obtain⟨a,b,rfl,rfl,ha,hb⟩:=hscalar (by simp[oJ,hu])
   have hc:=oQ he
   cases a<;>cases b<;>simp only[rI]at hc<;>try(cases hc;done)
   cases ha;cases hb;cases hc;exact run_equalIn_bool' w D t _ _ hu
  ·rename_i k hu
   cases h
   obtain⟨a,b,rfl,rfl,ha,hb⟩:=hscalar (by simp[oJ,hu])
   have hc:=oQ he
   cases a<;>cases b<;>simp only[rI]at hc<;>try(cases hc;done)
   split at hc
   ·rename_i hk
    subst hk;cases ha;cases hb;cases hc;exact run_equalIn_int w D t _ k _ _ hu
   ·cases hc
  ·rename_i k hu
   cases h
   obtain⟨a,b,rfl,rfl,ha,hb⟩:=hscalar (by simp[oJ,hu])
   have hc:=oQ he
   cases a<;>cases b<;>simp only[rI]at hc<;>try(cases hc;done)
   split at hc
   ·rename_i hk
    subst hk;cases ha;cases hb;cases hc;simp[Op.equalIn,run_underlying hu,Op.floatEq]
   ·cases hc
  ·rename_i hu
   cases h
   obtain⟨a,b,rfl,rfl,ha,hb⟩:=hscalar (by simp[oJ,hu])
   have hc:=oQ he
   cases a<;>cases b<;>simp only[rI]at hc<;>try(cases hc;done)
   cases ha;cases hb;cases hc;simp[Op.equalIn,run_underlying hu]
  ·rename_i fs hu
   split at h
   ·cases h
   ·rename_i hst
    simp only[RB,oJ,hu,if_true]at hx hy;obtain⟨xs,rfl,hxd,hxs⟩:=hx;obtain⟨ys,rfl,hyd,hys⟩:=hy
    have hfo:P.fieldsOf t=fs:=by simp[Program.fieldsOf,hu]
    rw[run_equalIn_struct w D t xs ys (by rw[hfo];exact hu) (by simpa using hst),hfo]
    exact hfields fs.toList 0 ks h xs ys e hxd hxs hyd hys (by simpa using he)
  ·rename_i k el hu
   split at h
   ·rename_i ms hz
    split at h
    ·rename_i hsz
     cases h;simp only[RB,oJ,hu,if_true]at hx hy;obtain⟨xs,rfl,hxd,hxs⟩:=hx;obtain⟨ys,rfl,hyd,hys⟩:=hy
     obtain⟨i,hi⟩:∃i,P.info? el=some i:=by
      simp only[f7,Option.map_eq_some_iff]at hsz;obtain⟨i,hi,_⟩:=hsz;exact⟨i,hi⟩
     rw[run_equalIn_array w D xs ys hu hi];obtain⟨u,hue,hone⟩:=yT hz
     have hcz:P.cellsOf el=ms.length:=by
      have:=hsz
      simp only[f7]at this;simp[Program.cellsOf,this]
     rw[hcz]
     have hlk:as.length=k*ms.length:=by rw[<-hla];simp
     -- item by item
     have hitems:∀(m off:Nat),off+m=k->∀e,cq (List.replicate m ms).flatten (as.drop (off*ms.length)) (bs.drop (off*ms.length))=some e->(Op.eqItems D el ms.length xs ys ((List.range m).map (· +off))).run P w=.ok e w:=by
      intro m
      induction m with
      |zero=>
       intro off hoff e2 he2
       have hoff':off=k:=aaN
       rw[hoff']at he2
       have n1:as.drop (k*ms.length)=[]:=List.drop_eq_nil_of_le aaN
       have n2:bs.drop (k*ms.length)=[]:=List.drop_eq_nil_of_le aaN
       rw[n1,n2]at he2;simp[cq]at he2;subst he2;rfl
      |succ m ihm=>
       intro off hoff e he
       have hle:off*ms.length+ms.length<=k*ms.length:=by
        have:(off+1)*ms.length<=k*ms.length:=Nat.mul_le_mul_right ms.length aaN
        rw[Nat.add_mul]at this;omega
       obtain⟨va,hva,hVa⟩:=yS (P:=P) hsz hue hone hxd hxs (off:=off*ms.length) aaN
       obtain⟨vb,hvb,hVb⟩:=yS (P:=P) hsz hue hone hyd hys (off:=off*ms.length) aaN
       have hsplit:∀l:List AV,l.drop (off*ms.length)=(l.drop (off*ms.length)).take ms.length++l.drop ((off+1)*ms.length):=by
        intro l
        rw[show(off+1)*ms.length=off*ms.length+ms.length by rw[Nat.add_mul];omega,<-List.drop_drop,List.take_append_drop]
       rw[hsplit as,hsplit bs,List.replicate_succ,List.flatten_cons]at he
       obtain⟨e1,e2,he1,he2,rfl⟩:=n9 (by simp;omega) (by simp;omega) he
       have hr:=ih el ms hz D aaN _ _ va vb e1 hVa hVb he1
       have hrest:=ihm (off+1) aaN e2 he2
       have hl:(List.range (m+1)).map (· +off)=off::(List.range m).map (· +(off+1)):=by
        rw[List.range_succ_eq_map];simp;intro q _;omega
       rw[hl];simp only[Op.eqItems,Sem.run_bind,hva,hvb,Result.andThen_ok,hr];cases e1
       ·simp
       ·simpa using hrest
     have:=hitems k 0 aaN e (by simpa using he)
     simpa using this
    ·cases h
   ·cases h
  ·cases h
end
end Go.Eng
