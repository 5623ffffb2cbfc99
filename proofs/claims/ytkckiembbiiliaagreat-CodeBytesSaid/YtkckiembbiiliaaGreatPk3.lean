/- The engine and the library,part 3 of 21: what the proofs of this seat need of them. -/
import Derived.Test.YtkckiembbiiliaaGreatPk2
set_option linter.unnecessarySimpa false
set_option linter.unusedSimpArgs false
set_option linter.unusedVariables false
set_option linter.defProp false
set_option maxRecDepth 10000
set_option maxHeartbeats 4000000
namespace Go.Eng
open Go
open Go.RowKit (Below)
section
variable{P:Program} {nt:Nat} {n0:gO} {w0:World} {π0:Nat->Nat->Prop} {U:Nat->Prop} {s:S} {a:Act} {w:World} {β:Nat->Nat} {τ:Nat->Value} {π:Nat->Nat->Prop}
theorem Rel.CS(R:Rel P nt n0 w0 π0 U s a w β τ π) (z:Nat):∀(Xs:List (Nat×Operand)) (xs:List bE) (rows:List (List AV)) (k:Nat) (pre tail:List AV) (us:Array Value),
  Xs.map (·.1)=(List.range Xs.length).map (· +k)->Xs.mapM (fun p=>cn p.2)=some xs->lV s z xs=some rows->jr w π (pre++tail) us.toList->(∀c∈pre++tail,c.scalar=true)->pre.length=k*z->tail.length=Xs.length*z->
  ∃us',Instr.fill (fun i=>some (i*z,z)) us (Xs.map fun p=>(p.1,a.eval p.2))=some us'/\jr w π (pre++rows.flatten) us'.toList/\(∀c∈pre++rows.flatten,c.scalar=true)/\rows.length=Xs.length/\∀r∈rows,r.length=z
 |[],xs,rows,k,pre,tail,us,h1,h2,h3,hd,hs,hp,ht=>by
  simp at h2;subst h2;simp[lV]at h3;subst h3
  have:tail=[]:=List.eq_nil_of_length_eq_zero (by simpa using ht)
  subst this
  exact⟨us,rfl,by simpa using hd,by simpa using hs,rfl,by simp⟩
 |(i,X)::Xs,xs,rows,k,pre,tail,us,h1,h2,h3,hd,hs,hp,ht=>by
  simp only[List.mapM_cons,Option.bind_eq_bind,Option.bind_eq_some_iff,Option.pure_def,Option.some.injEq]at h2;obtain⟨x,hx,xs',hxs,rfl⟩:=h2;simp only[lV]at h3;split at h3
  ·rename_i av rows' hav hrows
   split at h3
   ·rename_i hz
    obtain⟨hz,hok⟩:=hz;cases h3
    have hi:i=k:=by
     have:=congrArg (fun l=>l[0]?) h1
     simpa using this
    subst hi
    have h1':Xs.map (·.1)=(List.range Xs.length).map (· +(i+1)):=by
     have h1t:=congrArg List.tail h1
     simp only[List.map_cons,List.tail_cons,List.length_cons,List.range_succ_eq_map,List.map_map]at h1t;rw[h1t]
     apply List.map_congr_left
     intro q _;simp;omega
    have hdv:=R.aQ hx hav
    obtain⟨hcs,hsc⟩:=hdv.cells (fun vs e=>by subst e;simp[jq]at hok)
    have hsz:(a.eval X).cells.size=z:=by have:=hcs.1;simp at this;omega
    have husz:us.size=pre.length+tail.length:=by have:=hd.1;simp at this;omega
    have htl:tail.length=Xs.length*z+z:=by rw[ht];simp[Nat.add_mul]
    obtain⟨us1,he,hl1,hs1⟩:=rW (place:=fun i=>some (i*z,z)) (cells:=us) (i:=i) (off:=i*z) (v:=a.eval X) (rest:=Xs.map fun p=>(p.1,a.eval p.2)) (by rw[hsz]) (by omega)
    have hsp:=hd.splice hcs (off:=i*z) (by simp;omega)
    have heq:(pre++tail).take (i*z)++av.cells++(pre++tail).drop (i*z+av.cells.length)=(pre++av.cells)++tail.drop z:=by
     rw[<-hp,List.take_left,hz,List.drop_append,List.drop_eq_nil_of_le (by omega)]
     simp
    rw[heq]at hsp
    have hsall:∀c∈(pre++av.cells)++tail.drop z,c.scalar=true:=by
     intro c hc;simp only[List.mem_append]at hc
     rcases hc with(hc|hc)|hc
     ·exact hs c (by simp[hc])
     ·exact hsc c hc
     ·exact hs c (by simp[List.mem_of_mem_drop hc])
    obtain⟨us',hf,hd',hs',hlen,hrl⟩:=R.CS z Xs xs' rows' (i+1) (pre++av.cells) (tail.drop z) us1 h1' hxs hrows (by rw[hl1];exact hsp) hsall (by simp[hp,hz,Nat.add_mul]) (by simp;omega)
    refine⟨us',by rw[List.map_cons,he];exact hf,by simpa[List.append_assoc]using hd',by simpa[List.append_assoc]using hs',by simp[hlen],?_⟩
    intro r hr
    rcases List.mem_cons.1 hr with rfl|hr
    ·exact hz
    ·exact hrl r hr
   ·cases h3
  ·cases h3
theorem Rel.buildSlice(R:Rel P nt n0 w0 π0 U s a w β τ π) {t e:TypeId} {n z:Nat} {Xs:Array (Nat×Operand)} {zs:List AV} {xs:List bE} (ht:P.underlying t=some (.slice e)) (hzv:zeroOf P e=some zs) (hz:fq P e=some z)
  (hxs:Xs.toList.mapM (fun p=>cn p.2)=some xs) (hok:(n*z<=16777216&&0<z&&zs.length==z&&Xs.toList.map (·.1)==List.range n)=true) {id:Nat} (hid:¬U id) {K:SV->S->Prop} (h:bN (Pure P) id (.f9 e z xs) K s):
  ∃v y s' w' τ' π',(Instr.buildSlice t n (Xs.map fun(i,x)=>(i,a.eval x))).run P w=.ok y w'/\RV β τ' w' π' v y/\v.gp (eE U id)/\K v s'/\Rel P nt n0 w0 π0 (eE U id) s' a w' β τ' π':=by
 simp only[bN]at h;obtain⟨rows,hrows,hK⟩:=af h;simp only[Bool.and_eq_true,decide_eq_true_eq,beq_iff_eq]at hok;obtain⟨⟨⟨hn,hz0⟩,hzl⟩,hidx⟩:=hok
 obtain⟨zv,hzr,hzd,hzsc⟩:=qE (P:=P) (w:=w) (π:=π) hzv
 have hXl:Xs.toList.length=n:=by have:=congrArg List.length hidx;simpa using this
 have hzsz:zv.cells.size=z:=by have:=hzd.1;simp at this;omega
 -- the row of zeros that is filled
 have hinit:jr w π ([]++(List.range (n*z)).map fun i=>zs.getD (i%z) default) ((Array.range (n*z)).map (zv.cells[· %zv.cells.size]!)).toList:=by
  refine⟨by simp,fun i c u hc hu=>?_⟩
  simp only[List.nil_append,List.getElem?_map,Array.toList_map,Array.toList_range]at hc hu
  by_cases hi:i<n*z
  ·have hm:i%z<z:=Nat.mod_lt _ hz0
   rw[List.getElem?_range hi]at hc hu;simp only[Option.map_some,Option.some.injEq]at hc hu;subst hc;subst hu
   have h1:zs[i%z]? =some (zs.getD (i%z) default):=by
    rw[List.getD_eq_getElem?_getD,List.getElem?_eq_getElem (by omega)];simp
   have h2:zv.cells.toList[i%z]? =some (zv.cells[i%zv.cells.size]!):=by
    rw[hzsz]
    have:i%z<zv.cells.size:=by omega
    simp[this]
   exact hzd.2 _ _ _ h1 h2
  ·rw[List.getElem?_eq_none (by simp;omega)]at hc
   simp at hc
 have hinits:∀c∈([]:List AV)++(List.range (n*z)).map fun i=>zs.getD (i%z) default,c.scalar=true:=by
  intro c hc;simp only[List.nil_append,List.mem_map,List.mem_range]at hc;obtain⟨i,hi,rfl⟩:=hc
  have hm:i%z<zs.length:=by rw[hzl];exact Nat.mod_lt _ hz0
  rw[List.getD_eq_getElem?_getD,List.getElem?_eq_getElem hm];exact hzsc _ (List.getElem_mem hm)
 obtain⟨us',hf,hd,hs,hlen,hrl⟩:=R.CS z Xs.toList xs rows 0 [] _ _ (by rw[hidx,hXl];simp) hxs hrows hinit hinits (by simp) (by simp[hXl])
 simp only[List.nil_append]at hd hs
 have hrn:rows.length=n:=by rw[hlen,hXl]
 have husz:us'.size=n*z:=by have:=hd.1;rw[ju hrl,hrn]at this;simpa using this.symm
 obtain⟨R',hdv⟩:=R.newRow (xs:=rows) (z:=z) (cap:=n) (cs:=us') e hrl (by omega) (by rw[hrn];omega) (fun i x v hx hv=>hd.2 i x v hx (by simpa using hv)) (fun r hr x hx=>hs x (List.mem_flatten.2 ⟨r,hr,hx⟩))
 obtain⟨i,hi,hisz⟩:∃i,P.info? e=some i/\i.size=z:=by
  simp only[fq,Option.map_eq_some_iff]at hz;obtain⟨i,hi,hiz⟩:=hz;exact⟨i,hi,hiz⟩
 have hsz0:n0.n<=w.heap.size:=Nat.le_trans R.fu R.below.size
 have R2:=R'.qG (v:=.slice (some ⟨w.heap.size,0,none⟩) rows.length n) hid (by
   refine .inr ⟨w.heap.size,rows.length,n,us',i,rfl,.inl hsz0,heap_alloc_new w _,by omega,?_,hi,by rw[hisz];exact husz,fun o ho hc=>?_⟩
   ·have:=Nat.le_mul_of_pos_right n hz0
    simp only[maxLen];omega
   ·rw[hisz]at ho
    rcases hc with h|⟨_,h⟩
    ·have:=R.ej _ _ h;omega
    ·omega)
  (fun q e' B hq hB hB'=>by
   have h1:=((R.live q e' hq).2.block hB).2
   simp[js]at hB'
   omega)
  (fun b x hb hB'=>by
   obtain⟨_,_,⟨cur,el,hh,_⟩,_⟩:=R.boxes b x hb
   have:=nH hh
   simp[js]at hB'
   omega)
 refine⟨.dat (.sl rows) (some id),_,_,_,_,_,?_,⟨hdv,fun t ht=>by cases ht;rw[cj]⟩,.inr rfl,hK,R2⟩
 have hlim:¬(n*z>16777216):=by omega
 have htl:(Xs.map fun(i,x)=>(i,a.eval x)).toList=Xs.toList.map fun p=>(p.1,a.eval p.2):=by simp
 by_cases hnz:n*z=0
 ·have hn0:n=0:=by
   rcases Nat.mul_eq_zero.1 hnz with h|h
   ·exact h
   ·omega
  subst hn0
  have hX:Xs.toList=[]:=List.eq_nil_of_length_eq_zero hXl
  have hus:us'=#[]:=by
   apply Array.eq_empty_of_size_eq_zero
   rw[husz];simp
  have hX':Xs=#[]:=by cases Xs;simp at hX;subst hX;rfl
  subst hX' hus
  simp[Instr.buildSlice,run_underlying ht,dN (w:=w) hz,Instr.fill,Go.newRow,hrn]
  congr 2
  exact Array.eq_empty_of_size_eq_zero (by simp)
 ·simp only[Instr.buildSlice,Sem.run_bind,run_underlying ht,Result.andThen_ok,dN (w:=w) hz]
  rw[if_neg (by simpa using hlim)]
  simp only[hnz,if_false,Sem.run_bind,Sem.run_pure,Result.andThen_ok,hzr,htl,hf,Go.newRow,run_newObj,hrn];rfl
theorem DV.news{ys:List (List AV)} {B off m c:Nat} {z:Nat} (h:DV w π (.sl ys) (.slice (some ⟨B,off,none⟩) m c)) (hz:∀r∈ys,r.length=z):
  m=ys.length/\∃news:List Value,news.length=m*z/\(∀j u,news[j]? =some u->w.cell? ((⟨B,off,none⟩:Addr).add j)=some u)/\(∀u∈news,u.oneCell'=true)/\jr w π ys.flatten news/\∀r∈ys,∀x∈r,x.scalar=true:=by
 cases h with
 |HA _=>exact⟨rfl,[],by simp,by simp,by simp,⟨rfl,by simp⟩,by simp⟩
 |sl _ _ _ cap z' f h1 h2 h3 h4 h5 h6=>
  refine⟨rfl,?_⟩
  have hfl:=ju hz
  -- every place of the row is some element's
  have hat:∀q,q<ys.length*z->∃(i j:Nat) (r:List AV) (x:AV),ys[i]? =some r/\r[j]? =some x/\q=i*z+j/\ys.flatten[q]? =some x/\z'=z:=by
   intro q hq
   have hz0:0<z:=by
    rcases Nat.eq_zero_or_pos z with e|e
    ·subst e;simp at hq
    ·exact e
   have hi:q/z<ys.length:=by rw[Nat.div_lt_iff_lt_mul hz0];exact hq
   have hr:=List.getElem?_eq_getElem hi
   have hrl:=hz _ (List.getElem_mem hi)
   have hj:q%z<(ys[q/z]).length:=by rw[hrl];exact Nat.mod_lt _ hz0
   have hx:=List.getElem?_eq_getElem hj
   have hq':q/z*z+q%z=q:=by rw[Nat.mul_comm];exact Nat.div_add_mod q z
   refine⟨q/z,q%z,_,_,hr,hx,hq'.symm,?_,by rw[<-h2 _ _ hr,hrl]⟩
   have:=lf hz hr hx
   rwa[hq']at this
  refine⟨(List.range (ys.length*z)).map fun q=>f (q/z) (q%z),by simp,?_,?_,⟨by simp[hfl],?_⟩,fun r hr x hx=>?_⟩
  ·intro q u hu
   have hq:q<ys.length*z:=by
    rcases Nat.lt_or_ge q (ys.length*z)with h'|h'
    ·exact h'
    ·rw[List.getElem?_eq_none (by simp;omega)]at hu;cases hu
   obtain⟨i,j,r,x,hr,hx,he,_,hzz⟩:=hat q hq;subst hzz
   have hz0:0<z':=by
    rcases Nat.eq_zero_or_pos z' with e|e
    ·subst e;simp at hq
    ·exact e
   have hjz:j<z':=by
    rw[<-h2 _ _ hr]
    rcases Nat.lt_or_ge j r.length with h'|h'
    ·exact h'
    ·rw[List.getElem?_eq_none h']at hx;cases hx
   have hdv:q/z'=i:=by rw[he,Nat.mul_comm,Nat.mul_add_div hz0,Nat.div_eq_of_lt hjz,Nat.add_zero]
   have hmd:q%z'=j:=by rw[he,Nat.mul_comm,Nat.mul_add_mod,Nat.mod_eq_of_lt hjz]
   simp only[List.getElem?_map,List.getElem?_range hq,Option.map_some,Option.some.injEq]at hu;subst hu;rw[iA,hdv,hmd,he,<-Nat.add_assoc];exact h5 i j r x hr hx
  ·intro u hu
   simp only[List.mem_map,List.mem_range]at hu;obtain⟨q,hq,rfl⟩:=hu;obtain⟨i,j,r,x,hr,hx,he,_,hzz⟩:=hat q hq;subst hzz
   have hz0:0<z':=by
    rcases Nat.eq_zero_or_pos z' with e|e
    ·subst e;simp at hq
    ·exact e
   have hjz:j<z':=by
    rw[<-h2 _ _ hr]
    rcases Nat.lt_or_ge j r.length with h'|h'
    ·exact h'
    ·rw[List.getElem?_eq_none h']at hx;cases hx
   have hdv:q/z'=i:=by rw[he,Nat.mul_comm,Nat.mul_add_div hz0,Nat.div_eq_of_lt hjz,Nat.add_zero]
   have hmd:q%z'=j:=by rw[he,Nat.mul_comm,Nat.mul_add_mod,Nat.mod_eq_of_lt hjz]
   rw[hdv,hmd];exact(h6 i j r x hr hx).Fj (h3 i j r x hr hx)
  ·intro q x u hx hu
   have hq:q<ys.length*z:=by
    rcases Nat.lt_or_ge q (ys.length*z)with h'|h'
    ·exact h'
    ·rw[List.getElem?_eq_none (by rw[hfl];omega)]at hx;cases hx
   obtain⟨i,j,r,x',hr,hx',he,hfx,hzz⟩:=hat q hq;subst hzz
   have hxx:x=x':=by rw[hx]at hfx;exact Option.some.inj hfx
   subst hxx
   have hz0:0<z':=by
    rcases Nat.eq_zero_or_pos z' with e|e
    ·subst e;simp at hq
    ·exact e
   have hjz:j<z':=by
    rw[<-h2 _ _ hr]
    rcases Nat.lt_or_ge j r.length with h'|h'
    ·exact h'
    ·rw[List.getElem?_eq_none h']at hx';cases hx'
   have hdv:q/z'=i:=by rw[he,Nat.mul_comm,Nat.mul_add_div hz0,Nat.div_eq_of_lt hjz,Nat.add_zero]
   have hmd:q%z'=j:=by rw[he,Nat.mul_comm,Nat.mul_add_mod,Nat.mod_eq_of_lt hjz]
   simp only[List.getElem?_map,List.getElem?_range hq,Option.map_some,Option.some.injEq]at hu;subst hu;rw[hdv,hmd];exact h6 i j r x hr hx'
  ·obtain⟨i,hi⟩:=List.mem_iff_getElem?.1 hr
   obtain⟨j,hj⟩:=List.mem_iff_getElem?.1 hx
   exact h3 i j r x hi hj
theorem Rel.kJ(R:Rel P nt n0 w0 π0 U s a w β τ π) {b:Nat} {x:bY} (h:ct b s.boxes=some x):β b<w.heap.size:=by
 obtain⟨_,_,⟨cur,el,hh,_⟩,_⟩:=R.boxes b x h;exact nH hh
theorem Rel.grown(R:Rel P nt n0 w0 π0 U s a w β τ π) {id e z old:Nat} {i:TypeInfo} {zv:Value} (hi:P.info? e=some i) (hz:i.zero=some zv) (hsz:i.size=z) (hzs:zv.cells.size=z) (hz0:0<z) (hid:¬U id) {zs:List (List AV)} {vs:List Value} (hlv:vs.length=zs.length*z) (hd:jr w π zs.flatten vs) (hrow:∀r∈zs,r.length=z) (hsc:∀r∈zs,∀x∈r,x.scalar=true)
  (h63:zs.length<=maxLen) {cs:Array Value} (hcs:cs=vs.toArray++Builtin.zeroCells zv.cells (grownCap w zs.length old e-zs.length)):
  ∃π',Rel P nt n0 w0 π0 (eE U id) {s with live:=(id,e)::s.live} a (w.drew.alloc (.cells cs e)) β (Ai τ id (.slice (some ⟨w.heap.size,0,none⟩) zs.length (grownCap w zs.length old e))) π'/\
   DV (w.drew.alloc (.cells cs e)) π' (.sl zs) (.slice (some ⟨w.heap.size,0,none⟩) zs.length (grownCap w zs.length old e)):=by
 have hge:=grownCap_ge w zs.length old e
 have hcm:grownCap w zs.length old e<=maxLen:=grownCap_le_maxLen w zs.length old e h63
 have hsize:cs.size=grownCap w zs.length old e*z:=by
  rw[hcs];simp only[Array.size_append,List.size_toArray,size_zeroCells,hzs,hlv,<-Nat.add_mul]
  congr 1;omega
 have hsz0:n0.n<=w.heap.size:=Nat.le_trans R.fu R.below.size
 obtain⟨R',hdv⟩:=R.draw.newRow (xs:=zs) (z:=z) (cap:=grownCap w zs.length old e) (cs:=cs) e hrow hge (by rw[hsize];exact Nat.mul_le_mul_right _ hge)
  (fun q x v hx hv=>by
   have hq:q<vs.length:=by
    rw[hlv,<-ju hrow]
    rcases Nat.lt_or_ge q zs.flatten.length with h'|h'
    ·exact h'
    ·rw[List.getElem?_eq_none h']at hx;cases hx
   rw[hcs,Array.getElem?_append_left (by simpa using hq)]at hv
   exact DV.mono (w:=w) (w':=w.drew) (π:=π) (fun _ _ h=>h) (fun _ _ _=>rfl) (hd.2 q x v hx (by simpa using hv))) hsc
 refine⟨_,R'.qG hid ?_ ?_ ?_,hdv⟩
 ·refine .inr ⟨w.heap.size,zs.length,grownCap w zs.length old e,cs,i,rfl,.inl hsz0,heap_alloc_new w.drew _,hge,hcm,hi,by rw[hsz];exact hsize,fun o ho hc=>?_⟩
  rw[hsz]at ho
  rcases hc with h|⟨_,h⟩
  ·have:=R.ej _ _ h;omega
  ·omega
 ·intro q e' B hq hB hB'
  have h1:=((R.live q e' hq).2.block hB).2
  simp[js]at hB';omega
 ·intro b x hb hB'
  have:=R.kJ hb
  simp[js]at hB';omega
theorem Rel.append(R:Rel P nt n0 w0 π0 U s a w β τ π) {t e:TypeId} {i:TypeInfo} {zv:Value} {X Y:Operand} {x y:bE} (ht:P.underlying t=some (.slice e)) (hi:P.info? e=some i) (hz:i.zero=some zv) (hsz:(0<i.size&&zv.cells.size==i.size&&0<i.bytes)=true)
  (hx:cn X=some x) (hy:cn Y=some y) {id:Nat} (hid:¬U id) (ty:TypeId) {K:SV->S->Prop} (h:bN (Pure P) id (.app e i.size i.bytes x y) K s):
  ∃v u s' w' τ' π',(Builtin.append_ #[t,t] ty #[a.eval X,a.eval Y]).run P w=.ok u w'/\RV β τ' w' π' v u/\v.gp (eE U id)/\K v s'/\Rel P nt n0 w0 π0 (eE U id) s' a w' β τ' π':=by
 simp only[Bool.and_eq_true,decide_eq_true_eq,beq_iff_eq]at hsz;obtain⟨⟨hz0,hzs⟩,hb0⟩:=hsz;simp only[bN]at h;obtain⟨p,hp,k1⟩:=af h;obtain⟨hr,hU⟩:=R.bM hx hp
 cases p with
 |ptr _ _=>exact k1.elim
 |rp _=>exact k1.elim
 |undef=>exact k1.elim
 |vs _ _ _ _=>exact k1.elim
 |nD _ _ _=>exact k1.elim
 |raw _ _=>exact k1.elim
 |pt _ _=>exact k1.elim
 |dat av q=>
  obtain⟨xs,hxs,k2⟩:=af k1;obtain⟨b,hb,k3⟩:=af k2;obtain⟨ys,hys,hbytes,hrx,hry,k4⟩:=af k3;obtain⟨hdx,htag⟩:=hr
  have hdy:=R.aQ hy hb
  have hsub:∀n,U n->eE U id n:=fun n h=>.inl h
  -- what is appended: nil,or a slice whose cells are known
  have hnews:(a.eval Y=.slice none 0 0/\ys=[])\/∃(A:Addr) (m c:Nat),a.eval Y=.slice (some A) m c/\m=ys.length/\∃news:List Value,news.length=m*i.size/\(∀j u,news[j]? =some u->w.cell? (A.add j)=some u)/\(∀u∈news,u.oneCell'=true)/\jr w π ys.flatten news/\∀r∈ys,∀x∈r,x.scalar=true:=by
   cases b<;>simp only[rowsOf]at hys<;>try(cases hys;done)
   ·cases hys
    generalize a.eval Y=v at hdy;cases hdy;exact .inl ⟨rfl,rfl⟩
   ·cases hys
    generalize a.eval Y=v at hdy
    cases hdy with
    |HA A=>exact .inr ⟨A,0,0,rfl,rfl,[],by simp,by simp,by simp,⟨rfl,by simp⟩,by simp⟩
    |sl _ B off cap z f h1 h2 h3 h4 h5 h6=>
     obtain⟨hm,hn⟩:=DV.news (.sl ys B off cap z f h1 h2 h3 h4 h5 h6) hry
     exact .inr ⟨⟨B,off,none⟩,_,cap,rfl,rfl,hn⟩
  have h63':(xs.length+ys.length)<=maxLen:=by
   have:=Nat.le_mul_of_pos_right (xs.length+ys.length) hb0
   simp only[maxLen];omega
  cases av<;>simp only[rowsOf]at hxs<;>try(cases hxs;done)
  case bL=>
   cases hxs
   have hvx:a.eval X=.slice none 0 0:=by generalize a.eval X=v at hdx;cases hdx;rfl
   by_cases hy0:ys=[]
   ·subst hy0
    simp only[if_true]at k4
    refine⟨.dat .bL none,.slice none 0 0,s,w,τ,π,?_,⟨.bL,fun t ht=>by cases ht⟩,trivial,k4,R.sub hsub⟩
    rcases hnews with⟨hyv,_⟩|⟨A,m,c,hyv,hm,news,hl,_⟩
    ·rw[hvx,hyv]
     simp[Builtin.append_,run_underlying ht,sizeOf,typeInfo,hi,Builtin.lenOf,Builtin.firstCells]
    ·simp at hm;subst hm
     rw[hvx,hyv];simp[Builtin.append_,run_underlying ht,sizeOf,typeInfo,hi,Builtin.lenOf,Builtin.firstCells,loadCells,loadCellsFrom]
   ·simp only[hy0,if_false,List.nil_append]at k4
    rcases hnews with⟨_,hy0'⟩|⟨A,m,c,hyv,rfl,news,hl,hcell,hone,hdn,hscn⟩
    ·exact absurd hy0' hy0
    ·have hpos:0<ys.length:=List.length_pos_iff.2 hy0
     simp only[List.length_nil,Nat.zero_add]at hbytes h63'
     have hrun:=run_append_nil (P:=P) w t ty e i zv ht hi hz A ys.length c news hl hcell hpos (by simp only[maxLen]at h63';omega) (by omega)
     obtain⟨π',R',hdv⟩:=R.grown (old:=0) hi hz rfl hzs hz0 hid hl hdn hry hscn h63' rfl
     exact⟨.dat (.sl ys) (some id),_,_,_,_,_,by rw[hvx,hyv];exact hrun,⟨hdv,fun t ht=>by cases ht;rw[cj]⟩,.inr rfl,k4,R'⟩
  case sl l=>
   cases hxs
   cases q with
   |none=>exact k4.elim
   |some q=>
    obtain⟨hlive,hK⟩:=k4
    have hτ:a.eval X=τ q:=htag q rfl
    obtain⟨hUq,htok⟩:=R.live q e hlive;generalize hvx:a.eval X=v at hdx hτ
    rcases htok with hnil|⟨B,len,cap,cur,i',hsl,hB0,hh,hlc,hcm,hi',hcur,hfree⟩
    ·rw[<-hτ]at hnil
     subst hnil;cases hdx
    ·rw[<-hτ]at hsl
     have hii:i'=i:=by rw[hi]at hi';exact(Option.some.inj hi').symm
     subst hii;subst hsl
     have hown:js (τ q)=some B:=by rw[<-hτ];rfl
     have hlen:len=xs.length:=by cases hdx<;>rfl
     subst hlen;obtain⟨_,olds,hol,holds,holdone,hdo,hsco⟩:=DV.news hdx hrx
     have hcell0:∀(j:Nat) (u:Value),olds[j]? =some u->cur[j]? =some u:=by
      intro j u hu
      have:=holds j u hu
      rw[iA,Nat.zero_add,cell_of_row w B j cur e (0,0) hh]at this;exact this
     have hrows:∀r∈xs++ys,r.length=i'.size:=fun r hr=>by
      rcases List.mem_append.1 hr with hr|hr
      ·exact hrx r hr
      ·exact hry r hr
     have hol':olds.length=xs.length*i'.size:=hol
     -- what is appended,whatever it is,as a list of values
     have hsplit:xs.flatten++ys.flatten=(xs++ys).flatten:=by simp
     have hcurle:xs.length*i'.size<=cur.size:=by rw[hcur];exact Nat.mul_le_mul_right _ hlc
     have hneB:∀q' e',eK q' (mj q s.live)=some e'->js (τ q')≠some B:=by
      intro q' e' hq' hB';obtain⟨h1,h2⟩:=j6 hq';exact h2 (R.bS q' q e' e B h1 hlive hB' hown)
     have hbox:∀b x,ct b s.boxes=some x->β b≠B:=fun b x hb e'=>R.cK q e b x hlive hb (by rw[hown,e'])
     by_cases hroom:xs.length+ys.length<=cap
     ·--in place
      have key:∃(news:List Value),news.length=ys.length*i'.size/\jr w π ys.flatten news/\(∀r∈ys,∀x∈r,x.scalar=true)/\
        (Builtin.append_ #[t,t] ty #[.slice (some ⟨B,0,none⟩) xs.length cap,a.eval Y]).run P w=.ok (.slice (some ⟨B,0,none⟩) (xs.length+ys.length) cap) (w.setRow B (cur.toList.take (xs.length*i'.size)++news++cur.toList.drop (xs.length*i'.size+news.length)).toArray):=by
       rcases hnews with⟨hyv,rfl⟩|⟨A,m,c,hyv,rfl,news,hl,hcell,hone,hdn,hscn⟩
       ·refine⟨[],by simp,⟨rfl,fun i a v h=>by simp at h⟩,by simp,?_⟩
        rw[hyv]
        have hself:w.setRow B (cur.toList.take (xs.length*i'.size)++[]++cur.toList.drop (xs.length*i'.size+([]:List Value).length)).toArray=w:=by
         have:=setRow_self w B cur e (0,0) hh
         simpa using this
        rw[hself];simp at hroom;simp[Builtin.append_,run_underlying ht,sizeOf,typeInfo,hi,Builtin.lenOf,Builtin.firstCells,hroom,storeCells]
       ·refine⟨news,hl,hdn,hscn,?_⟩
        rw[hyv]
        exact run_append_room (P:=P) w t ty e i' ht hi B xs.length cap cur hh A ys.length c news hl hcell hone hroom (by rw[hl,hcur,<-Nat.add_mul];exact Nat.mul_le_mul_right _ hroom)
      obtain⟨news,hl,hdn,hscn,hrun⟩:=key
      have hfit:xs.length*i'.size+news.length<=cur.size:=by rw[hl,hcur,<-Nat.add_mul];exact Nat.mul_le_mul_right _ hroom
      have hget:=iB cur.toList news (xs.length*i'.size) (by simpa using hfit)
      generalize hcur':(cur.toList.take (xs.length*i'.size)++news++cur.toList.drop (xs.length*i'.size+news.length)).toArray=cur' at hrun
      have hget':∀o,cur'[o]? =if o<xs.length*i'.size then cur[o]? else if o<xs.length*i'.size+news.length then news[o-xs.length*i'.size]? else cur[o]?:=by
       intro o;rw[<-hcur',List.getElem?_toArray,hget];simp
      have R1:=(R.Ek q).CR (m:=(xs.length+ys.length)*i'.size) (cur':=cur') hB0 hh (fun o ho=>by
       rw[hget' o,if_pos]
       rcases Nat.lt_or_ge o (xs.length*i'.size)with h'|h'
       ·exact h'
       ·exact absurd ho (hfree o h')) hneB hbox
      have hh':(w.setRow B cur').heap[B]? =some (.cells cur' e (0,0)):=setRow_heap w _ cur _ e _ hh
      have hcsz:cur'.size=cur.size:=by
       rw[<-hcur'];simp;omega
      have hlive':∀q' e' C,eK q' (mj q s.live)=some e'->js (τ q')=some C->js (Value.slice (some ⟨B,0,none⟩) (xs.length+ys.length) cap)≠some C:=by
       intro q' e' C hq' hC hB';simp[js]at hB'
       exact hneB q' e' hq' (by rw[hC,hB'])
      have R2:=R1.qG (id:=id) (e:=e) (v:=.slice (some ⟨B,0,none⟩) (xs.length+ys.length) cap) hid
       (.inr ⟨B,xs.length+ys.length,cap,cur',i',rfl,hB0,hh',hroom,hcm,hi,by rw[hcsz,hcur],fun o ho hc=>by
        rcases hc with h|⟨_,h⟩
        ·exact hfree o (by rw[Nat.add_mul]at ho;omega) h
        ·omega⟩) hlive' (fun b x hb hB'=>hbox b x hb (by simpa[js]using hB'.symm))
      refine⟨.dat (.sl (xs++ys)) (some id),_,_,_,_,_,hrun,⟨?_,fun t ht=>by cases ht;rw[cj]⟩,.inr rfl,hK,R2⟩
      -- the longer slice reads as the longer list
      have hmono:∀{x:AV} {v:Value},DV w π x v->DV (w.setRow B cur') (grow π B ((xs.length+ys.length)*i'.size)) x v:=fun h=>h.mono (fun _ _ h=>.inl h) (fun b o h=>by
       by_cases e':b=B
       ·subst e'
        rw[cell_of_row _ _ _ cur' e (0,0) hh',cell_of_row _ _ _ cur e (0,0) hh,hget' o,if_pos]
        rcases Nat.lt_or_ge o (xs.length*i'.size)with h'|h'
        ·exact h'
        ·exact absurd h (hfree o h')
       ·exact cell_setRow_other w _ cur' ⟨b,o,none⟩ e')
      have hall:∀(j:Nat) (x:AV),(xs++ys).flatten[j]? =some x->∃v,cur'[j]? =some v/\DV w π x v:=by
       intro j x hx;rw[<-hsplit]at hx;rw[hget' j]
       by_cases hj:j<xs.length*i'.size
       ·rw[if_pos hj]
        rw[List.getElem?_append_left (by rw[ju hrx];exact hj)]at hx
        obtain⟨v,hv,hd⟩:=hdo.get hx;exact⟨v,hcell0 j v hv,hd⟩
       ·rw[if_neg hj]
        rw[List.getElem?_append_right (by rw[ju hrx];omega),ju hrx]at hx
        obtain⟨v,hv,hd⟩:=hdn.get hx
        have:j-xs.length*i'.size<news.length:=by
         rcases Nat.lt_or_ge (j-xs.length*i'.size) news.length with h'|h'
         ·exact h'
         ·rw[List.getElem?_eq_none h']at hv;cases hv
        rw[if_pos (by omega)]
        exact⟨v,hv,hd⟩
      have hxyl:xs.length+ys.length=(xs++ys).length:=by simp
      rw[hxyl]
      refine .sl (xs++ys) B 0 cap i'.size (fun i j=>cur'.getD (i*i'.size+j) undef) (by simpa using hroom) (fun i r hr=>hrows r (List.mem_of_getElem? hr)) (fun i j r x hr hx=>?_) (fun i j r x hr hx=>?_) (fun i j r x hr hx=>?_) (fun i j r x hr hx=>?_)
      ·rcases List.mem_append.1 (List.mem_of_getElem? hr)with hr'|hr'
       ·exact hsco r hr' x (List.mem_of_getElem? hx)
       ·exact hscn r hr' x (List.mem_of_getElem? hx)
      ·refine .inr ⟨rfl,?_⟩
       have hf:=lf hrows hr hx
       rcases Nat.lt_or_ge (i*i'.size+j) ((xs++ys).length*i'.size)with h'|h'
       ·omega
       ·rw[List.getElem?_eq_none (by rw[ju hrows];exact h')]at hf;cases hf
      ·obtain⟨v,hv,hd⟩:=hall _ x (lf hrows hr hx)
       rw[Nat.zero_add,cell_of_row _ _ _ cur' e (0,0) hh',hv];simp[hv]
      ·obtain⟨v,hv,hd⟩:=hall _ x (lf hrows hr hx)
       simp only[Array.getD_eq_getD_getElem?,hv,Option.getD_some]
       have hmd:=hmono hd
       rw[hxyl]at hmd;exact hmd
     ·--a new row
      rcases hnews with⟨hyv,rfl⟩|⟨A,m,c,hyv,rfl,news,hl,hcell,hone,hdn,hscn⟩
      ·simp at hroom;omega
      ·have hrun:=run_append_grow (P:=P) w t ty e i' zv ht hi hz ⟨B,0,none⟩ xs.length cap olds hol holds A ys.length c news hl hcell (by omega) (by simp only[maxLen]at h63';omega) (growslice_fits (by omega) hbytes)
       have hxyl:xs.length+ys.length=(xs++ys).length:=by simp
       have hlv:(olds++news).length=(xs++ys).length*i'.size:=by simp[hol,hl,Nat.add_mul]
       have hdv:jr w π (xs++ys).flatten (olds++news):=by rw[<-hsplit];exact hdo.append hdn
       have hscxy:∀r∈xs++ys,∀x∈r,x.scalar=true:=fun r hr=>by
        rcases List.mem_append.1 hr with hr|hr
        ·exact hsco r hr
        ·exact hscn r hr
       obtain⟨π',R',hd'⟩:=(R.Ek q).grown (old:=cap) hi hz rfl hzs hz0 hid hlv hdv hrows hscxy (by rw[<-hxyl];exact h63') rfl
       rw[hyv];rw[hxyl]at hrun
       refine⟨.dat (.sl (xs++ys)) (some id),_,_,_,Ai τ id (.slice (some ⟨w.heap.size,0,none⟩) (xs++ys).length (grownCap w (xs++ys).length cap e)),π',hrun,⟨?_,fun t ht=>by cases ht;rw[cj]⟩,.inr rfl,hK,?_⟩
       ·have e1:olds.toArray++news.toArray=(olds++news).toArray:=by simp
        rw[e1];exact hd'
       ·have e1:olds.toArray++news.toArray=(olds++news).toArray:=by simp
        rw[e1];exact R'
end
open Go.RowKit (Below)
def HB(w:World) (π:Nat->Nat->Prop) (P:Program) (t:TypeId) (as:List AV) (v:Value):Prop:=
 if nC P t then∃xs:Array Value,v=.agg xs/\jr w π as xs.toList/\∀a∈as,a.scalar=true
 else∃a,as=[a]/\DV w π a v
section
variable{P:Program} {w:World} {π:Nat->Nat->Prop}
theorem mS:∀{ks ls:List CK} {as bs cs ds:List AV} {e:Bool},ks.length=as.length->as.length=bs.length->bt (ks++ls) (as++cs) (bs++ds)=some e->∃e1 e2,bt ks as bs=some e1/\bt ls cs ds=some e2/\e=(e1&&e2)
 |[],ls,[],[],cs,ds,e,_,_,h=>⟨true,e,rfl,h,rfl⟩
 |[],ls,[],b::bs,_,_,_,_,h,_=>by simp at h
 |[],ls,a::as,_,_,_,_,h,_,_=>by simp at h
 |k::ks,ls,[],_,_,_,_,h,_,_=>by simp at h
 |k::ks,ls,a::as,[],_,_,_,_,h,_=>by simp at h
 |k::ks,ls,a::as,b::bs,cs,ds,e,hk,hl,h=>by
  simp only[List.cons_append,bt]at h;split at h
  ·rename_i x y hx hy
   cases h
   obtain⟨e1,e2,h1,h2,h3⟩:=mS (by simpa using hk) (by simpa using hl) hy
   exact⟨x&&e1,e2,by simp[bt,hx,h1],h2,by rw[h3,Bool.and_assoc]⟩
  ·cases h
theorem uM{t:TypeId} {z:Nat} (hz:fq P t=some z) {d:TypeDesc} (hu:P.underlying t=some d) (hone:nC P t=false->z=1) {as:List AV} {xs:Array Value} (hd:jr w π as xs.toList) (hs:∀a∈as,a.scalar=true) {off:Nat} (hle:off+z<=as.length):
  ∃v,(part t xs off).run P w=.ok v w/\HB w π P t ((as.drop off).take z) v:=by
 have h1:=uL (P:=P) (w:=w) hu
 have h2:=dN (P:=P) (w:=w) hz
 have hl:xs.size=as.length:=by have:=hd.1;simp at this;omega
 cases hg:nC P t with
 |true=>
  refine⟨.agg (xs.extract off (off+z)),by simp[part,h1,hg,h2],?_⟩
  unfold HB;rw[if_pos hg]
  refine⟨_,rfl,⟨by simp;omega,fun i a v ha hv=>?_⟩,fun a ha=>hs a (List.mem_of_mem_drop (List.mem_of_mem_take ha))⟩
  rw[List.getElem?_take]at ha;split at ha
  ·rename_i hi
   rw[List.getElem?_drop]at ha;refine hd.2 (off+i) a v ha ?_
   have:xs.toList[off+i]? =(xs.extract off (off+z)).toList[i]?:=by
    simp only[Array.getElem?_toList,Array.getElem?_extract]
    rw[if_pos (by omega)]
   rw[this];exact hv
  ·cases ha
 |false=>
  have hz1:=hone hg
  subst hz1
  have hlt:off<xs.size:=by omega
  refine⟨xs[off],by simp[part,h1,hg,hlt],?_⟩
  unfold HB
  rw[if_neg (by simp[hg])]
  have hoff:off<as.length:=by omega
  refine⟨as[off],?_,hd.2 off _ _ (List.getElem?_eq_getElem hoff) (by simp[hlt])⟩
  rw[List.drop_eq_getElem_cons hoff];rfl
theorem uN{d t:Nat} {ks:List CK} (h:mM P d t=some ks):∃u,P.underlying t=some u/\(nC P t=false->ks.length=1):=by
 cases d with
 |zero=>simp[mM]at h
 |succ d=>
  simp only[mM]at h
  split at h<;>first|(rename_i hu;cases h;exact⟨_,hu,fun _=>rfl⟩)|skip
  ·rename_i fs hu;exact⟨_,hu,fun hg=>by simp[nC,hu]at hg⟩
  ·rename_i k e hu;exact⟨_,hu,fun hg=>by simp[nC,hu]at hg⟩
  ·cases h
theorem nI{k:CK} {a b:AV} {e:Bool} (h:bt [k] [a] [b]=some e):lO k a b=some e:=by
 simp only[bt]at h;split at h
 ·rename_i x y hx hy;cases h;cases hy;simp[hx]
 ·cases h
theorem nJ:∀{ks:List CK} {as bs:List AV} {e:Bool},bt ks as bs=some e->ks.length=as.length/\as.length=bs.length
 |[],[],[],e,h=>⟨rfl,rfl⟩
 |[],[],b::bs,_,h=>by simp[bt]at h
 |[],a::as,_,_,h=>by simp[bt]at h
 |k::ks,[],_,_,h=>by simp[bt]at h
 |k::ks,a::as,[],_,h=>by simp[bt]at h
 |k::ks,a::as,b::bs,e,h=>by
  simp only[bt]at h;split at h
  ·rename_i x y hx hy
   obtain⟨h1,h2⟩:=nJ hy;simp[h1,h2]
  ·cases h
theorem Ow:∀(d:Nat) (t:TypeId) (ks:List CK),mM P d t=some ks->∀(D:Nat),d<=D->∀(as bs:List AV) (x y:Value) (e:Bool),HB w π P t as x->HB w π P t bs y->bt ks as bs=some e->
  (Op.equalIn D t x y).run P w=.ok e w:=by
 intro d
 induction d with
 |zero=>intro t ks h;simp[mM]at h
 |succ d ih=>
  intro t ks h D hD as bs x y e hx hy he
  obtain⟨D,rfl⟩:∃D',D=D'+1:=⟨D-1,by omega⟩
  obtain⟨hla,hlb⟩:=nJ he;simp only[mM]at h
  -- the fields,one behind the other
  have hfields:∀(fs:List Field) (off:Nat) (ls:List CK),CG P (mM P d) fs off=some ls->∀(xs ys:Array Value) (e:Bool),jr w π as xs.toList->(∀a∈as,a.scalar=true)->jr w π bs ys.toList->(∀a∈bs,a.scalar=true)->bt ls (as.drop off) (bs.drop off)=some e->(Op.eqFields D xs ys fs).run P w=.ok e w:=by
   intro fs
   induction fs with
   |nil=>
    intro off ls ht xs ys e h1 h2 h3 h4 he;simp[CG]at ht;subst ht;obtain⟨k1,k2⟩:=nJ he
    have n1:as.drop off=[]:=List.eq_nil_of_length_eq_zero k1.symm
    have n2:bs.drop off=[]:=List.eq_nil_of_length_eq_zero (by rw[<-k2,<-k1];rfl)
    rw[n1,n2]at he;simp[bt]at he;subst he;rfl
   |cons f fs ihf=>
    intro off ls ht xs ys e h1 h2 h3 h4 he;simp only[CG]at ht;split at ht
    ·cases ht
    ·rename_i hname
     split at ht
     ·rename_i ms hz
      split at ht
      ·rename_i hsz
       obtain⟨hsz,hpos⟩:=hsz;simp only[Option.map_eq_some_iff]at ht;obtain⟨ls',ht,rfl⟩:=ht;obtain⟨k1,k2⟩:=nJ he;simp only[List.length_append,List.length_drop]at k1 k2;obtain⟨u,hu,hone⟩:=uN hz
       have hoff:f.offset=off:=by
        have:=not_or.1 hname
        simpa using this.2
       have hnm : f.name ≠ "_" := (not_or.1 hname).1
       have hma:off+ms.length<=as.length:=by omega
       obtain⟨va,hva,hVa⟩:=uM (P:=P) hsz hu hone h1 h2 (off:=off) (by omega)
       obtain⟨vb,hvb,hVb⟩:=uM (P:=P) hsz hu hone h3 h4 (off:=off) (by omega)
       have hsplit:∀l:List AV,l.drop off=(l.drop off).take ms.length++l.drop (off+ms.length):=by
        intro l;rw[<-List.drop_drop,List.take_append_drop]
       rw[hsplit as,hsplit bs]at he
       obtain⟨e1,e2,he1,he2,rfl⟩:=mS (by simp;omega) (by simp;omega) he
       have hr:=ih f.type ms hz D (by omega) _ _ va vb e1 hVa hVb he1
       have hrest:=ihf (off+ms.length) ls' ht xs ys e2 h1 h2 h3 h4 he2
       simp only[Op.eqFields,if_pos hnm,hoff,Sem.run_bind,hva,hvb,Result.andThen_ok,hr];cases e1
       ·simp
       ·simpa using hrest
      ·cases ht
     ·cases ht
  have hscalar:nC P t=false->∃a b,as=[a]/\bs=[b]/\DV w π a x/\DV w π b y:=by
   intro hg;simp only[HB,hg,Bool.false_eq_true,if_false]at hx hy;obtain⟨a,rfl,ha⟩:=hx;obtain⟨b,rfl,hb⟩:=hy;exact⟨a,b,rfl,rfl,ha,hb⟩
  split at h
  ·rename_i hu
   cases h
   obtain⟨a,b,rfl,rfl,ha,hb⟩:=hscalar (by simp[nC,hu])
   have hc:=nI he
   cases a<;>cases b<;>simp only[lO]at hc<;>try(cases hc;done)
   cases ha;cases hb;cases hc;exact run_equalIn_bool' w D t _ _ hu
  ·rename_i k hu
   cases h
   obtain⟨a,b,rfl,rfl,ha,hb⟩:=hscalar (by simp[nC,hu])
   have hc:=nI he
   cases a<;>cases b<;>simp only[lO]at hc<;>try(cases hc;done)
   split at hc
   ·rename_i hk
    subst hk;cases ha;cases hb;cases hc;exact run_equalIn_int w D t _ k _ _ hu
   ·cases hc
  ·rename_i k hu
   cases h
   obtain⟨a,b,rfl,rfl,ha,hb⟩:=hscalar (by simp[nC,hu])
   have hc:=nI he
   cases a<;>cases b<;>simp only[lO]at hc<;>try(cases hc;done)
   split at hc
   ·rename_i hk
    subst hk;cases ha;cases hb;cases hc;simp[Op.equalIn,run_underlying hu,Op.floatEq]
   ·cases hc
  ·rename_i hu
   cases h
   obtain⟨a,b,rfl,rfl,ha,hb⟩:=hscalar (by simp[nC,hu])
   have hc:=nI he
   cases a<;>cases b<;>simp only[lO]at hc<;>try(cases hc;done)
   cases ha;cases hb;cases hc;simp[Op.equalIn,run_underlying hu]
  ·rename_i fs hu
   split at h
   ·cases h
   ·rename_i hst
    simp only[HB,nC,hu,if_true]at hx hy;obtain⟨xs,rfl,hxd,hxs⟩:=hx;obtain⟨ys,rfl,hyd,hys⟩:=hy
    have hfo:P.fieldsOf t=fs:=by simp[Program.fieldsOf,hu]
    rw[run_equalIn_struct w D t xs ys (by rw[hfo];exact hu) (by simpa using hst),hfo]
    exact hfields fs.toList 0 ks h xs ys e hxd hxs hyd hys (by simpa using he)
  ·rename_i k el hu
   split at h
   ·rename_i ms hz
    split at h
    ·rename_i hsz
     cases h;simp only[HB,nC,hu,if_true]at hx hy;obtain⟨xs,rfl,hxd,hxs⟩:=hx;obtain⟨ys,rfl,hyd,hys⟩:=hy
     obtain⟨i,hi⟩:∃i,P.info? el=some i:=by
      simp only[fq,Option.map_eq_some_iff]at hsz;obtain⟨i,hi,_⟩:=hsz;exact⟨i,hi⟩
     rw[run_equalIn_array w D xs ys hu hi];obtain⟨u,hue,hone⟩:=uN hz
     have hcz:P.cellsOf el=ms.length:=by
      have:=hsz
      simp only[fq]at this;simp[Program.cellsOf,this]
     rw[hcz]
     have hlk:as.length=k*ms.length:=by rw[<-hla];simp
     -- item by item
     have hitems:∀(m off:Nat),off+m=k->∀e,bt (List.replicate m ms).flatten (as.drop (off*ms.length)) (bs.drop (off*ms.length))=some e->(Op.eqItems D el ms.length xs ys ((List.range m).map (· +off))).run P w=.ok e w:=by
      intro m
      induction m with
      |zero=>
       intro off hoff e2 he2
       have hoff':off=k:=by omega
       rw[hoff']at he2
       have n1:as.drop (k*ms.length)=[]:=List.drop_eq_nil_of_le (by omega)
       have n2:bs.drop (k*ms.length)=[]:=List.drop_eq_nil_of_le (by omega)
       rw[n1,n2]at he2;simp[bt]at he2;subst he2;rfl
      |succ m ihm=>
       intro off hoff e he
       have hle:off*ms.length+ms.length<=k*ms.length:=by
        have:(off+1)*ms.length<=k*ms.length:=Nat.mul_le_mul_right ms.length (by omega)
        rw[Nat.add_mul]at this;omega
       obtain⟨va,hva,hVa⟩:=uM (P:=P) hsz hue hone hxd hxs (off:=off*ms.length) (by omega)
       obtain⟨vb,hvb,hVb⟩:=uM (P:=P) hsz hue hone hyd hys (off:=off*ms.length) (by omega)
       have hsplit:∀l:List AV,l.drop (off*ms.length)=(l.drop (off*ms.length)).take ms.length++l.drop ((off+1)*ms.length):=by
        intro l
        rw[show(off+1)*ms.length=off*ms.length+ms.length by rw[Nat.add_mul];omega,<-List.drop_drop,List.take_append_drop]
       rw[hsplit as,hsplit bs,List.replicate_succ,List.flatten_cons]at he
       obtain⟨e1,e2,he1,he2,rfl⟩:=mS (by simp;omega) (by simp;omega) he
       have hr:=ih el ms hz D (by omega) _ _ va vb e1 hVa hVb he1
       have hrest:=ihm (off+1) (by omega) e2 he2
       have hl:(List.range (m+1)).map (· +off)=off::(List.range m).map (· +(off+1)):=by
        rw[List.range_succ_eq_map];simp;intro q _;omega
       rw[hl];simp only[Op.eqItems,Sem.run_bind,hva,hvb,Result.andThen_ok,hr];cases e1
       ·simp
       ·simpa using hrest
     have:=hitems k 0 (by omega) e (by simpa using he)
     simpa using this
    ·cases h
   ·cases h
  ·cases h
end
end Go.Eng
