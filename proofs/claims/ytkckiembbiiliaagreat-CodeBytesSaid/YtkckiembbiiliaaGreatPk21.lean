/- The engine and the library,part 21 of 21: what the proofs of this seat need of them. -/
import Derived.Test.YtkckiembbiiliaaGreatPk20
set_option linter.unnecessarySimpa false
set_option linter.unusedSimpArgs false
set_option linter.unusedVariables false
set_option linter.defProp false
set_option maxRecDepth 10000
set_option maxHeartbeats 4000000
namespace Go.Eng
open Go
def Al{α β:Type} (R:α->β->Prop):List α->List β->Prop
 |[],[]=>True
 |a::l,b::m=>R a b/\Al R l m
 |_,_=>False
theorem Al.len{α β:Type} {R:α->β->Prop}:∀{l:List α} {m:List β},Al R l m->l.length=m.length
 |[],[],_=>rfl
 |a::l,b::m,h=>by simp[Al.len h.2]
 |[],b::m,h=>h.elim
 |a::l,[],h=>h.elim
theorem Al.get{α β:Type} {R:α->β->Prop}:∀{l:List α} {m:List β},Al R l m->∀(i:Nat) (a:α) (b:β),l[i]? =some a->m[i]? =some b->R a b
 |a::l,b::m,h,0,x,y,hx,hy=>by simp at hx hy;subst hx;subst hy;exact h.1
 |a::l,b::m,h,i+1,x,y,hx,hy=>Al.get h.2 i x y (by simpa using hx) (by simpa using hy)
 |[],_,_,i,_,_,hx,_=>by simp at hx
theorem Al.mk{α β:Type} {R:α->β->Prop}:∀{l:List α} {m:List β},l.length=m.length->(∀(i:Nat) (a:α) (b:β),l[i]? =some a->m[i]? =some b->R a b)->Al R l m
 |[],[],_,_=>trivial
 |a::l,b::m,h,f=>⟨f 0 a b rfl rfl,Al.mk (by simpa using h) fun i x y hx hy=>f (i+1) x y (by simpa using hx) (by simpa using hy)⟩
theorem Al.append{α β:Type} {R:α->β->Prop}:∀{l:List α} {m:List β} {l':List α} {m':List β},Al R l m->Al R l' m'->Al R (l++l') (m++m')
 |[],[],_,_,_,h=>h
 |a::l,b::m,_,_,h,h'=>⟨h.1,Al.append h.2 h'⟩
theorem Al.n{α β:Type} {R:α->β->Prop}:Al R ([]:List α) ([]:List β):=trivial
theorem Al.c{α β:Type} {R:α->β->Prop} {a:α} {b:β} {l:List α} {m:List β} (h:R a b) (t:Al R l m):Al R (a::l) (b::m):=⟨h,t⟩
theorem Al.yc{α β:Type} {R:α->β->Prop} {m:List β} (h:Al R [] m):m=[]:=by
 cases m with
 |nil=>rfl
 |cons b m=>exact h.elim
theorem Al.cons_inv{α β:Type} {R:α->β->Prop} {a:α} {l:List α} {m:List β} (h:Al R (a::l) m):∃b m',m=b::m'/\R a b/\Al R l m':=by
 cases m with
 |nil=>exact h.elim
 |cons b m=>exact⟨b,m,rfl,h.1,h.2⟩
inductive Z' where
 |bool
 |int (k:IntKind)
 |XM (k:FloatKind)
 |str
inductive Ty where
 |sc (s:Z')
 |sl (l:List Ty)
def sS(sz:TypeId->Nat) (F:TypeId->Option (List Ty)):Nat->List (Nat×TypeId)->Option (List Ty)
 |_,[]=>some []
 |o,f::r=>if f.1=o then match F f.2 with
   |some l=>if sz f.2=l.length then match sS sz F (o+l.length) r with
    |some m=>some (l++m)
    |none=>none
    else none
   |none=>none
  else none
def E7(P:Program):Nat->TypeId->Option (List Ty)
 |0,_=>none
 |n+1,t=>match P.underlying t with
  |some .bool=>some [.sc .bool]
  |some (.int k)=>some [.sc (.int k)]
  |some (.float k)=>some [.sc (.XM k)]
  |some .string=>some [.sc .str]
  |some (.slice e)=>match E7 P n e with
   |some l=>if P.cellsOf e=l.length/\0<l.length then some [.sl l]else none
   |none=>none
  |some (.struct fs)=>match sS P.cellsOf (E7 P n) 0 (fs.toList.map fun f=>(f.offset,f.type))with
   |some l=>if P.cellsOf t=l.length then some l else none
   |none=>none
  |some (.array k e)=>match sS P.cellsOf (E7 P n) 0 ((List.range k).map fun i=>(i*P.cellsOf e,e))with
   |some l=>if P.cellsOf t=l.length then some l else none
   |none=>none
  |_=>none
def VX:Z'->AV->Prop
 | .bool,.bool _=>True
 | .int k,.int k' n=>k'=k/\(Lit.int k n).wf=true
 | .XM k,.float k' b=>k'=k/\(Lit.float k b).wf=true
 | .str,.str s=>s.size<=maxLen
 |_,_=>False
mutual
def vR:Ty->AV->Prop
 | .sc s,a=>VX s a
 | .sl _,.bL=>True
 | .sl l,.sl xs=>xs.length<=maxLen/\∀r∈xs,D6 l r
 |_,_=>False
def D6:List Ty->List AV->Prop
 |[],[]=>True
 |t::l,a::r=>vR t a/\D6 l r
 |_,_=>False
end
theorem Cy:∀{l:List Ty} {as:List AV},D6 l as↔Al vR l as
 |[],[]=>by simp[D6,Al]
 |t::l,a::r=>by simp only[D6,Al];rw[Cy (l:=l) (as:=r)]
 |[],a::r=>by simp[D6,Al]
 |t::l,[]=>by simp[D6,Al]
def Ae(W:World):Nat->Nat->Prop:=fun b _=>b<W.heap.size
theorem NM{W:World} {a:Addr} {v:Value} (h:W.cell? a=some v):a.block<W.heap.size:=by
 unfold World.cell? at h;split at h
 ·rename_i hh;exact nH hh
 ·cases h
theorem VX.scalar{s:Z'} {a:AV} (h:VX s a):a.scalar=true:=by cases s<;>cases a<;>first|exact h.elim|rfl
theorem vR.scalar{s:Ty} {a:AV} (h:vR s a):a.scalar=true:=by
 cases s with
 |sc s=>exact VX.scalar (by simpa[vR]using h)
 |sl l=>cases a<;>first|rfl|(simp[vR]at h)
section
variable{H:Type} {enc:TypeId×Value->H} {P:Program} {W:World} {base:Nat}
open Go.ChangeShapes Go.WideShapes Go.ChangeAt Go.RowKit
theorem E8{sp:Nat->Bool} {held:Bool} {b0 fuel:Nat} {t:TypeId} {cs:List Value} {x:DataW H×List MemPlace} {k:FloatKind} (ht:P.underlying t=some (.float k)) (h:DataW.trod enc P W b0 sp held fuel t cs=some x):∃n,cs=[.float k n]/\(Lit.float k n).wf=true:=by
 cases fuel with
 |zero=>simp[DataW.trod]at h
 |succ n=>
  unfold DataW.trod at h;rw[ht]at h
  split at h<;>simp_all
theorem uy{sp:TypeId->Nat} {G:TypeId->Option (List Ty)} {Tr:TypeId->List Value->Prop}
  (each:∀t l cs,G t=some l->Tr t cs->∃as,Al vR l as/\Al (DV W (Ae W)) as cs):∀(ps:List (Nat×TypeId)) (o:Nat) (l:List Ty) (cs:List Value),sS sp G o ps=some l->cs.length=o+l.length->
   (∀(i:Nat) (f:Nat×TypeId),ps[i]? =some f->Tr f.2 ((cs.drop f.1).take (sp f.2)))->∃as,Al vR l as/\Al (DV W (Ae W)) as (cs.drop o)
 |[],o,l,cs,h,hl,_=>by
  simp only[sS,Option.some.injEq]at h;subst h;refine⟨[],trivial,?_⟩
  rw[List.drop_of_length_le (by simp at hl;omega)];trivial
 |f::ps,o,l,cs,h,hl,htr=>by
  simp only[sS]at h
  split at h<;>try(cases h;done)
  rename_i ho
  split at h<;>try(cases h;done)
  rename_i l1 hl1
  split at h<;>try(cases h;done)
  rename_i hsz
  split at h<;>try(cases h;done)
  rename_i m hm;cases h
  have h0:=htr 0 f rfl
  rw[ho,hsz]at h0;obtain⟨as1,ht1,hd1⟩:=each f.2 l1 _ hl1 h0
  obtain⟨as2,ht2,hd2⟩:=uy each ps (o+l1.length) m cs hm (by rw[hl];simp;omega) (fun i g hg=>htr (i+1) g (by simpa using hg))
  refine⟨as1++as2,ht1.append ht2,?_⟩
  have:=hd1.append hd2
  rw[<-List.drop_drop,List.take_append_drop]at this;exact this
omit H enc P W base in
theorem E9{w:World} {b o:Nat} {sp:Option Nat} {v:Value} (h:w.cell? ⟨b,o,sp⟩=some v):sp=none:=by
 cases sp with
 |none=>rfl
 |some x=>unfold World.cell? at h;split at h<;>simp at h
theorem Cz{a:Addr} {n:Nat} (h:a.spot=none):a.add n=⟨a.block,a.off+n,none⟩:=by
 obtain⟨b,o,s⟩:=a;simp only at h;subst h;unfold Addr.add;split
 ·rename_i hh;subst hh;rfl
 ·rfl
theorem yd:∀(n:Nat) (t:TypeId) (l:List Ty),E7 P n t=some l->∀(cs:List Value) (x:DataW H×List MemPlace) (fuel:Nat),
  DataW.trod enc P W 0 (fun _=>true) true fuel t cs=some x->∃as,Al vR l as/\Al (DV W (Ae W)) as cs
 |0,t,l,h,cs,x,fuel,hx=>by cases h
 |n+1,t,l,h,cs,x,fuel,hx=>by
  simp only[E7]at h;split at h
  ·rename_i ht;cases h
   obtain⟨b,rfl,_⟩:=DataW.trod_bool ht hx
   exact⟨[.bool b],⟨by simp[vR,VX],trivial⟩,⟨.bool b,trivial⟩⟩
  ·rename_i k ht;cases h
   obtain⟨m,rfl,_,hw⟩:=DataW.trod_int ht hx
   exact⟨[.int k m],⟨by simp only[vR];exact⟨rfl,hw⟩,trivial⟩,⟨.int k m,trivial⟩⟩
  ·rename_i k ht;cases h
   obtain⟨m,rfl,hw⟩:=E8 ht hx
   exact⟨[.float k m],⟨by simp only[vR];exact⟨rfl,hw⟩,trivial⟩,⟨.float k m,trivial⟩⟩
  ·rename_i ht;cases h
   obtain⟨s,rfl,_,hw⟩:=DataW.trod_string ht hx
   exact⟨[.str s],⟨by simp only[vR];exact hw,trivial⟩,⟨.str s,trivial⟩⟩
  ·rename_i e ht
   split at h<;>try(cases h;done)
   rename_i le hle
   split at h<;>try(cases h;done)
   rename_i hsz;cases h;obtain⟨hsz,hpos⟩:=hsz
   rcases DataW.trod_slice ht hx with⟨rfl,_⟩|⟨a,len,cap,elems,rest,k,_,rfl,_,_,hlc,hmx,hlen,hel,hrest,_⟩
   ·exact⟨[.bL],⟨by simp[vR],trivial⟩,⟨.bL,trivial⟩⟩
   have spotOf:∀(y:DataW H×List MemPlace),(W.cells? 0 (a.add (0*P.cellsOf e)) (P.cellsOf e)).bind (DataW.trod enc P W 0 (fun _=>true) true k e)=some y->a.spot=none:=by
    intro y hy;rw[Option.bind_eq_some_iff]at hy;obtain⟨cs,hcs,_⟩:=hy
    obtain⟨_,hcl,hcell⟩:=World.cells?_some hcs
    have h0:=hcell 0 (by omega)
    obtain⟨v,hv⟩:∃v,cs[0]? =some v:=⟨_,List.getElem?_eq_getElem (by omega)⟩
    rw[hv]at h0;obtain⟨b,o,sp⟩:=a;simp only[Nat.zero_mul,Addr.add,if_true]at h0;exact E9 h0
   have hspot:cap=0\/a.spot=none:=by
    rcases Nat.eq_zero_or_pos cap with h|h
    ·exact .inl h
    right
    rcases Nat.eq_zero_or_pos len with h'|h'
    ·obtain⟨hr1,hr2⟩:=hrest rfl
     have:=hr2 0 (by omega)
     obtain⟨y,hy⟩:∃y,rest[0]? =some y:=⟨_,List.getElem?_eq_getElem (by omega)⟩
     rw[hy,h',Nat.zero_add]at this;exact spotOf y this
    ·have:=hel 0 h'
     obtain⟨y,hy⟩:∃y,elems[0]? =some y:=⟨_,List.getElem?_eq_getElem (by omega)⟩
     rw[hy]at this;exact spotOf y this
   rcases hspot with rfl|hspot
   ·have:len=0:=by omega
    subst this
    exact⟨[.sl []],⟨by simp[vR],trivial⟩,⟨.HA a,trivial⟩⟩
   have each:∀i,i<len->∃as cs,Al vR le as/\Al (DV W (Ae W)) as cs/\∀j,j<le.length->W.cell? ⟨a.block,a.off+i*le.length+j,none⟩=cs[j]?:=by
    intro i hi
    have he:=hel i hi
    have:elems[i]?≠none:=by simp;omega
    obtain⟨y,hy⟩:=Option.ne_none_iff_exists'.1 this;rw[hy,Option.bind_eq_some_iff]at he;obtain⟨cs,hcs,htr⟩:=he
    obtain⟨_,hcl,hcell⟩:=World.cells?_some hcs
    obtain⟨as,hta,hda⟩:=yd n e le hle cs y k htr
    refine⟨as,cs,hta,hda,fun j hj=>?_⟩
    have:=hcell j (by omega)
    rw[<-this,Cz (a:=a.add _) (by rw[Cz hspot]),Cz hspot,hsz]
   obtain⟨rows,hrl,hrt,hr⟩:∃rows:List (List AV),rows.length=len/\(∀r∈rows,Al vR le r)/\∀i r,rows[i]? =some r->∃cs,Al (DV W (Ae W)) r cs/\∀j,j<le.length->W.cell? ⟨a.block,a.off+i*le.length+j,none⟩=cs[j]?:=by
    refine⟨(List.range len).map fun i=>if h:i<len then(each i h).choose else[],by simp,?_,?_⟩
    ·intro r hr
     obtain⟨i,hi,rfl⟩:=List.mem_map.1 hr;rw[List.mem_range]at hi;rw[dif_pos hi];exact(each i hi).choose_spec.choose_spec.1
    ·intro i r hr
     rw[List.getElem?_map,Option.map_eq_some_iff]at hr;obtain⟨k,hk,rfl⟩:=hr
     have hi:=(List.getElem?_eq_some_iff.1 hk).1
     simp at hi;rw[List.getElem?_range hi]at hk;cases hk;rw[dif_pos hi];exact⟨_,(each i hi).choose_spec.choose_spec.2⟩
   obtain⟨b,off,spot⟩:=a;simp only at hspot hr;subst hspot
   refine⟨[.sl rows],⟨by simp only[vR];exact⟨by omega,fun r hr=>Cy.2 (hrt r hr)⟩,trivial⟩,?_,trivial⟩
   have hz:∀(i:Nat) (r:List AV),rows[i]? =some r->r.length=le.length:=fun i r h=>(hrt r (List.mem_of_getElem? h)).len.symm
   have at_:∀(i j:Nat) (r:List AV) (x:AV),rows[i]? =some r->r[j]? =some x->∃v,W.cell? ⟨b,off+i*le.length+j,none⟩=some v/\DV W (Ae W) x v:=by
    intro i j r x h1 h2;obtain⟨cs,hd,hc⟩:=hr i r h1
    have hj:j<le.length:=by have:=(List.getElem?_eq_some_iff.1 h2).1;have:=hz i r h1;omega
    obtain⟨v,hv⟩:∃v,cs[j]? =some v:=⟨_,List.getElem?_eq_getElem (by have:=hd.len;have:=hz i r h1;omega)⟩
    exact⟨v,(hc j hj).trans hv,hd.get j x v h2 hv⟩
   have key:=DV.sl (w:=W) (π:=Ae W) rows b off cap le.length (fun i j=>(W.cell? ⟨b,off+i*le.length+j,none⟩).getD default) (by omega) hz
    (fun i j r x h1 h2=>by
     obtain⟨t,ht⟩:∃t,le[j]? =some t:=⟨_,List.getElem?_eq_getElem (by have:=(List.getElem?_eq_some_iff.1 h2).1;have:=hz i r h1;omega)⟩
     exact vR.scalar ((hrt r (List.mem_of_getElem? h1)).get j t x ht h2))
    (fun i j r x h1 h2=>by obtain⟨v,hv,_⟩:=at_ i j r x h1 h2;exact NM hv)
    (fun i j r x h1 h2=>by obtain⟨v,hv,_⟩:=at_ i j r x h1 h2;rw[hv];rfl)
    (fun i j r x h1 h2=>by obtain⟨v,hv,hd⟩:=at_ i j r x h1 h2;rw[hv];exact hd)
   rw[hrl]at key;exact key
  ·rename_i fs ht
   split at h<;>try(cases h;done)
   rename_i l' hl'
   split at h<;>try(cases h;done)
   rename_i hsz;cases h;obtain⟨xs,k,_,_,hcl,hxl,hf⟩:=DataW.trod_struct ht hx
   have:=uy (W:=W) (Tr:=fun t cs=>∃x fuel,DataW.trod enc P W 0 (fun _=>true) true fuel t cs=some x) (fun t l cs h1 ⟨x,fuel,h3⟩=>yd n t l h1 cs x fuel h3) _ 0 l cs hl' (by omega) (fun i f hif=>by
    rw[List.getElem?_map,Option.map_eq_some_iff]at hif;obtain⟨f,hif,rfl⟩:=hif
    have h1:=hf i f (by simpa using hif)
    have:xs[i]?≠none:=by
     have:=(List.getElem?_eq_some_iff.1 hif).1
     simp at this⊢;omega
    obtain⟨y,hy⟩:=Option.ne_none_iff_exists'.1 this
    exact⟨y,k,h1.trans hy⟩)
   simpa using this
  ·rename_i q e ht
   split at h<;>try(cases h;done)
   rename_i l' hl'
   split at h<;>try(cases h;done)
   rename_i hsz;cases h;obtain⟨xs,k,_,_,hcl,hxl,hf⟩:=DataW.trod_array ht hx
   have:=uy (W:=W) (Tr:=fun t cs=>∃x fuel,DataW.trod enc P W 0 (fun _=>true) true fuel t cs=some x) (fun t l cs h1 ⟨x,fuel,h3⟩=>yd n t l h1 cs x fuel h3) _ 0 l cs hl' (by omega) (fun i f hif=>by
    rw[List.getElem?_map,Option.map_eq_some_iff]at hif;obtain⟨f,hif,rfl⟩:=hif
    have hi:=(List.getElem?_eq_some_iff.1 hif).1
    simp at hi;rw[List.getElem?_range hi]at hif;cases hif
    have h1:=hf i hi
    have:xs[i]?≠none:=by simp;omega
    obtain⟨y,hy⟩:=Option.ne_none_iff_exists'.1 this
    exact⟨y,k,h1.trans hy⟩)
   simpa using this
  ·cases h
def isAgg(P:Program) (t:TypeId):Bool:=match P.underlying t with
 |some (.struct _)|some (.array _ _)=>true
 |_=>false
theorem Hx{n:Nat} {t:TypeId} {k:Ty} {v:Value} {d:DataW H} {p:List MemPlace} (hl:E7 P n t=some [k]) (ha:isAgg P t=false) (hval:Value.okWide P W .any base t v)
  (h:DataW.Trod enc P W 0 (fun _=>true) true t v d p):∃a,vR k a/\DV W (Ae W) a v:=by
 obtain⟨fuel,hf⟩:=h
 obtain⟨as,ht,hd⟩:=yd n t [k] hl _ _ _ hf
 obtain⟨a,as',rfl,hk,ht'⟩:=ht.cons_inv;cases ht'.yc;obtain⟨u,us,e,hdu,_⟩:=hd.cons_inv
 have hne:∀cs,v≠.agg cs:=by
  rintro cs rfl
  unfold isAgg at ha;unfold Value.okWide at hval;split at hval
  ·rename_i e;rw[e]at ha;cases ha
  ·rename_i e;rw[e]at ha;cases ha
  ·unfold Cell.okWide at hval
   split at hval<;>simp_all [Cell.ok]
 refine⟨a,hk,?_⟩
 cases v<;>simp[Value.cells]at e
 case agg cs=>exact absurd rfl (hne cs)
 all_goals(obtain⟨rfl,rfl⟩:=e;exact hdu)
theorem Gb{k:IntKind} {a:AV} (h:vR (.sc (.int k)) a):∃n,a=.int k n/\(Lit.int k n).wf=true:=by
 simp only[vR]at h
 cases a<;>first|exact h.elim|(obtain⟨rfl,hw⟩:=h;exact⟨_,rfl,hw⟩)
theorem KN{α:Type} {f:α->List AV} {Q:α->Prop} {l:List Ty} (row:∀r,Al vR l r->∃x,r=f x/\Q x) {a:AV} (h:vR (.sl l) a):∃xs:Option (List α),a=aD f xs/\(xs.getD []).length<=maxLen/\∀x∈xs.getD [],Q x:=by
 cases a<;>simp only[vR]at h
 ·exact⟨none,rfl,by simp,by simp⟩
 rename_i xs
 have:∀(xs:List (List AV)),(∀r∈xs,D6 l r)->∃m:List α,xs=m.map f/\∀x∈m,Q x:=by
  intro xs
  induction xs with
  |nil=>intro _;exact⟨[],rfl,by simp⟩
  |cons r xs ih=>
   intro h
   obtain⟨m,rfl,hm⟩:=ih (fun r hr=>h r (List.mem_cons_of_mem _ hr))
   obtain⟨x,rfl,hx⟩:=row _ (Cy.1 (h _ List.mem_cons_self))
   exact⟨x::m,rfl,by simpa using⟨hx,hm⟩⟩
 obtain⟨m,rfl,hm⟩:=this xs h.2
 exact⟨some m,rfl,by simpa using h.1,hm⟩
theorem D7{k:IntKind} {a:AV} (h:vR (.sl [.sc (.int k)]) a):∃l:Option (List Int),a=aD (fun n=>[.int k n]) l/\(l.getD []).length<=maxLen/\∀n∈l.getD [],(Lit.int k n).wf=true:=
 KN (fun r hr=>by
  obtain⟨a,as,rfl,h1,h2⟩:=hr.cons_inv;cases h2.yc;obtain⟨n,rfl,hn⟩:=Gb h1
  exact⟨n,rfl,hn⟩) h
theorem KO{P:Program} {f:Nat} {args:List AV} {W:World} {vs:List Value} (h:(Pure P).c f args (.bool true) none) (hd:Al (DV W (Ae W)) args vs):
  Calls P f vs.toArray W fun e w'=>e=.returned (.bool true)/\Go.RowKit.Below W.heap.size W w':=by
 refine(h.2 W (Ae W) vs (fun _ _ h=>h) ⟨hd.len,hd.get⟩).mono fun e w' ⟨v,π',he,hb,_,_,_,hdv,_⟩=>?_
 cases hdv;exact⟨he,hb⟩
end
section
variable{H:Type} {enc:TypeId×Value->H} {P:Program} {W:World} {base:Nat}
open Go.ChangeShapes Go.WideShapes Go.ChangeAt Go.RowKit
def VY(enc:TypeId×Value->H) (P:Program) (W:World) (base:Nat) (t:TypeId) (v:Value):Prop:=
 Value.okWide P W .any base t v/\∃d p,DataW.Trod enc P W 0 (fun _=>true) true t v d p
theorem Bo:∀{ts:List TypeId} {vs:List Value} {ds:List (DataW H)} {ps:List MemPlace},DataW.TrodAll enc P W 0 (fun _=>true) true ts vs ds ps->
  (∀(j:Nat) t v,ts[j]? =some t->vs[j]? =some v->Value.okWide P W .any base t v)->Al (VY enc P W base) ts vs
 |[],vs,ds,ps,h,_=>by obtain⟨rfl,_,_⟩:=trodAll_nil h;trivial
 |t::ts,vs,ds,ps,h,hv=>by
  obtain⟨v,vs',d,ds',p,q,rfl,rfl,rfl,h0,h1⟩:=trodAll_cons h
  exact⟨⟨hv 0 t v rfl rfl,d,p,h0⟩,Bo h1 fun j t v h1 h2=>hv (j+1) t v (by simpa using h1) (by simpa using h2)⟩
theorem Af{W':World} (hl:laidOutB P=true):∀{ts:List TypeId} {vs:List Value} {ds:List (DataW H)} {ps:List MemPlace},(ts.all fun t=>P.readableRec t&&decide (t<P.types.size))=true->
  DataW.TrodAll enc P W 0 (fun _=>true) true ts vs ds ps->Below W.heap.size W W'->DataW.TrodAll enc P W' 0 (fun b=>decide (b<W.heap.size)) true ts vs ds ps
 |[],vs,ds,ps,_,h,_=>by obtain⟨rfl,rfl,rfl⟩:=trodAll_nil h;exact trodAll_mk0
 |t::ts,vs,ds,ps,hr,h,hb=>by
  have hlt:=DataW.TrodAll.lt h
  obtain⟨v,vs',d,ds',p,q,rfl,rfl,rfl,h0,h1⟩:=trodAll_cons h;simp only[List.all_cons,Bool.and_eq_true,decide_eq_true_eq]at hr
  exact trodAll_cons_mk (Below.trod hl hr.1.1 hr.1.2 h0 hb fun x hx=>hlt x (by simp[hx])) (Af hl hr.2 h1 hb)
theorem Ag{n:Nat} {t:TypeId} {k:Ty} {v:Value} (hl:E7 P n t=some [k]) (ha:isAgg P t=false) (h:VY enc P W base t v):∃a,vR k a/\DV W (Ae W) a v:=by
 obtain⟨h1,d,p,h2⟩:=h;exact Hx hl ha h1 h2
theorem vQ{sp:Nat->Bool} {held:Bool} {b0:Nat}:∀{ts:List TypeId} {vs:List Value} {ds:List (DataW H)} {ps:List MemPlace},DataW.TrodAll enc P W b0 sp held ts vs ds ps->ds.length=ts.length
 |[],vs,ds,ps,h=>by obtain⟨_,rfl,_⟩:=trodAll_nil h;rfl
 |t::ts,vs,ds,ps,h=>by
  obtain⟨v,vs',d,ds',p,q,rfl,rfl,rfl,h0,h1⟩:=trodAll_cons h;simp[vQ h1]
end
theorem KQ{α:Type} {l:List α} {n:Nat} (h:l.length=n+1):∃a m,l=a::m/\m.length=n:=by
 cases l with
 |nil=>cases h
 |cons a m=>exact⟨a,m,rfl,by simpa using h⟩
theorem VZ{α:Type} {l:List α} (h:l.length=1):∃a,l=[a]:=by obtain⟨a,m,rfl,h2⟩:=KQ h;exact⟨a,by rw[List.length_eq_zero_iff.1 h2]⟩
theorem V0{α:Type} {l:List α} (h:l.length=2):∃a b,l=[a,b]:=by obtain⟨a,m,rfl,h2⟩:=KQ h;obtain⟨b,rfl⟩:=VZ h2;exact⟨a,b,rfl⟩
theorem V1{α:Type} {l:List α} (h:l.length=3):∃a b c,l=[a,b,c]:=by obtain⟨a,m,rfl,h2⟩:=KQ h;obtain⟨b,c,rfl⟩:=V0 h2;exact⟨a,b,c,rfl⟩
theorem KR{a:AV} (h:vR (.sl [.sc (.int .u8)]) a):∃l:Option (List Int),a=aD dD l/\(l.getD []).length<=maxLen/\∀d∈l.getD [],0<=d/\d<256:=
 KN (fun r hr=>by
  obtain⟨a1,r1,rfl,k1,h1⟩:=hr.cons_inv;cases h1.yc;obtain⟨n1,rfl,w⟩:=Gb k1
  exact⟨n1,rfl,by
   simp only[Lit.wf,IntKind.min,IntKind.max,IntKind.signed,IntKind.bits,Bool.and_eq_true,decide_eq_true_eq]at w;simp at w
   omega⟩) h
end Go.Eng
