/- The engine and the library,part 5 of 18: what the proofs of this seat need of them. -/
import Derived.Test.YthoinfdfenkgnaaGreatPk4
set_option linter.unnecessarySimpa false
set_option linter.unusedSimpArgs false
set_option linter.unusedVariables false
set_option linter.defProp false
set_option maxRecDepth 10000
set_option maxHeartbeats 4000000
namespace Go.Eng
open Go
open Go.RowKit (Below)
section
variable{P:Program} {nt:Nat} {n0:gb} {w0:World} {π0:Nat->Nat->Prop} {U:Nat->Prop} {s:S} {a:Act} {w:World} {β:Nat->Nat} {τ:Nat->Value} {π:Nat->Nat->Prop}
theorem MQ{a:AV} {v:Value} (h:DV w π a v) (hf:kM a=true):v=Pn a:=by
 cases h<;>first|rfl|(simp[kM]at hf;done)
theorem PM{a:AV} {v:Value} (h:DV w π a v) (hf:je a=true):v=wF a:=by
 cases h with
 |agg as vs hl hs hd=>
  simp only[je,List.all_eq_true]at hf
  show Value.agg vs=.agg _
  congr 1
  apply Array.ext
  ·simpa using hl.symm
  ·intro i h1 h2
   have hi:i<as.length:=by omega
   have:=MQ (hd i as[i] vs[i] (by simp[hi]) (by simp[h1])) (hf _ (List.getElem_mem hi))
   simpa using this
 |_=>first|rfl|(simp[je,kM]at hf;done)
theorem jB{t:TypeId} {d:TypeDesc} (h:P.underlying t=some d):(underlying t).run P w=.ok d w:=by
 simp[underlying,h]
theorem K7{t:TypeId} {z:AV} (h:zeroV P t=some z):∃v:Value,(zeroValue t).run P w=.ok v w/\DV w π z v:=by
 unfold zeroV at h;simp only[Option.bind_eq_some_iff]at h;obtain⟨v,⟨i,hi,hz⟩,hv⟩:=h
 exact⟨v,by simp[zeroValue,typeInfo,hi,hz],Mz hv⟩
theorem Ef(d:Nat) {t:TypeId} {ms:Array (String×TypeId)} (h:P.underlying t=some (.interface ms)) (x:Value) (b:Bool) (hx:(x=.nilIface/\b=true)\/(∃t' y,x=.iface t' y/\b=false)):(Op.equalIn (d+1) t x .nilIface).run P w=.ok b w:=by
 have hun:(underlying t).run P w=.ok (.interface ms) w:=jB h
 rcases hx with⟨rfl,rfl⟩|⟨t',y,rfl,rfl⟩<;>simp only[Op.equalIn,Sem.run_bind,hun,Result.andThen_ok,Sem.run_pure]
theorem K8(d:Nat) {t e:TypeId} (h:P.underlying t=some (.pointer e)) (x:Option Addr):(Op.equalIn (d+1) t (.pointer x) (.pointer none)).run P w=.ok x.isNone w:=by
 have hun:(underlying t).run P w=.ok (.pointer e) w:=jB h
 cases x<;>simp only[Op.equalIn,Sem.run_bind,hun,Result.andThen_ok,Sem.run_pure,Option.isNone]
theorem Fe{t:TypeId} {neg:Bool} {op:BinOp} (hop:(op=.eql/\neg=false)\/(op=.neq/\neg=true)) {X Y:Operand} {x y:Value} {b:Bool} (hg:(eqGuard op t X Y x y).run P w=.ok () w)
  (hb:∀d,(Op.equalIn (d+1) t x y).run P w=.ok b w) (e1:binOp .eql t x y=(do pure (.bool (<-Op.equal t x y)))) (e2:binOp .neq t x y=(do pure (.bool (!(<-Op.equal t x y))))):(do eqGuard op t X Y x y;binOp op t x y:Sem Value).run P w=.ok (.bool (b !=neg)) w:=by
 have he:(Op.equal t x y).run P w=.ok b w:=hb 9999
 rw[Sem.run_bind,hg]
 rcases hop with⟨rfl,rfl⟩|⟨rfl,rfl⟩
 ·simp only[Result.andThen_ok,e1,Sem.run_bind,he,Sem.run_pure];simp
 ·simp only[Result.andThen_ok,e2,Sem.run_bind,he,Sem.run_pure];simp
theorem J3{t:TypeId} {neg:Bool} {op:BinOp} (hop:(op=.eql/\neg=false)\/(op=.neq/\neg=true)) (hs:pY P t=true) {a:AV} {b:Bool} {X:Operand} {x:Value}
  (hb:K0 neg a=some b) (hx:DV w π a x):(do eqGuard op t X (.const .nilIface) x .nilIface;binOp op t x .nilIface:Sem Value).run P w=.ok (.bool b) w:=by
 have hu:∃e,P.underlying t=some (.interface e):=by
  unfold pY at hs;split at hs
  ·exact⟨_,by assumption⟩
  ·cases hs
 obtain⟨e,hu⟩:=hu
 cases hx<;>simp only[K0,Option.some.injEq,reduceCtorEq]at hb<;>subst hb
 ·have:=Fe (P:=P) (w:=w) hop (t:=t) (X:=X) (Y:=.const .nilIface) (x:=.nilIface) (y:=.nilIface) (b:=true) (by rcases hop with⟨rfl,rfl⟩|⟨rfl,rfl⟩<;>simp[eqGuard]) (fun d=>Ef d hu _ _ (.inl ⟨rfl,rfl⟩)) rfl rfl
  rw[this];cases neg<;>rfl
 ·rename_i t' av v' hd'
  have:=Fe (P:=P) (w:=w) hop (t:=t) (X:=X) (Y:=.const .nilIface) (x:=.iface t' v') (y:=.nilIface) (b:=false) (by rcases hop with⟨rfl,rfl⟩|⟨rfl,rfl⟩<;>simp[eqGuard]) (fun d=>Ef d hu _ _ (.inr ⟨_,_,rfl,rfl⟩)) rfl rfl
  rw[this];cases neg<;>rfl
theorem J4{t:TypeId} {neg:Bool} {op:BinOp} (hop:(op=.eql/\neg=false)\/(op=.neq/\neg=true)) (hs:Pp P t=true) {v:SV} {b:Bool} {X:Operand} {x:Value}
  (hb:DK neg v=some b) (hx:RV β τ w π v x):(do eqGuard op t X (.const (.pointer none)) x (.pointer none);binOp op t x (.pointer none):Sem Value).run P w=.ok (.bool b) w:=by
 have hu:∃e,P.underlying t=some (.pointer e):=by
  unfold Pp at hs;split at hs
  ·exact⟨_,by assumption⟩
  ·cases hs
 obtain⟨e,hu⟩:=hu
 have all:∀A:Option Addr,(A.isNone !=neg)=b->(do eqGuard op t X (.const (.pointer none)) (.pointer A) (.pointer none);binOp op t (.pointer A) (.pointer none):Sem Value).run P w=.ok (.bool b) w:=by
  intro A hbn
  have:=Fe (P:=P) (w:=w) hop (t:=t) (X:=X) (Y:=.const (.pointer none)) (x:=.pointer A) (y:=.pointer none) (b:=A.isNone) (by rcases hop with⟨rfl,rfl⟩|⟨rfl,rfl⟩<;>simp[eqGuard]) (fun d=>K8 d hu A) (by cases A<;>rfl) (by cases A<;>rfl)
  rw[this,hbn]
 cases v with
 |ptr b' o=>
  have hx:x=.pointer (some ⟨β b',o,none⟩):=hx
  subst hx
  exact all _ (by simpa[DK]using hb)
 |rp cs=>
  obtain⟨B,off,f,rfl,_⟩:=hx
  exact all _ (by simpa[DK]using hb)
 |dat av q=>
  have hd:=hx.1
  cases av<;>simp only[DK,Option.some.injEq,reduceCtorEq]at hb
  ·cases hd
   exact all none (by rw[<-hb];cases neg<;>rfl)
  ·cases hd
   exact all _ (by rw[<-hb];cases neg<;>rfl)
 |_=>simp[DK]at hb
theorem PN{t xt:TypeId} {z a v:AV} {x:Value} (hz:zeroV P t=some z) (hni:(pY P t||(P.underlying t).isNone)=false) (hv:II t z a=some v) (hx:DV w π a x):
  ∃u,(Instr.typeAssert x xt t true).run P w=.ok u w/\DV w π v u:=by
 obtain⟨zv,hzr,hzd⟩:=K7 (w:=w) (π:=π) hz
 simp only[Bool.or_eq_false_iff]at hni;obtain⟨hi,hn⟩:=hni
 cases hu:P.underlying t with
 |none=>rw[hu]at hn;cases hn
 |some d=>
  have hun:(underlying t).run P w=.ok d w:=jB hu
  have hd:∀ms,d≠.interface ms:=fun ms e=>by subst e;simp[pY,hu]at hi
  have no:∀(x:Value),x=.nilIface\/(∃t' y,x=.iface t' y/\t'≠t)->(Instr.typeAssert x xt t true).run P w=.ok (.tuple #[zv,.bool false]) w:=by
   intro x hx
   rcases hx with rfl|⟨t',y,rfl,hne⟩
   ·unfold Instr.typeAssert
    simp only[Sem.run_bind,hun,Result.andThen_ok]
    cases d<;>first|exact absurd rfl (hd _)|simp[hzr]
   ·unfold Instr.typeAssert
    simp only[Sem.run_bind,hun,Result.andThen_ok]
    cases d<;>first|exact absurd rfl (hd _)|simp[hzr,hne]
  have two:∀{p:AV} {y:Value} (b:Bool),DV w π p y->DV w π (.cN [p,.bool b]) (.tuple #[y,.bool b]):=by
   intro p y b hp
   refine .cN _ _ rfl (fun i a v ha hv=>?_)
   cases i with
   |zero=>simp at ha hv;subst ha hv;exact hp
   |succ i=>cases i with
    |zero=>simp at ha hv;subst ha hv;exact .bool b
    |succ i=>simp at ha
  cases hx<;>simp only[II,Option.some.injEq,reduceCtorEq]at hv<;>subst hv
  ·exact⟨_,no _ (.inl rfl),two _ hzd⟩
  ·rename_i t' av y hd'
   by_cases he:t'=t
   ·rw[if_pos he]
    subst he;refine⟨.tuple #[y,.bool true],?_,two _ hd'⟩;unfold Instr.typeAssert;simp only[Sem.run_bind,hun,Result.andThen_ok]
    cases d<;>first|exact absurd rfl (hd _)|simp
   ·rw[if_neg he]
    exact⟨_,no _ (.inr ⟨t',y,rfl,he⟩),two _ hzd⟩
theorem Rel.PO(R:Rel P nt n0 w0 π0 U s a w β τ π) {id:Nat} (hid:¬U id) {w':World} {π':Nat->Nat->Prop} {B:Nat} {cs:List AV} (hB:w.heap.size<=B) (hbel:Below w.heap.size w w') (hp:∀b o,π b o->π' b o) (hp':∀b o,π' b o->π b o\/w.heap.size<=b)
  (hpl:∀b o,π' b o->b<w'.heap.size) (hbx:p8 (fun _=>undef) w' π' B ⟨cs,[]⟩):
  Rel P nt n0 w0 π0 (fk U id) {s with boxes:=(id,⟨cs,[]⟩)::s.boxes} a w' (DN β id B) τ π':=by
 have hne:∀b,U b->b≠id:=fun b hb e=>hid (e▸hb)
 have R1:Rel P nt n0 w0 π0 (fk U id) s a w' (DN β id B) τ π':=
  R.frame (fun b hb=>vE _ _ _ (hne b hb)) (fun _ _=>rfl) (fun n h=>.inl h) hp hp' hpl hbel
 have hsz:n0.n<=w.heap.size:=Nat.le_trans R.eS R.below.size
 have hold:∀b x,b9 b s.boxes=some x->DN β id B b≠B:=fun b x h=>by
  obtain⟨h1,_,⟨cur,el,hh,_⟩,_⟩:=R.boxes b x h;rw[vE _ _ _ (hne b h1)]
  have:=nI hh
  omega
 refine⟨R1.size,R1.slots,fun b x h=>?_,fun b b' x x' h h' e=>?_,R1.live,R1.cq,fun q e' b x h h' hBo=>?_,R1.below,R1.eS,R1.eO,R1.eF,R1.dc,R1.mj,R1.jf,R1.kept⟩
 ·simp only[b9]at h
  by_cases hb:b=id
  ·subst hb
   simp at h;subst h
   refine⟨.inr rfl,by rw[cj];exact .inl (Nat.le_trans hsz hB),?_,fun o q h=>by simp[d7]at h⟩
   rw[cj];exact hbx.sB
  ·have:(b==id)=false:=by simpa using hb
   simp only[this,cond_false]at h;exact R1.boxes b x h
 ·simp only[b9]at h h'
  by_cases hb:b=id
  ·by_cases hb':b'=id
   ·rw[hb,hb']
   ·have hf:(b'==id)=false:=by simpa using hb'
    simp only[hf,cond_false]at h';subst hb;rw[cj]at e;exact absurd e.symm (hold b' x' h')
  ·have hf:(b==id)=false:=by simpa using hb
   simp only[hf,cond_false]at h
   by_cases hb':b'=id
   ·subst hb'
    rw[cj]at e;exact absurd e (hold b x h)
   ·have hf':(b'==id)=false:=by simpa using hb'
    simp only[hf',cond_false]at h';exact R1.inj b b' x x' h h' e
 ·simp only[b9]at h'
  by_cases hb:b=id
  ·subst hb
   rw[cj]at hBo
   have:=((R.live q e' h).2.block hBo).2
   omega
  ·have hf:(b==id)=false:=by simpa using hb
   simp only[hf,cond_false]at h';exact R1.cH q e' b x h h' hBo
theorem yP{w:World} {π:Nat->Nat->Prop}:∀{as as':List (Option AV)} {Bs Bs':List Nat} {vs vs':List Value},fh w π as Bs vs->fh w π as' Bs' vs'->fh w π (as++as') (Bs++Bs') (vs++vs')
 |[],as',[],Bs',[],vs',_,h'=>h'
 |[],as',B::Bs,Bs',vs,vs',h,h'=>by cases vs<;>exact h.elim
 |[],as',[],Bs',v::vs,vs',h,h'=>h.elim
 |some a::as,as',Bs,Bs',[],vs',h,h'=>by cases Bs<;>exact h.elim
 |some a::as,as',Bs,Bs',v::vs,vs',h,h'=>by
  have h2:DV w π a v/\fh w π as Bs vs:=by cases Bs<;>exact h
  have:=yP h2.2 h'
  show fh w π (some a::(as++as')) (Bs++Bs') (v::(vs++vs'))
  cases hB:Bs++Bs' with
  |nil=>exact⟨h2.1,by rw[<-hB];exact this⟩
  |cons B r=>exact⟨h2.1,by rw[<-hB];exact this⟩
 |none::as,as',[],Bs',vs,vs',h,h'=>by cases vs<;>exact h.elim
 |none::as,as',B::Bs,Bs',[],vs',h,h'=>h.elim
 |none::as,as',B::Bs,Bs',v::vs,vs',h,h'=>⟨h.1,yP h.2 h'⟩
theorem vK{w:World} {π:Nat->Nat->Prop}:∀{as:List AV} {vs:List Value},jt w π as vs->fh w π (as.map some) [] vs
 |[],[],_=>trivial
 |[],v::vs,h=>by have:=h.1;simp at this
 |a::as,[],h=>by have:=h.1;simp at this
 |a::as,v::vs,h=>⟨h.2 0 a v rfl rfl,vK ⟨by have:=h.1;simpa using this,fun i x u hx hu=>h.2 (i+1) x u (by simpa using hx) (by simpa using hu)⟩⟩
theorem MR{c:Call} {f:Nat} (h:c.callee=.value (.func f)) (hc:cg P f=true):Gx P c=(gl c.args).map (if vD P c.argTypes.toList then .bI f else .call f):=by
 unfold Gx;rw[h];simp[hc]
theorem J5{q n:Nat} {x:AV} {id:Nat}:∀{l:List (Nat×SV)} {t:Nat} {v:SV},lk t (DL q n x id l)=some v->∃u,lk t l=some u/\v=Bf q n x id u
 |[],t,v,h=>by cases h
 |(m,u)::r,t,v,h=>by
  simp only[DL,lk,mq]at h⊢;split at h
  ·rename_i e;cases h;subst e;exact⟨u,by simp,rfl⟩
  ·rename_i e;obtain⟨u',h1,h2⟩:=J5 h;exact⟨u',by simp[e,h1],h2⟩
theorem Rel.made(R:Rel P nt n0 w0 π0 U s a w β τ π) {id:Nat} (hid:¬U id) {e:TypeId} {i:TypeInfo} {cs:Array Value} (hi:P.info? e=some i) (hz:i.size=1) {c:Nat} (hc:c<=maxLen) (hcs:cs.size=c):
  Rel P nt n0 w0 π0 (fk U id) {s with live:=(id,e)::s.live} a (w.alloc (.cells cs e)) β (DN τ id (.slice (some ⟨w.heap.size,0,none⟩) 0 c)) π:=by
 have hbel:Below w.heap.size w (w.alloc (.cells cs e)):=(Below.refl _ _).alloc (Nat.le_refl _) _
 have hsz:n0.n<=w.heap.size:=Nat.le_trans R.eS R.below.size
 have R1:Rel P nt n0 w0 π0 U s a (w.alloc (.cells cs e)) β τ π:=
  R.frame (fun _ _=>rfl) (fun _ _=>rfl) (fun _ h=>h) (fun _ _ h=>h) (fun _ _ h=>.inl h) (fun b o h=>by have:=R.eO b o h;simp;omega) hbel
 refine R1.sA hid (.inr ⟨w.heap.size,0,c,cs,i,rfl,.inl hsz,heap_alloc_new w _,Nat.zero_le _,hc,hi,by rw[hz,hcs,Nat.mul_one],fun o _ ho=>?_⟩) (fun q e' B hq hB hB'=>?_) (fun b x hb hB'=>?_)
 ·have:=R.eO _ _ ho;omega
 ·have h1:=((R.live q e' hq).2.block hB).2
  simp[iH]at hB';omega
 ·have:=R.mB hb
  simp[iH]at hB';omega
theorem Rel.copied(R:Rel P nt n0 w0 π0 U s a w β τ π) {id:Nat} (hid:¬U id) {e q B cap:Nat} {i:TypeInfo} {ys:List (List AV)} {cs:List Value} {cur:Array Value} (hi:P.info? e=some i) (hz:i.size=1) (hlive:d7 q s.live=some e)
  (hτ:τ q=.slice (some ⟨B,0,none⟩) 0 cap) (hn:ys.length<=cap) (hh:w.heap[B]? =some (.cells cur e (0,0))) (hok:n0.ok B) (hcm:cap<=maxLen) (hcur:cur.size=cap) (hfree:∀o,¬π B o)
  (hy:∀r∈ys,r.length=1) (hd:jt w π ys.flatten cs) (hsc:∀r∈ys,∀x∈r,x.scalar=true):
  ∃τ' π',Rel P nt n0 w0 π0 (fk U id) {s with slots:=DL q ys.length (.sl ys) id s.slots,live:=(id,e)::jr q s.live} a (w.setRow B (cur.toList.take 0++cs++cur.toList.drop (0+cs.length)).toArray) β τ' π':=by
 have hcl:cs.length=ys.length:=by rw[<-hd.1,iI hy,Nat.mul_one]
 generalize hcur':(cur.toList.take 0++cs++cur.toList.drop (0+cs.length)).toArray=cur'
 have hcsz:cur'.size=cur.size:=by rw[<-hcur'];simp;omega
 have hget:∀(j:Nat) (v:Value),cs[j]? =some v->cur'[j]? =some v:=by
  intro j v hv
  have hj:j<cs.length:=(List.getElem?_eq_some_iff.1 hv).1
  rw[<-hcur'];simp[List.getElem?_append_left hj,hv]
 have hneB:∀q' e',d7 q' (jr q s.live)=some e'->iH (τ q')≠some B:=by
  intro q' e' hq' hB';obtain⟨h1,h2⟩:=jy hq'
  exact h2 (R.cq q' q e' e B h1 hlive hB' (by rw[hτ];rfl))
 have hbox:∀b x,b9 b s.boxes=some x->β b≠B:=fun b x hb e'=>R.cH q e b x hlive hb (by rw[hτ,e'];rfl)
 have R1:=(R.IM q).GG (m:=ys.length) (cur':=cur') hok hh (fun o ho=>absurd ho (hfree o)) hneB hbox
 have hh':(w.setRow B cur').heap[B]? =some (.cells cur' e (0,0)):=setRow_heap w _ cur _ e _ hh
 have R2:=R1.sA (id:=id) (e:=e) (v:=.slice (some ⟨B,0,none⟩) ys.length cap) hid
  (.inr ⟨B,ys.length,cap,cur',i,rfl,hok,hh',hn,hcm,hi,by rw[hcsz,hcur,hz,Nat.mul_one],fun o ho hc=>by
   rw[hz,Nat.mul_one]at ho
   rcases hc with h|⟨_,h⟩
   ·exact hfree o h
   ·omega⟩) (fun q' e' C hq' hC hB'=>by simp[iH]at hB';exact hneB q' e' hq' (by rw[hC,hB'])) (fun b x hb hB'=>hbox b x hb (by simpa[iH]using hB'.symm))
 have hdv:DV (w.setRow B cur') (grow π B ys.length) (.sl ys) (.slice (some ⟨B,0,none⟩) ys.length cap):=by
  have hmono:∀{x:AV} {v:Value},DV w π x v->DV (w.setRow B cur') (grow π B ys.length) x v:=fun h=>h.mono (fun _ _ h=>.inl h) (fun b o h=>by
   by_cases e':b=B
   ·subst e';exact absurd h (hfree o)
   ·exact cell_setRow_other w _ cur' ⟨b,o,none⟩ e')
  have one:∀(i j:Nat) (r:List AV) (x:AV),ys[i]? =some r->r[j]? =some x->j=0/\∃v,cs[i]? =some v/\cur'[i]? =some v/\DV w π x v:=by
   intro i j r x hr hx
   have hrl:=hy r (List.mem_of_getElem? hr)
   have hj:j=0:=by have:=(List.getElem?_eq_some_iff.1 hx).1;omega
   subst hj
   obtain⟨v,hv,hdx⟩:=hd.get (kO hy hr hx)
   rw[Nat.mul_one,Nat.add_zero]at hv;exact⟨rfl,v,hv,hget i v hv,hdx⟩
  refine .sl ys B 0 cap 1 (fun i j=>cur'.getD i undef) hn (fun i r hr=>hy r (List.mem_of_getElem? hr)) (fun i j r x hr hx=>hsc r (List.mem_of_getElem? hr) x (List.mem_of_getElem? hx)) (fun i j r x hr hx=>?_) (fun i j r x hr hx=>?_) (fun i j r x hr hx=>?_)
  ·obtain⟨rfl,_⟩:=one i j r x hr hx
   exact .inr ⟨rfl,by have:=(List.getElem?_eq_some_iff.1 hr).1;omega⟩
  ·obtain⟨rfl,v,_,hv,_⟩:=one i j r x hr hx
   rw[Nat.zero_add,Nat.mul_one,Nat.add_zero,cell_of_row _ _ _ cur' e (0,0) hh',hv];simp[hv]
  ·obtain⟨rfl,v,_,hv,hdx⟩:=one i j r x hr hx
   simp only[Array.getD_eq_getD_getElem?,hv,Option.getD_some];exact hmono hdx
 refine⟨_,_,{R2 with slots:=fun t v hv=>?_}⟩
 obtain⟨u,hu,rfl⟩:=J5 hv;obtain⟨⟨x,hx,hr⟩,hi'⟩:=R2.slots t u hu
 cases u with
 |raw q' n'=>
  by_cases hqn:q'=q/\n'=ys.length
  ·obtain⟨rfl,rfl⟩:=hqn
   simp only[Bf,beq_self_eq_true,Bool.and_self,cond_true];obtain⟨⟨x2,hx2,B',cap',h1,h2,h3⟩,hUq⟩:=R.slots t _ hu;rw[hx]at hx2;cases hx2;rw[hτ]at h1;simp only[Value.slice.injEq,Option.some.injEq,Addr.mk.injEq]at h1;obtain⟨⟨rfl,_⟩,_,rfl⟩:=h1
   refine⟨⟨x,hx,?_,fun t ht=>?_⟩,.inr rfl⟩
   ·rw[h2];exact hdv
   ·cases ht;rw[cj,h2]
  ·have hb:(q'==q&&n'==ys.length)=false:=by
    rw[Bool.eq_false_iff];intro h;simp only[Bool.and_eq_true,beq_iff_eq]at h;exact hqn h
   simp only[Bf,hb,cond_false];exact⟨⟨x,hx,hr⟩,hi'⟩
 |_=>exact⟨⟨x,hx,hr⟩,hi'⟩
theorem K9 (R:Rel P nt n0 w0 π0 U s a w β τ π) {o:Oper} {c:Mt} {id:Nat} (hid:¬ U id) (hc:xOp P o.op=some c) {K:SV→S→Prop} {X:AV→S→Prop} (h:cZ (Pure P) id c K X s) {next:Act→World→Prop} {Q:Exit→Act→World→Prop}
    (hn:∀ v s' x w' β' τ' π',K v s'→RV β' τ' w' π' v x→v.gR (fk U id)→Rel P nt n0 w0 π0 (fk U id) s' a w' β' τ' π'→next (a.put o.dst x) w')
    (hx:∀ p s' w' β' τ' π',X p s'→Rel P nt n0 w0 π0 (fk U id) s' a w' β' τ' π'→Q (.panic (i7 p)) a w'):o.wp P a w next Q:=by
  obtain ⟨dst,op,type,pos,after,guard⟩:=o
  simp only at hc
  have hsub:∀ n,U n→fk U id n:=fun n h=>.inl h
  have fin:∀ {v:SV} {y:Value},(execOp a.eval ⟨dst,op,type,pos,after,guard⟩).run P w=.ok (.value y) w→RV β τ w π v y→v.gR U→K v s→Oper.wp P ⟨dst,op,type,pos,after,guard⟩ a w next Q:=by
    intro v y hr hv hu hK
    unfold Oper.wp
    rw [hr]
    exact hn v s y w β τ π hK hv (SV.sj hsub hu) (R.sub hsub)
  have find:∀ {v:AV} {y:Value},(execOp a.eval ⟨dst,op,type,pos,after,guard⟩).run P w=.ok (.value y) w→DV w π v y→K (.dat v none) s→Oper.wp P ⟨dst,op,type,pos,after,guard⟩ a w next Q :=
    fun {v y} hr hv hK=>fin (v:=.dat v none) hr ⟨hv,fun t ht=>by cases ht⟩ trivial hK
  -- a function is entered that raises
  have raise:∀ {f:Nat} {ids:List Nat} {css css':List (List AV)} {pas:List (Option AV)} {vs:List Value} {p:AV},Sw P f css pas p css'→ids.Nodup→bq s.boxes ids=some css→fh w π pas (ids.map β) vs →
      (execOp a.eval ⟨dst,op,type,pos,after,guard⟩).run P w=.ok (.enter f vs.toArray) w→X p { s with boxes:=d8 ids css' s.boxes }→Oper.wp P ⟨dst,op,type,pos,after,guard⟩ a w next Q:=by
    intro f ids css css' pas vs p hq hnd hcs harg hr hX
    obtain ⟨hca,hl1,_,hq⟩:=hq
    unfold Oper.wp
    rw [hr,Oper.upon_enter]
    refine (hq w π (ids.map β) vs R.eO (R.nodup hnd hcs) (R.p9 hcs) harg).mono ?_
    rintro e w' ⟨π',rfl,hbel,hp1,hp2,hp3,hbx⟩
    obtain ⟨τ',_,R'⟩:=R.wO (fr:=none) hid hnd hcs hl1 hbel hp1 hp2 hp3 hbx DV.gk (fun t ht=>by cases ht)
    exact hx _ _ _ _ _ _ hX R'
  -- a function is entered that takes a token,or leaves one
  have tok:∀ {f:Nat} {ids:List Nat} {css:List (List AV)} {pas:List (Option AV)} {vs:List Value},JM (Pure P) f css pas ids id s.boxes s.live (fun v bx lv=>K v { s with boxes:=bx,live:=lv })→ids.Nodup→bq s.boxes ids=some css→fh w π pas (ids.map β) vs →
      (cg P f=true→(execOp a.eval ⟨dst,op,type,pos,after,guard⟩).run P w=.ok (.enter f vs.toArray) w)→Oper.wp P ⟨dst,op,type,pos,after,guard⟩ a w next Q:=by
    intro f ids css pas vs hT hnd hcs harg hr
    obtain ⟨tg,r,css',tg',hp,hT⟩:=hT
    obtain ⟨qo,hqo,hK⟩:=ah hT
    have hp:MB P f css tg pas r css' tg':=hp
    obtain ⟨hca,hl1,_,hp⟩:=hp
    obtain ⟨tv,htv,hqv⟩:=R.E6 hcs hqo
    unfold Oper.wp
    rw [hr hca,Oper.upon_enter]
    refine (hp w π (ids.map β) vs tv R.eO (R.nodup hnd hcs) (R.p9 hcs) harg htv).mono ?_
    rintro e w' ⟨v,π',tv',rfl,hbel,hp1,hp2,hp3,hkept,hbx,hdv,htk⟩
    obtain ⟨τ',hrv,R'⟩:=R.PC hid hnd hcs hl1 hqv hbel hp1 hp2 hp3 hkept hbx hdv htk
    exact hn _ _ _ _ _ _ _ hK hrv trivial R'
  cases op<;>simp only [xOp] at hc<;>try (cases hc; done)
  case binOp op t x y yt =>
    unfold W0 at hc
    split at hc<;>try (cases hc; done)
    all_goals
      split at hc<;>try (cases hc; done)
      rename_i hs
      simp only [Option.map_eq_some_iff] at hc
      obtain ⟨x',hx',rfl⟩:=hc
      simp only [cZ] at h
      obtain ⟨av,hav,h⟩:=ah h
      obtain ⟨b,hb,hK⟩:=ah h
    · have hr:=J3 (P:=P) (X:=x) (.inl ⟨rfl,rfl⟩) hs hb (R.aF hx' hav)
      exact find (by simp only [execOp]; rw [Sem.run_bind]; refine (congrArg (fun r=>Result.andThen r _) hr).trans ?_; rfl) (.bool _) hK
    · have hr:=J3 (P:=P) (X:=x) (.inr ⟨rfl,rfl⟩) hs hb (R.aF hx' hav)
      exact find (by simp only [execOp]; rw [Sem.run_bind]; refine (congrArg (fun r=>Result.andThen r _) hr).trans ?_; rfl) (.bool _) hK
    · have hr:=J4 (P:=P) (X:=x) (.inl ⟨rfl,rfl⟩) hs hb (R.dh hx' hav).1
      exact find (by simp only [execOp]; rw [Sem.run_bind]; refine (congrArg (fun r=>Result.andThen r _) hr).trans ?_; rfl) (.bool _) hK
    · have hr:=J4 (P:=P) (X:=x) (.inr ⟨rfl,rfl⟩) hs hb (R.dh hx' hav).1
      exact find (by simp only [execOp]; rw [Sem.run_bind]; refine (congrArg (fun r=>Result.andThen r _) hr).trans ?_; rfl) (.bool _) hK
  case makeSlice t l c =>
    split at hc<;>try (cases hc; done)
    rename_i e l' c' ht hl hcc
    split at hc<;>try (cases hc; done)
    rename_i i hi
    split at hc<;>try (cases hc; done)
    rename_i hok
    cases hc
    simp only [Bool.and_eq_true,beq_iff_eq,decide_eq_true_eq,Option.isSome_iff_exists] at hok
    obtain ⟨⟨hz,zv,hzv⟩,hpos⟩:=hok
    simp only [cZ] at h
    obtain ⟨av,hav,h⟩:=ah h
    obtain ⟨li,hli,h⟩:=ah h
    obtain ⟨bv,hbv,h⟩:=ah h
    obtain ⟨ci,hci,hb,hK⟩:=ah h
    obtain ⟨kl,hkl⟩:=R.idx hl hav hli
    obtain ⟨kc,hkc⟩:=R.idx hcc hbv hci
    obtain ⟨b0,b1,b2⟩:=hb
    have b3:ci≤140737488355328:=by
      have:ci * 1≤ci * (i.bytes:Int):=Int.mul_le_mul_of_nonneg_left (by omega) (by omega)
      omega
    have hr:=run_make (P:=P) w t e i zv ht hi hzv kl kc li ci b0 b1 (by rw [Int.mul_comm]; omega) (by omega)
    have hr2:(execOp a.eval ⟨dst,.makeSlice t l c,type,pos,after,guard⟩).run P w=.ok (.value (.slice (some ⟨w.heap.size,0,none⟩) li.toNat ci.toNat)) (w.alloc (.cells (madeCells zv.cells (ci.toNat * i.size)) e)):=by
      simp only [execOp,hkl,hkc,Sem.run_bind,hr,Result.andThen_ok,Sem.run_pure]
    unfold Oper.wp
    rw [hr2]
    exact hn _ _ _ _ _ _ _ hK (show RV β _ _ π (.raw id li.toNat) _ from ⟨w.heap.size,ci.toNat,cj ..,rfl,by omega⟩) (.inr rfl) (R.made hid hi hz (by simp only [maxLen]; omega) (by rw [size_madeCells,hz,Nat.mul_one]))
  case makeInterface t x =>
    split at hc<;>try (cases hc; done)
    rename_i hni
    simp only [Option.map_eq_some_iff] at hc
    obtain ⟨x',hx',rfl⟩:=hc
    simp only [cZ] at h
    obtain ⟨av,hav,hst,hK⟩:=ah h
    simp only [Bool.or_eq_true,not_or,Bool.not_eq_true] at hni
    cases hu:P.underlying t with
    | none=>rw [hu] at hni; simp at hni
    | some d =>
      have hun:(underlying t).run P w=.ok d w:=jB hu
      have hd:∀ ms,d≠.interface ms:=fun ms e=>by subst e; simp [pY,hu] at hni
      refine find (y:=.iface t (a.eval x)) ?_ (.iface t av _ (R.aF hx' hav)) hK
      have:(Instr.makeInterface t (a.eval x)).run P w=.ok (.iface t (a.eval x)) w:=by
        unfold Instr.makeInterface
        simp only [Sem.run_bind,hun,Result.andThen_ok]
        cases d<;>first | exact absurd rfl (hd _) | rfl
      simp only [execOp,Sem.run_bind,this,Result.andThen_ok,Sem.run_pure]
  case makeFunc fn first caps =>
    cases fn<;>simp only [] at hc<;>try (cases hc; done)
    rename_i f
    split at hc<;>try (cases hc; done)
    rename_i hok
    simp only [Bool.and_eq_true] at hok
    simp only [Option.map_eq_some_iff] at hc
    obtain ⟨xs,hxs,rfl⟩:=hc
    simp only [cZ] at h
    obtain ⟨⟨pas,ids⟩,hsv,hK⟩:=ah h
    have hf:first=#[]:=by simpa [Array.isEmpty_iff] using hok.1.1
    subst hf
    have d2:=R.ef (by simpa [gl] using hxs) hsv
    have hr:(execOp a.eval ⟨dst,.makeFunc (.func f) #[] caps,type,pos,after,guard⟩).run P w=.ok (.value (.func (.func f) #[] (caps.map a.eval))) w:=by simp [execOp,Instr.makeFunc]
    refine fin hr (v:=.oF f pas ids) ⟨caps.map a.eval,rfl,by simpa using d2⟩ (fun b hb=>?_) hK
    obtain ⟨t,_,off,hl⟩:=kQ hsv b hb
    exact (R.slots t _ hl).2
  case typeAssert x xt t ok =>
    cases ok<;>simp only [] at hc<;>try (cases hc; done)
    split at hc<;>try (cases hc; done)
    rename_i hni
    split at hc<;>try (cases hc; done)
    rename_i z x' hz hx'
    cases hc
    simp only [cZ] at h
    obtain ⟨av,hav,h⟩:=ah h
    obtain ⟨v,hv,hK⟩:=ah h
    obtain ⟨u,hu,hd⟩:=PN (P:=P) (xt:=xt) hz (by simpa only [Bool.not_eq_true] using hni) hv (R.aF hx' hav)
    exact find (by simp only [execOp,Sem.run_bind,hu,Result.andThen_ok,Sem.run_pure]) hd hK
  case panic x =>
    simp only [Option.map_eq_some_iff] at hc
    obtain ⟨x',hx',rfl⟩:=hc
    simp only [cZ] at h
    obtain ⟨av,hav,hra,hX⟩:=ah h
    have hd:=R.aF hx' hav
    cases av<;>simp only [ju] at hra<;>try (cases hra; done)
    rename_i t b
    have he:a.eval x=.iface t (wF b):=by
      generalize a.eval x=u at hd
      cases hd with
      | iface _ _ v hd=>rw [PM hd hra]
    unfold Oper.wp
    have hr:(execOp a.eval ⟨dst,.panic x,type,pos,after,guard⟩).run P w=.halt (.panic (.iface t (wF b))) w:=by
      simp [execOp,he,Instr.panic,goPanic]
    rw [hr]
    exact hx _ _ _ _ _ _ hX (R.sub hsub)
  case call cl =>
    obtain ⟨callee,args,argTypes⟩:=cl
    have hc0:=hc
    have e1:(args.toList.map a.eval).toArray=args.map a.eval:=Array.toList_inj.1 (by simp)
    simp only [Sv] at hc
    split at hc<;>try (cases hc; done)
    · rename_i f
      split at hc<;>try (cases hc; done)
      rename_i hcall
      simp only [Option.map_eq_some_iff] at hc
      obtain ⟨xs,hxs,hce⟩:=hc
      have hcc:=MR (P:=P) (c:=⟨.value (.func f),args,argTypes⟩) rfl hcall
      have hr:(execOp a.eval ⟨dst,.call ⟨.value (.func f),args,argTypes⟩,type,pos,after,guard⟩).run P w=.ok (.enter f (args.toList.map a.eval).toArray) w:=by
        rw [e1]; simp [execOp,resolve,Act.eval,Deferred.ofValue,invoke,fu hcall]
      split at hce
      · rename_i hp
        subst hce
        simp only [cZ] at h
        rcases h with h|h
        · exact ue R hid (by simp only [Su]; rw [hcc,if_pos hp]; simp [hxs]) h hn
        · obtain ⟨⟨pas,ids⟩,hsv,hnd,h⟩:=ah h
          obtain ⟨css,hcs,h⟩:=ah h
          rcases h with ⟨p,css',hq,hX⟩|hT
          · exact raise hq (fq hnd) hcs (R.ef (by simpa [gl] using hxs) hsv) hr hX
          · exact tok hT (fq hnd) hcs (R.ef (by simpa [gl] using hxs) hsv) fun _=>hr
      · rename_i hp
        subst hce
        simp only [cZ] at h
        rcases h with h|h
        · exact ue R hid (by simp only [Su]; rw [hcc,if_neg hp]; simp [hxs]) h hn
        · obtain ⟨as,has,h⟩:=ah h
          have hd:=R.dQ (by simpa [gl] using hxs) has
          rcases h with ⟨cs,hcn,hK⟩|⟨p,hq,hX⟩
          · obtain ⟨_,hcn⟩:=hcn
            unfold Oper.wp
            rw [hr,Oper.upon_enter]
            refine (hcn w π _ R.eO hd).mono ?_
            rintro e w' ⟨B,π',rfl,hB,hbel,hp1,hp2,hp3,hbx⟩
            have R':=R.PO hid hB hbel hp1 hp2 hp3 hbx
            exact hn _ _ _ _ _ _ _ hK (show RV (DN β id B) τ _ π' (.ptr id 0) _ by simp [RV,cj]) (.inr rfl) R'
          · exact raise (ids:=[]) (css:=[]) hq List.nodup_nil rfl (vK hd) hr hX
    · rename_i g
      simp only [Option.map_eq_some_iff] at hc
      obtain ⟨xs,hxs,rfl⟩:=hc
      simp only [cZ] at h
      have hgo:dr (.tmp g)=some (.t g):=rfl
      have old:bN (Pure P) id (if vD P argTypes.toList then .fQ (.t g) xs else .eP (.t g) xs) K s→Oper.wp P ⟨dst,.call ⟨.value (.tmp g),args,argTypes⟩,type,pos,after,guard⟩ a w next Q:=fun h =>
        ue R hid (by simp only [Su,Gx,hgo,hxs]) h hn
      split at h
      · rename_i f as bs hl
        obtain ⟨⟨us,he,hcap⟩,_⟩:=R.dh hgo hl
        obtain ⟨⟨pas,ids⟩,hsv,hnd,h⟩:=ah h
        obtain ⟨css,hcs,h⟩:=ah h
        have hnd':=fq hnd
        have harg:=yP (R.ef (by simpa [gl] using hxs) hsv) hcap
        rw [← List.map_append] at harg
        have hr:cg P f=true→(execOp a.eval ⟨dst,.call ⟨.value (.tmp g),args,argTypes⟩,type,pos,after,guard⟩).run P w=.ok (.enter f (args.toList.map a.eval++us.toList).toArray) w:=fun hca=>by
          have e2:(args.toList.map a.eval++us.toList).toArray=args.map a.eval++us:=Array.toList_inj.1 (by simp)
          rw [e2]; simp [execOp,resolve,he,Deferred.ofValue,invoke,fu hca]
        rcases h with ⟨r,fr,css',hp,hK⟩|⟨p,css',hq,hX⟩|hT
        · have hp:wJ P f css (pas++as) r fr css':=hp
          obtain ⟨hca,hl1,_,hp⟩:=hp
          unfold Oper.wp
          rw [hr hca,Oper.upon_enter]
          refine (hp w π ((ids++bs).map β) _ R.eO (R.nodup hnd' hcs) (R.p9 hcs) harg).mono ?_
          rintro e w' ⟨v,π',rfl,hbel,hp1,hp2,hp3,hbx,hdv,htk⟩
          obtain ⟨τ',hrv,R'⟩:=R.wO hid hnd' hcs hl1 hbel hp1 hp2 hp3 hbx hdv htk
          exact hn _ _ _ _ _ _ _ hK hrv (by cases fr with | none=>trivial | some e=>exact .inr rfl) R'
        · exact raise hq hnd' hcs harg (hr hq.1) hX
        · exact tok hT hnd' hcs harg hr
      · exact old h
    · split at hc<;>try (cases hc; done)
      rename_i t t' x y hT hX
      split at hc<;>try (cases hc; done)
      rename_i e x' y' ht hx' hy'
      split at hc<;>try (cases hc; done)
      rename_i hsz
      cases hc
      simp only [cZ] at h
      obtain ⟨p,hp,h⟩:=ah h
      cases p<;>try (exact h.elim)
      rename_i q n
      obtain ⟨b,hb,h⟩:=ah h
      obtain ⟨ys,hys,⟨hyl,hy1⟩,hlive,hK⟩:=ah h
      obtain ⟨⟨B,cap,hτ,hv,hcap⟩,hUq⟩:=R.dh hx' hp
      have hsz':(P.info? e).map (·.size)=some 1:=by simpa [gj] using hsz
      obtain ⟨i,hi,hz⟩:∃ i,P.info? e=some i∧i.size=1:=by
        cases hq:P.info? e with
        | none=>simp [hq] at hsz'
        | some i=>exact ⟨i,rfl,by simpa [hq] using hsz'⟩
      obtain ⟨_,htok⟩:=R.live q e hlive
      rcases htok with hnil|⟨B',len,cap',cur,i',hsl,hok,hh,_,hcm,hi',hcur,hfree⟩
      · rw [hτ] at hnil; cases hnil
      rw [hτ] at hsl
      simp only [Value.slice.injEq,Option.some.injEq,Addr.mk.injEq] at hsl
      obtain ⟨⟨rfl,_⟩,rfl,rfl⟩:=hsl
      have hii:i'=i:=by rw [hi] at hi'; exact (Option.some.inj hi').symm
      subst hii
      rw [hz,Nat.mul_one] at hcur
      subst hyl
      have hdy:=R.aF hy' hb
      have hfree':∀ o,¬ π B o:=fun o=>hfree o (by omega)
      have eT:argTypes=#[t,t']:=Array.toList_inj.1 (by simpa using hT)
      have eX:args=#[x,y]:=Array.toList_inj.1 (by simpa using hX)
      subst eT eX
      have go:∀ (cs:List Value) (w':World),jt w π ys.flatten cs→(∀ r∈ys,∀ x∈r,x.scalar=true)→w'=w.setRow B (cur.toList.take 0++cs++cur.toList.drop (0 + cs.length)).toArray →
          (Builtin.copy_ #[t,t'] type #[a.eval x,a.eval y]).run P w=.ok (goInt ys.length) w'→Oper.wp P ⟨dst,.call ⟨.builtin .copy,#[x,y],#[t,t']⟩,type,pos,after,guard⟩ a w next Q:=by
        intro cs w' hd hsc hw hrun
        obtain ⟨τ',π',R'⟩:=R.copied hid hi hz hlive hτ hcap hh hok hcm hcur hfree' hy1 hd hsc
        have hr:(execOp a.eval ⟨dst,.call ⟨.builtin .copy,#[x,y],#[t,t']⟩,type,pos,after,guard⟩).run P w=.ok (.value (goInt ys.length)) w':=by
          simp [execOp,resolve,invoke,builtin,hrun]
        unfold Oper.wp
        rw [hr]
        subst hw
        exact hn (.dat (.int .i64 ys.length) none) _ _ _ _ _ _ hK ⟨.int .i64 _,fun t ht=>by cases ht⟩ trivial R'
      cases b<;>simp only [rowsOf,Option.some.injEq,reduceCtorEq] at hys
      · subst hys
        generalize hvy:a.eval y=vy at hdy
        cases hdy
        refine go [] w ⟨rfl,fun i a v h=>by simp at h⟩ (by simp) ?_ ?_
        · have:=setRow_self w B cur e (0,0) hh
          simpa using this.symm
        · rw [hv,hvy]
          exact run_copy_nil (P:=P) w t t' type e _ _ _ ht (by rw [hsz']; rfl)
      · rename_i l
        subst hys
        generalize hvy:a.eval y=vy at hdy
        have row:∀ (A:Addr) (m c:Nat) (cs:List Value),vy=.slice (some A) m c→m=l.length→cs.length=m→(∀ j u,cs[j]? = some u→w.cell? (A.add j)=some u)→(∀ u∈cs,u.oneCell'=true)→jt w π l.flatten cs→(∀ r∈l,∀ x∈r,x.scalar=true) →
            Oper.wp P ⟨dst,.call ⟨.builtin .copy,#[x,y],#[t,t']⟩,type,pos,after,guard⟩ a w next Q:=by
          intro A m c cs e1 e2 e3 hsrc h1c hd hsc
          refine go cs _ hd hsc rfl ?_
          rw [hv,hvy,e1]
          have:=run_copy_row (P:=P) w t t' type e B 0 l.length cap A m c cur e cs ht hsz' hh (by rw [e3,e2]; exact (Nat.min_self _).symm) hsrc (by rw [hcur]; omega) h1c
          rw [this,e3,e2]
        cases hdy with
        | Mm A=>exact row A 0 0 [] rfl rfl rfl (fun j u h=>by simp at h) (by simp) ⟨rfl,fun i a v h=>by simp at h⟩ (by simp)
        | sl _ B2 off2 cap2 z2 f2 g1 g2 g3 g4 g5 g6 =>
          obtain ⟨hm,news,k1,k2,k3,k4,k5⟩:=DV.news (DV.sl l B2 off2 cap2 z2 f2 g1 g2 g3 g4 g5 g6) hy1
          exact row _ _ _ news rfl rfl (by rw [k1,Nat.mul_one]) k2 k3 k4 k5
def J6(C:aS) (id:Nat) (o:XO) (K:S->Prop) (X:AV->S->Prop) (s:S):Prop:=eN s o.g (cZ C id o.op (fun v s'=>K (s'.put o.dst v)) X s) (K (s.put o.dst .undef))
theorem IY{C:aS} {base i:Nat} {o:XO} {r:List XO} {K:S->Prop} {X:AV->S->Prop} {s:S}:eE C base i (o::r) K X s=J6 C (base+i) o (eE C base (i+1) r K X) X s:=rfl
theorem La{ops:Array Oper} {o:Oper} {c:XO} (hc:wI P ops o=some c):c.dst=o.dst:=by
 unfold wI at hc;split at hc
 ·split at hc<;>try(cases hc;done)
  cases hc;rfl
 ·simp only[Option.map_eq_some_iff]at hc
  obtain⟨c0,h0,rfl⟩:=hc;exact Ee h0
theorem GN(R:Rel P nt n0 w0 π0 U s a w β τ π) {ops:Array Oper} {o:Oper} {c:XO} {id:Nat} (hid:¬U id) (hc:wI P ops o=some c) (hfit:∀d,c.dst=some d->d<nt) {K:S->Prop} {X:AV->S->Prop} (h:J6 (Pure P) id c K X s)
  {next:Act->World->Prop} {Q:Exit->Act->World->Prop}
  (hn:∀s' x w' β' τ' π',K s'->Rel P nt n0 w0 π0 (fk U id) s' (a.put o.dst x) w' β' τ' π'->next (a.put o.dst x) w')
  (hx:∀p s' w' β' τ' π',X p s'->Rel P nt n0 w0 π0 (fk U id) s' a w' β' τ' π'->Q (.panic (i7 p)) a w'):
  if Region.wanted o (yielded ops a.tmps)then o.wp P a w next Q else next (a.put o.dst undef) w:=by
 unfold wI at hc;split at hc;rotate_left
 ·simp only[Option.map_eq_some_iff]at hc
  obtain⟨c0,h0,rfl⟩:=hc;exact Bw R hid h0 hfit h hn
 rename_i cop hop
 split at hc<;>try(cases hc;done)
 rename_i g hg;cases hc;simp only at hfit
 have run:cZ (Pure P) id cop (fun v s'=>K (s'.put o.dst v)) X s->o.wp P a w next Q:=fun h=>
  K9 R hid hop h (fun v s' x w' β' τ' π' hK hv hu R'=>hn _ _ _ _ _ _ hK (R'.put o.dst hfit hv hu)) hx
 have skip:K (s.put o.dst .undef)->next (a.put o.dst undef) w:=fun h=>
  hn _ _ _ _ _ _ h ((R.sub fun n h=>.inl h).put o.dst hfit rfl trivial)
 unfold J6 eN at h
 rcases zF hg with⟨h1,h2⟩|⟨j,want,t,h1,h2,h3⟩
 ·subst h2
  simp only at h;simp only[Region.wanted,h1,if_true];exact run h
 ·subst h3
  simp only at h
  cases hl:lk t s.slots with
  |none=>simp[hl]at h
  |some v=>
   obtain⟨⟨x,hx',hrv⟩,hui⟩:=R.slots t v hl;simp only[hl]at h
   have hy:∀b,x=.bool b->yielded ops a.tmps j=some b:=fun b hb=>by
    unfold yielded;rw[h2];simp[hx',hb]
   cases v with
   |ptr b o=>exact h.elim
   |rp cs=>exact h.elim
   |vs _ _ _ _=>exact h.elim
   |oF _ _ _=>exact h.elim
   |raw _ _=>exact h.elim
   |undef=>
    have hxu:x=undef:=hrv
    have hy':yielded ops a.tmps j=none:=by
     unfold yielded;rw[h2];simp[hx',hxu,undef]
    simp only[Region.wanted,h1,hy'];exact skip h
   |dat av q=>
    cases av<;>try(exact h.elim)
    rename_i b
    have hxb:x=.bool b:=hrv.1.sn
    simp only[Region.wanted,h1,hy b hxb]
    by_cases hb:b=want
    ·subst hb;simp;exact run (h.1 rfl)
    ·have hb':b=!want:=by cases b<;>cases want<;>first|rfl|exact absurd rfl hb
     have:(some b==some want)=false:=by subst hb';cases want<;>rfl
     rw[this];exact skip (h.2 hb')
theorem GO{c:Call}:xOp P (.defer c)=none:=rfl
theorem GP(R:Rel P nt n0 w0 π0 U s a w β τ π) {ops:Array Oper} {o:Oper} {c:XO} {i id:Nat} (ho:ops[i]? =some o) (hid:¬U id) (hc:wI P ops o=some c) (hfit:∀d,c.dst=some d->d<nt) {K:S->Prop} {X:AV->S->Prop} (h:J6 (Pure P) id c K X s)
  {next:Act->World->Prop} {Q:Exit->Act->World->Prop}
  (hn:∀s' x w' β' τ' π',K s'->Rel P nt n0 w0 π0 (fk U id) s' (a.put o.dst x) w' β' τ' π'->next (a.put o.dst x) w')
  (hx:∀p s' w' β' τ' π',X p s'->Rel P nt n0 w0 π0 (fk U id) s' a w' β' τ' π'->Q (.panic (i7 p)) a w') {r:Option Nat} {n:Nat}:wpOpIn (FW r) n P ops Q i next a w:=by
 have:=GN R hid hc hfit h hn hx
 have hnd:∀c,o.op≠.defer c:=by
  intro c' e;unfold wI at hc;rw[e,GO]at hc;simp only[Option.map_eq_some_iff]at hc;obtain⟨c0,hc,_⟩:=hc;unfold uR at hc;rw[e]at hc;simp[Po,Bh,Su]at hc
 unfold wpOpIn;simp only[ho];split
 ·rename_i hw;rw[if_pos hw]at this;exact Sz this hnd
 ·rename_i hw;rw[if_neg hw]at this;exact⟨fun _ _=>trivial,this⟩
theorem sF{ops:Array Oper}:∀{l:List Oper} {cs:List XO},si P ops l=some cs->cs.length=l.length/\∀(i:Nat) (o:Oper) (c:XO),l[i]? =some o->cs[i]? =some c->wI P ops o=some c
 |[],cs,h=>by simp[si]at h;subst h;exact⟨rfl,fun i o c h=>by simp at h⟩
 |o::l,cs,h=>by
  unfold si at h
  split at h<;>try(cases h;done)
  rename_i c cs' h1 h2;cases h;obtain⟨e,hs⟩:=sF h2
  refine⟨by simp[e],fun i o' c' ho hc=>?_⟩
  cases i with
  |zero=>simp at ho hc;subst ho;subst hc;exact h1
  |succ i=>exact hs i o' c' (by simpa using ho) (by simpa using hc)
theorem oo{n:Nat}:∀{l:List XO},mM n l=true->∀(i:Nat) (c:XO) (d:Nat),l[i]? =some c->c.dst=some d->d<n
 |[],h,i,c,d,hi,hd=>by simp at hi
 |o::l,h,i,c,d,hi,hd=>by
  simp only[mM,Bool.and_eq_true]at h
  cases i with
  |zero=>
   simp at hi;subst hi
   have:=h.1
   rw[hd]at this
   simpa using this
  |succ i=>exact oo h.2 i c d (by simpa using hi) hd
theorem Eg{c:XO} {d:Nat}:∀{l:List XO},c∈l->c.dst=some d->d∈Gy l
 |[],h,_=>by cases h
 |o::l,h,hd=>by
  simp only[Gy,List.mem_append]
  rcases List.mem_cons.1 h with rfl|h
  ·exact .inl (by rw[hd];simp)
  ·exact .inr (Eg h hd)
theorem sG{ops:Array Oper} {cos:List XO} {base:Nat} (i0:Nat) (hlen:cos.length=ops.size) (hcos:∀(i:Nat) (o:Oper) (c:XO),i0<=i->ops[i]? =some o->cos[i]? =some c->wI P ops o=some c) (hfit:∀(i:Nat) (c:XO) (d:Nat),cos[i]? =some c->c.dst=some d->d<nt)
  {T:Nat->Prop} {a0:Act} (hT:∀(i:Nat) (c:XO) (d:Nat),cos[i]? =some c->c.dst=some d->¬T d) {r:Option Nat} {m:Nat}
  {K:S->Prop} {X:AV->S->Prop} {Q:Exit->Act->World->Prop} (hQ:∀s a w β τ π U,(∀n,U n->n<base+ops.size)->K s->rR T a0 a->Rel P nt n0 w0 π0 U s a w β τ π->Q .normal a w)
  (hX:∀p s a w β τ π U,(∀n,U n->n<base+ops.size)->X p s->rR T a0 a->Rel P nt n0 w0 π0 U s a w β τ π->Q (.panic (i7 p)) a w):
  ∀(rest:List XO) (i:Nat) (s:S) (a:Act) (w:World) (β:Nat->Nat) (τ:Nat->Value) (π:Nat->Nat->Prop) (U:Nat->Prop),i0<=i->cos.drop i=rest->i+rest.length=ops.size->(∀n,U n->n<base+i)->rR T a0 a->Rel P nt n0 w0 π0 U s a w β τ π->
   eE (Pure P) base i rest K X s->wpOpsIn (FW r) m P ops Q (List.range' i rest.length) a w
 |[],i,s,a,w,β,τ,π,U,hi0,hd,hn,hU,hp,R,h=>hQ s a w β τ π U (fun n h=>by have:=hU n h;simp at hn;omega) h hp R
 |o::rest,i,s,a,w,β,τ,π,U,hi0,hd,hn,hU,hp,R,h=>by
  have hio:cos[i]? =some o:=by
   have:(cos.drop i)[0]? =some o:=by rw[hd];rfl
   simpa using this
  have hilt:i<ops.size:=by simp at hn;omega
  have hpi:ops[i]? =some ops[i]:=by simp[hilt]
  rw[IY]at h;simp only[List.length_cons,List.range'_succ];rw[wpOpsIn_cons]
  refine GP R hpi (fun h=>by have:=hU _ h;omega) (hcos i _ o hi0 hpi hio) (hfit i o · hio) h (fun s' x w' β' τ' π' hK R'=>?_) (fun p s' w' β' τ' π' hXp R'=>hX p s' a w' β' τ' π' _ (fun n h=>?_) hXp hp R')
  ·refine sG i0 hlen hcos hfit hT hQ hX rest (i+1) s' _ w' β' τ' π' _ (by omega) ?_ (by simp at hn;omega) (fun n h=>?_) (hp.put (fun d hd=>hT i o d hio (by rw[La (hcos i _ o hi0 hpi hio)];exact hd)) x) R' hK
   ·rw[<-List.tail_drop,hd];rfl
   ·rcases h with h|h
    ·have:=hU n h;omega
    ·omega
  ·rcases h with h|h
   ·have:=hU n h;omega
   ·omega
theorem uU{id:Nat} {ops:Array Oper} {cos:List XO} (hc:si P ops ops.toList=some cos) (hfit:mM nt cos=true)
  (R:Rel P nt n0 w0 π0 U s a w β τ π) (hU:∀n,U n->n<s.nx) {K:S->Prop} {X:AV->S->Prop} {Q:Exit->Act->World->Prop} (h:eE (Pure P) s.nx 0 cos K X s)
  {T:Nat->Prop} (hT:∀d,d∈Gy cos->¬T d) {r:Option Nat} {m:Nat}
  (hQ:∀s' a' w β τ π U,(∀n,U n->n<s.nx+cos.length)->K s'->rR T a a'->Rel P nt n0 w0 π0 U s' a' w β τ π->Q .normal a' w)
  (hX:∀p s' a' w β τ π U,(∀n,U n->n<s.nx+cos.length)->X p s'->rR T a a'->Rel P nt n0 w0 π0 U s' a' w β τ π->Q (.panic (i7 p)) a' w):(Code.region id ops false).wpIn (FW r) m P Q a w:=by
 obtain⟨hlen0,hcos0⟩:=sF hc
 have hlen:cos.length=ops.size:=by simpa using hlen0
 rw[hlen]at hQ hX;refine wpIn_region ?_
 have:=sG (r:=r) (m:=m) 0 hlen (fun i o c _ h1 h2=>hcos0 i o c (by simpa using h1) h2) (oo hfit) (fun i c d hi hd=>hT d (Eg (List.mem_of_getElem? hi) hd)) hQ hX cos 0 s a w β τ π U (Nat.le_refl _) rfl (by simpa using hlen) (by simpa using hU) (.refl _ _) R h
 rw[hlen]at this;rw[List.range_eq_range'];exact this
end
open Go.RowKit (Below)
theorem MS:∀{l:List (Nat×SV)} {t:Nat} {v:SV},lk t l=some v->(t,v)∈l
 |[],t,v,h=>by cases h
 |(m,u)::r,t,v,h=>by
  simp only[lk,mq]at h;split at h
  ·rename_i e;cases h;subst e;exact List.mem_cons_self ..
  ·exact List.mem_cons_of_mem _ (MS h)
theorem wX:∀{l:List (Nat×bV)} {t:Nat} {v:bV},b9 t l=some v->(t,v)∈l
 |[],t,v,h=>by cases h
 |(m,u)::r,t,v,h=>by
  simp only[b9,mq]at h;split at h
  ·rename_i e;cases h;subst e;exact List.mem_cons_self ..
  ·exact List.mem_cons_of_mem _ (wX h)
theorem qd:∀{l:List (Nat×Nat)} {t:Nat} {v:Nat},d7 t l=some v->(t,v)∈l
 |[],t,v,h=>by cases h
 |(m,u)::r,t,v,h=>by
  simp only[d7,mq]at h;split at h
  ·rename_i e;cases h;subst e;exact List.mem_cons_self ..
  ·exact List.mem_cons_of_mem _ (qd h)
theorem zH{m:List (Nat×Nat)} {nx:Nat} {a:List (Nat×SV)}:∀{l:List (Nat×SV)},gu m nx a l->∀t v,(t,v)∈l->∃u,lk t a=some u/\AA m nx u v
 |[],h,t,v,hm=>by cases hm
 |(t0,v0)::r,h,t,v,hm=>by
  rcases List.mem_cons.1 hm with e|e
  ·cases e;exact ah h.1
  ·exact zH h.2 t v e
theorem vL{m:List (Nat×Nat)} {nx:Nat} {a:List (Nat×Nat)}:∀{l:List (Nat×Nat)},lE m nx a l->∀o q,(o,q)∈l->d7 o a=some (Gk m q)/\q<nx
 |[],h,t,v,hm=>by cases hm
 |(t0,v0)::r,h,t,v,hm=>by
  rcases List.mem_cons.1 hm with e|e
  ·cases e;exact h.1
  ·exact vL h.2 t v e
theorem kR{m:List (Nat×Nat)} {nx:Nat} {a:List (Nat×bV)}:∀{l:List (Nat×bV)},ij m nx a l->∀b x,(b,x)∈l->∃y,b9 b a=some y/\y.cells=x.cells/\lE m nx y.tags x.tags/\b<nx
 |[],h,t,v,hm=>by cases hm
 |(t0,v0)::r,h,t,v,hm=>by
  rcases List.mem_cons.1 hm with e|e
  ·cases e;obtain⟨y,h1,h2⟩:=ah h.1;exact⟨y,h1,h2⟩
  ·exact kR h.2 t v e
theorem mP{m:List (Nat×Nat)} {nx:Nat} {a:List (Nat×Nat)}:∀{l:List (Nat×Nat)},pW m nx a l->∀q e,(q,e)∈l->d7 (Gk m q) a=some e/\q<nx
 |[],h,t,v,hm=>by cases hm
 |(t0,v0)::r,h,t,v,hm=>by
  rcases List.mem_cons.1 hm with e|e
  ·cases e;exact h.1
  ·exact mP h.2 t v e
theorem Eh{α:Type} {f:α->Nat}:∀{l:List α},(l.map f).Nodup->∀x y,x∈l->y∈l->f x=f y->x=y
 |[],h,x,y,hx,hy,e=>by cases hx
 |a::l,h,x,y,hx,hy,e=>by
  simp only[List.map_cons,List.nodup_cons]at h
  rcases List.mem_cons.1 hx with kx|kx<;>rcases List.mem_cons.1 hy with ky|ky
  ·rw[kx,ky]
  ·exact absurd (by rw[<-kx,e];exact List.mem_map_of_mem ky) h.1
  ·exact absurd (by rw[<-ky,<-e];exact List.mem_map_of_mem kx) h.1
  ·exact Eh h.2 x y kx ky e
section
variable{P:Program} {nt:Nat} {n0:gb} {w0:World} {π0:Nat->Nat->Prop} {s s1:S} {a:Act} {w:World}
def dI(P:Program) (nt:Nat) (n0:gb) (w0:World) (π0:Nat->Nat->Prop) (s:S) (a:Act) (w:World):Prop:=
 4<=s.nx/\∃β τ π U,(∀n,U n->n<s.nx)/\Rel P nt n0 w0 π0 U s a w β τ π
theorem Rel.le {U:Nat→Prop} {β:Nat→Nat} {τ:Nat→Value} {π:Nat→Nat→Prop} (R:Rel P nt n0 w0 π0 U s a w β τ π) (h:Le s s1):dI P nt n0 w0 π0 s1 a w:=by
  obtain ⟨h0,m,h1,h2,h3,h4⟩:=h
  refine ⟨h0,β,fun q=>τ (Gk m q),π,fun n=>n < s1.nx,fun n h=>h,?_⟩
  refine { size:=R.size,slots:=?_,boxes:=?_,inj:=?_,live:=?_,cq:=?_,cH:=?_,below:=R.below,eS:=R.eS,eO:=R.eO,eF:=R.eF,dc:=R.dc,mj:=R.mj,jf:=fun k hk=>by show k < s1.nx; omega,kept:=R.kept }
  · intro t v hv
    obtain ⟨u,hu,hle⟩:=zH h1 t v (MS hv)
    obtain ⟨⟨x,hx,hr⟩,hU⟩:=R.slots t u hu
    cases u with
    | dat au qu =>
      cases v with
      | dat av qv =>
        cases qv with
        | none =>
          have e:au=av:=by cases qu<;>exact hle
          subst e
          exact ⟨⟨x,hx,hr.1,fun t ht=>by cases ht⟩,trivial⟩
        | some q =>
          cases qu with
          | none=>exact hle.elim
          | some q0 =>
            obtain ⟨e,e2,hq⟩:=hle
            subst e
            refine ⟨⟨x,hx,hr.1,fun t ht=>?_⟩,hq⟩
            cases ht
            show x=τ (Gk m q)
            rw [← e2]; exact hr.2 q0 rfl
      | _=>cases qu<;>exact hle.elim
    | ptr b o =>
      cases v with
      | ptr b' o' =>
        obtain ⟨e1,e2,e3⟩:=hle
        subst e1 e2
        exact ⟨⟨x,hx,hr⟩,e3⟩
      | _=>exact hle.elim
    | rp cs =>
      cases v with
      | rp cs' =>
        have e:cs=cs':=hle
        subst e
        exact ⟨⟨x,hx,hr⟩,trivial⟩
      | _=>exact hle.elim
    | undef =>
      cases v with
      | undef=>exact ⟨⟨x,hx,hr⟩,trivial⟩
      | _=>exact hle.elim
    | vs _ _ _ _=>cases v<;>exact hle.elim
    | oF f as bs =>
      cases v with
      | oF f' as' bs' =>
        obtain ⟨e1,e2,e3,h4⟩:=hle
        subst e1 e2 e3
        exact ⟨⟨x,hx,hr⟩,h4⟩
      | _=>exact hle.elim
    | raw q n=>cases v<;>exact hle.elim
  · intro b x hb
    obtain ⟨y,hy,hcs,htg,hlt⟩:=kR h2 b x (wX hb)
    obtain ⟨_,hn,⟨cur,el,c1,c2,c3,c4,c5⟩,hq⟩:=R.boxes b y hy
    refine ⟨hlt,hn,⟨cur,el,c1,by rw [← hcs]; exact c2,by rw [← hcs]; exact c3,fun o q ho=>?_,c5⟩,fun o q ho=>?_⟩
    · exact c4 o _ (vL htg o q (qd ho)).1
    · exact (vL htg o q (qd ho)).2
  · intro b b' x x' hb hb' e
    obtain ⟨y,hy,_⟩:=kR h2 b x (wX hb)
    obtain ⟨y',hy',_⟩:=kR h2 b' x' (wX hb')
    exact R.inj b b' y y' hy hy' e
  · intro q e hq
    obtain ⟨h5,h6⟩:=mP h3 q e (qd hq)
    exact ⟨h6,(R.live _ e h5).2⟩
  · intro q q' e e' B hq hq' hB hB'
    have hm:=qd hq
    have hm':=qd hq'
    obtain ⟨h5,_⟩:=mP h3 q e hm
    obtain ⟨h5',_⟩:=mP h3 q' e' hm'
    have:=R.cq _ _ e e' B h5 h5' hB hB'
    have:=Eh h4 _ _ hm hm' this
    exact congrArg Prod.fst this
  · intro q e b x hq hb
    obtain ⟨h5,_⟩:=mP h3 q e (qd hq)
    obtain ⟨y,hy,_⟩:=kR h2 b x (wX hb)
    exact R.cH _ e b y h5 hy
variable{U:Nat->Prop} {β:Nat->Nat} {τ:Nat->Value} {π:Nat->Nat->Prop}
theorem Rel.SA(R:Rel P nt n0 w0 π0 U s a w β τ π) {w1:World} (hb:uS n0 w1 w) (hn:n0.n<=w1.heap.size) (hk:∀b o,π0 b o->w.cell? ⟨b,o,none⟩=w1.cell? ⟨b,o,none⟩):Rel P nt n0 w1 π0 U s a w β τ π:={R with below:=hb,eS:=hn,kept:=hk}
theorem Rel.Th(R:Rel P nt n0 w0 π0 U s a w β τ π):Rel P nt n0 w π0 U s a w β τ π:=R.SA (.refl _ _) (Nat.le_trans R.eS R.below.size) (fun _ _ _=>rfl)
theorem dI.below(R:dI P nt n0 w0 π0 s a w):uS n0 w0 w:=let ⟨_,_,_,_,_,_,R0⟩:=R;R0.below
theorem dI.eS(R:dI P nt n0 w0 π0 s a w):n0.n<=w0.heap.size:=let ⟨_,_,_,_,_,_,R0⟩:=R;R0.eS
theorem dI.SA(R:dI P nt n0 w0 π0 s a w) {w1:World} (hb:uS n0 w1 w) (hn:n0.n<=w1.heap.size) (hk:∀b o,π0 b o->w.cell? ⟨b,o,none⟩=w1.cell? ⟨b,o,none⟩):dI P nt n0 w1 π0 s a w:=let ⟨h,β,τ,π,U,hU,R⟩:=R;⟨h,β,τ,π,U,hU,R.SA hb hn hk⟩
theorem dI.kept(R:dI P nt n0 w0 π0 s a w):∀b o,π0 b o->w.cell? ⟨b,o,none⟩=w0.cell? ⟨b,o,none⟩:=let ⟨_,_,_,_,_,_,R0⟩:=R;R0.kept
theorem dI.back{π1:Nat->Nat->Prop} {w1:World} (R:dI P nt n0 w1 π1 s a w) (h1:∀b o,π0 b o->π1 b o) (h2:∀b o,π1 b o->π0 b o\/n0.ok b) (hb:uS n0 w0 w) (hn:n0.n<=w0.heap.size) (hk:∀b o,π0 b o->w.cell? ⟨b,o,none⟩=w0.cell? ⟨b,o,none⟩):dI P nt n0 w0 π0 s a w:=
 let ⟨h,β,τ,π,U,hU,R⟩:=R
 ⟨h,β,τ,π,U,hU,{R with below:=hb,eS:=hn,kept:=hk,eF:=fun b o h=>R.eF b o (h1 b o h),dc:=fun b o h=>(R.dc b o h).elim (h2 b o) .inr}⟩
theorem dI.Th(R:dI P nt n0 w0 π0 s a w):dI P nt n0 w π0 s a w:=let ⟨h,β,τ,π,U,hU,R⟩:=R;⟨h,β,τ,π,U,hU,R.Th⟩
theorem dI.PR(R:dI P nt n0 w0 π0 s a w) {a':Act} (h:a'.tmps=a.tmps):dI P nt n0 w0 π0 s a' w:=
 let ⟨h4,β,τ,π,U,hU,R⟩:=R
 ⟨h4,β,τ,π,U,hU,{R with size:=by rw[h];exact R.size,slots:=fun t v hv=>by rw[h];exact R.slots t v hv}⟩
theorem dI.old(R:dI P nt n0 w0 π0 s a w) {w':World} (hb:Below w.heap.size w w'):dI P nt n0 w0 π0 s a w':=
 let ⟨h,β,τ,π,U,hU,R⟩:=R
 ⟨h,β,τ,π,U,hU,R.frame (fun _ _=>rfl) (fun _ _=>rfl) (fun _ h=>h) (fun _ _ h=>h) (fun _ _ h=>.inl h) (fun b o h=>Nat.lt_of_lt_of_le (R.eO b o h) hb.size) hb⟩
theorem jh{w:World} {l:Nat} {o o':Obj} (h:w.heap[l]? =some o) (hc:o.isCells=false) (hc':o'.isCells=false) (x:Addr):(w.putObj l o').cell? x=w.cell? x:=by
 have hlt:=(Array.getElem?_eq_some_iff.1 h).1
 by_cases e:x.block=l
 ·unfold World.cell?
  rw[e,World.putObj_heap_same hlt,h]
  cases o<;>cases o'<;>first|(cases hc;done)|(cases hc';done)|rfl
 ·exact World.cell?_of_block (World.putObj_heap_other e)
theorem uS.putObj{n:gb} {w w':World} (h:uS n w w') {l:Nat} (hl:w.heap.size<=l) (hn:n.n<=l) (o:Obj):uS n w (w'.putObj l o):=
 ⟨h.os,h.tape,h.output,by simpa using h.size,fun k hk hx=>(World.putObj_heap_other (by omega)).trans (h.block k hk hx),fun k x hk hx=>(World.putObj_heap_other (by have:=(Array.getElem?_eq_some_iff.1 hk).1;omega)).trans (h.others k x hk hx)⟩
theorem dI.putObj(R:dI P nt n0 w0 π0 s a w) {l:Nat} {o o':Obj} (h:w.heap[l]? =some o) (hc:o.isCells=false) (hc':o'.isCells=false):dI P nt n0 (w.putObj l o') π0 s a (w.putObj l o'):=by
 obtain⟨h4,β,τ,π,U,hU,R⟩:=R
 have hcl:∀b o,π b o->(w.putObj l o').cell? ⟨b,o,none⟩=w.cell? ⟨b,o,none⟩:=fun b x _=>jh h hc hc' _
 have hoth:∀(B:Nat) (cur:Array Value) (el:TypeId) (f:Nat×Nat),w.heap[B]? =some (.cells cur el f)->(w.putObj l o').heap[B]? =w.heap[B]?:=fun B cur el f hB=>World.putObj_heap_other (fun e=>by subst e;rw[h]at hB;cases hB;cases hc)
 refine⟨h4,β,τ,π,U,hU,{R with slots:=?_,boxes:=?_,live:=?_,below:=.refl _ _,eS:=?_,eO:=?_,kept:=fun _ _ _=>rfl}⟩
 ·intro t v hv
  obtain⟨⟨x,hx,hr⟩,hu⟩:=R.slots t v hv
  exact⟨⟨x,hx,RV.mono (fun _ _=>rfl) (fun _ _=>rfl) (fun _ _ h=>h) hcl hu hr⟩,hu⟩
 ·intro b x hb
  obtain⟨g1,g2,g3,g4⟩:=R.boxes b x hb
  have g3':=g3
  obtain⟨cur,el,hh,_,_,_,hn⟩:=g3'
  exact⟨g1,g2,g3.keep (fun _ _=>rfl) g4 (hoth _ _ _ _ hh) (fun _ _ h=>h) hcl hn,g4⟩
 ·intro q e hq
  obtain⟨g1,g2⟩:=R.live q e hq
  refine⟨g1,g2.keep (fun B hB=>?_) (fun B o _ h=>h)⟩
  rcases g2 with e|⟨B',len,cap,cur,i,e,_,hh,_⟩
  ·rw[e]at hB;cases hB
  ·rw[e]at hB;cases hB;exact hoth _ _ _ _ hh
 ·simpa using Nat.le_trans R.eS R.below.size
 ·intro b o hb;simpa using R.eO b o hb
theorem Ff{wr:List Nat} {t:Nat}:∀{l:List (Nat×SV)} {v:SV},lk t (DM wr l)=some v->¬t∈wr/\lk t l=some v
 |[],v,h=>by cases h
 |(m,u)::r,v,h=>by
  simp only[DM]at h
  cases hc:wr.contains m with
  |true=>
   rw[hc]at h
   obtain⟨h1,h2⟩:=Ff (l:=r) h
   refine⟨h1,?_⟩
   have hne:¬t=m:=fun e=>h1 (by subst e;simpa using hc)
   simp only[lk,mq,hne,if_false];exact h2
  |false=>
   rw[hc]at h;simp only[cond_false,lk,mq]at h⊢
   by_cases e:t=m
   ·rw[if_pos e]at h⊢
    exact⟨fun hm=>by subst e;simp at hc;exact hc hm,h⟩
   ·rw[if_neg e]at h⊢
    exact Ff (l:=r) h
theorem dI.cut(R:dI P nt n0 w0 π0 s a w) {wr:List Nat} {a1:Act} (hk:∀t,¬t∈wr->a.tmps[t]? =a1.tmps[t]?) (hs:a1.tmps.size=nt):dI P nt n0 w0 π0 (Bg wr s) a1 w:=by
 obtain⟨h4,β,τ,π,U,hU,R⟩:=R
 refine⟨h4,β,τ,π,U,hU,{R with size:=hs,slots:=fun t v hv=>?_}⟩
 obtain⟨h1,h2⟩:=Ff hv;rw[<-hk t h1];exact R.slots t v h2
theorem zI:∀{ps:List Nat} {xs:List AV} {s:S} {t:Array Value},(∀p∈ps,p<nt)->(∀x∈xs,je x=true)->Rel P nt n0 w0 π0 U s {tmps:=t,defers:=[]} w β τ π->
  Rel P nt n0 w0 π0 U (oH ps xs s) {tmps:=(ps.zip (xs.map wF)).foldl (fun t p=>t.setIfInBounds p.1 p.2) t,defers:=[]} w β τ π
 |[],xs,s,t,_,_,R=>by cases xs<;>exact R
 |p::ps,[],s,t,_,_,R=>R
 |p::ps,x::xs,s,t,hp,hx,R=>by
  have R1:=R.put (some p) (v:=.dat x none) (x:=wF x) (fun q hq=>by cases hq;exact hp p List.mem_cons_self) ⟨.flat (hx x List.mem_cons_self),fun t ht=>by cases ht⟩ trivial
  exact zI (ps:=ps) (xs:=xs) (fun q hq=>hp q (List.mem_cons_of_mem _ hq)) (fun y hy=>hx y (List.mem_cons_of_mem _ hy)) R1
theorem BD:∀{ps:List Nat} {xs:List AV} {s:S},(oH ps xs s).nx=s.nx
 |[],xs,s=>by cases xs<;>rfl
 |p::ps,[],s=>rfl
 |p::ps,x::xs,s=>by rw[oH,BD];rfl
theorem qN:∀{l:List (Nat×Value)} {t:Array Value} {k:Nat},(∀p∈l,p.1≠k)->(l.foldl (fun t p=>t.setIfInBounds p.1 p.2) t)[k]? =t[k]?
 |[],t,k,_=>rfl
 |p::l,t,k,h=>by
  rw[List.foldl_cons,qN (fun q hq=>h q (List.mem_cons_of_mem _ hq))]
  exact Array.getElem?_setIfInBounds_ne (h p List.mem_cons_self)
def Ei(r:Option Nat) (w:World):Prop:=∀l,r=some l->∃r₀,w.heap[l]? =some (.loop r₀)
def MT(D:Nat):Deferred:={target:=.collected D,args:=#[]}
def Marks(dd:List Deferred) (n0:gb) (a:Act) (w:World):Prop:=∃Ds:List Nat,a.defers=Ds.map MT++dd/\Ds.Nodup/\∀D∈Ds,n0.n<=D/\w.heap[D]? =some (.deferred (some []))
def vM(P:Program) (nt:Nat) (n0:gb) (w0:World) (π0:Nat->Nat->Prop) (r:Option Nat) (T:Nat->Prop) (a0:Act) (s:S) (a:Act) (w:World):Prop:=
 dI P nt n0 w0 π0 s a w/\Ei r w/\Marks a0.defers n0 a w/\∀t,T t->a.tmps[t]? =a0.tmps[t]?
def AE(P:Program) (nt:Nat) (n0:gb) (w0:World) (π0:Nat->Nat->Prop) (r:Option Nat) (T:Nat->Prop) (a0:Act) (QA:Exit->S->Prop) (e:Exit) (a:Act) (w:World):Prop:=∃s,QA e s/\vM P nt n0 w0 π0 r T a0 s a w
theorem dI.down(R:dI P nt n0 w0 π0 s a w) {F:S->Prop} (h:Eng.down F s):∃s',F s'/\dI P nt n0 w0 π0 s' a w:=by
 obtain⟨s1,⟨hle,hF⟩|hF⟩:=h
 ·obtain⟨_,β,τ,π,U,hU,R⟩:=R
  exact⟨s1,hF,R.le hle⟩
 ·exact⟨s,hF,R⟩
def BE(L:List (Nat×Obj)) (w:World):Prop:=∀p∈L,w.heap[p.1]? =some p.2
theorem BE.others{L:List (Nat×Obj)} {w w':World} (h:BE L w) (hc:∀p∈L,p.2.isCells=false) (ho:∀(k:Nat) (o:Obj),w.heap[k]? =some o->o.isCells=false->w'.heap[k]? =some o):BE L w':=
 fun p hp=>ho _ _ (h p hp) (hc p hp)
theorem BE.putObj{L:List (Nat×Obj)} {w:World} (h:BE L w) {l:Nat} (hl:∀p∈L,p.1≠l) (o:Obj):BE L (w.putObj l o):=
 fun p hp=>(World.putObj_heap_other (hl p hp)).trans (h p hp)
theorem ir{w w':World} (h:Below w.heap.size w w') (k:Nat) (o:Obj) (hk:w.heap[k]? =some o):w'.heap[k]? =some o:=(h.block k (Array.getElem?_eq_some_iff.1 hk).1).trans hk
theorem Ei.others{r:Option Nat} {w w':World} (h:Ei r w) (ho:∀(k:Nat) (o:Obj),w.heap[k]? =some o->o.isCells=false->w'.heap[k]? =some o):Ei r w':=
 fun l hl=>let ⟨r₀,hr⟩:=h l hl;⟨r₀,ho _ _ hr rfl⟩
theorem Marks.others{dd:List Deferred} {n0:gb} {a a':Act} {w w':World} (h:Marks dd n0 a w) (ha:a'.defers=a.defers) (ho:∀(k:Nat) (o:Obj),w.heap[k]? =some o->o.isCells=false->w'.heap[k]? =some o):Marks dd n0 a' w':=
 let ⟨Ds,h1,h2,h3⟩:=h;⟨Ds,ha.trans h1,h2,fun D hD=>⟨(h3 D hD).1,ho _ _ (h3 D hD).2 rfl⟩⟩
theorem Lb{P:Program} {r:Option Nat} {w:World} (hr:Ei r w) (fn:FuncId) (tmps:Array Value) (ps:Array Tmp) (as bd:Code):
  ∃(l:Nat) (Ds:List Nat) (W1:World) (dd:Nat),(Instr.enterLoop fn tmps ps as bd r).run P w=.ok (l,Ds.map MT) W1/\w.heap.size<=l/\
   W1.heap[l]? =some (.loop {state:=.ready,pending:=none,fn,tmps,params:=ps,assign:=as,body:=bd,defers:=dd})/\Below w.heap.size w W1/\Ds.Nodup/\
   ∀D∈Ds,w.heap.size<=D/\D≠l/\W1.heap[D]? =some (.deferred (some [])):=by
 cases r with
 |none=>
  refine⟨w.heap.size+1,[w.heap.size],_,w.heap.size,run_enterLoop_outer fn tmps ps as bd,by omega,?_,?_,by simp,?_⟩
  ·have:=World.alloc_heap_new (w.alloc (.deferred (some []))) (.loop {state:=.ready,pending:=none,fn,tmps,params:=ps,assign:=as,body:=bd,defers:=w.heap.size})
   rwa[World.size_alloc]at this
  ·exact(((Below.refl _ w).alloc (Nat.le_refl _) _).alloc (by simp) _)
  ·intro D hD
   simp only[List.mem_singleton]at hD;subst hD
   exact⟨Nat.le_refl _,by omega,(Below.heap_alloc _ _ _ (by simp)).trans (World.alloc_heap_new w _)⟩
 |some l₀=>
  obtain⟨r₀,h⟩:=hr l₀ rfl
  exact⟨w.heap.size,[],_,r₀.defers,run_enterLoop_inner h fn tmps ps as bd,Nat.le_refl _,World.alloc_heap_new w _,(Below.refl _ w).alloc (Nat.le_refl _) _,by simp,by simp⟩
theorem DV.Ti{π:Nat->Nat->Prop} {gf:Nat} {caps:List AV} {v:Value} (h:DV w π (.fn (.func gf) [] caps) v):∃us:Array Value,v=.func (.func gf) #[] us/\jt w π caps us.toList:=by
 cases h with
 |fn f as vs bs us h1 h2 h3 h4=>
  have:vs=#[]:=by simpa using h1.symm
  subst this
  exact⟨us,rfl,by simpa using h2,fun i a v ha hv=>h4 i a v ha (by simpa using hv)⟩
section
variable{nt:Nat} {n0:gb} {π0:Nat->Nat->Prop} {T:Nat->Prop} {a0:Act} {r:Option Nat} {n:Nat} {QA:Exit->S->Prop}
theorem IZ{g:Operand} {ps:Array Tmp} {as bd:Code} {g':bB} {ca cb:aT} {wr:List Nat} (hg:dr g=some g') (hps:∀t∈ps.toList,t<nt/\t∈wr) (hwa:∀t∈ca.writes,t∈wr) (hwb:∀t∈cb.writes,t∈wr)
  (ihA:∀(π0:Nat->Nat->Prop) (T:Nat->Prop) (a0:Act),(∀t,T t->¬t∈ca.writes)->∀(r:Option Nat) (n:Nat) (w0:World) (QA:Exit->S->Prop) (s:S) (a:Act) (w:World),vM P nt n0 w0 π0 r T a0 s a w->aw (Pure P) ca QA s->as.wpIn (FW r) n P (AE P nt n0 w0 π0 r T a0 QA) a w)
  (ihB:∀(π0:Nat->Nat->Prop) (T:Nat->Prop) (a0:Act),(∀t,T t->¬t∈cb.writes)->∀(r:Option Nat) (n:Nat) (w0:World) (QA:Exit->S->Prop) (s:S) (a:Act) (w:World),vM P nt n0 w0 π0 r T a0 s a w->aw (Pure P) cb QA s->bd.wpIn (FW r) n P (AE P nt n0 w0 π0 r T a0 QA) a w)
  (R:vM P nt n0 w0 π0 r T a0 s a w) (h:aw (Pure P) (.mI g' ps.toList wr ca cb) QA s):(Code.rangeFunc g ps as bd).wpIn (FW r) n P (AE P nt n0 w0 π0 r T a0 QA) a w:=by
 simp only[aw]at h;obtain⟨gv,hgv,xs,hit,hlen,F,hF0,hFg,hround,hdone⟩:=ah h;clear h;obtain⟨RN,RL,⟨Ds1,hm1,hm2,hm3⟩,RK⟩:=R
 have hsize:a.tmps.size=nt:=let ⟨_,_,_,_,_,_,R⟩:=RN;R.size
 obtain⟨gf,caps,rfl,hcall,hflat,hiter⟩:=hit;obtain⟨s0,hs0,RN0⟩:=RN.down hF0
 obtain⟨π1,us,hus,husd,hπ0,hπ1,hπl,RN1⟩:∃(π1:Nat->Nat->Prop) (us:Array Value),a.eval g=.func (.func gf) #[] us/\jt w π1 caps us.toList/\(∀b o,π0 b o->π1 b o)/\(∀b o,π1 b o->π0 b o\/n0.ok b)/\(∀b o,π1 b o->b<w.heap.size)/\dI P nt n0 w π1 s0 a w:=by
  obtain⟨h4,β,τ,π,U,hU,R⟩:=RN0
  obtain⟨us,h1,h2⟩:=DV.Ti (R.aF hg (hFg 0 s0 hs0))
  exact⟨π,us,h1,h2,R.eF,R.dc,R.eO,h4,β,τ,π,U,hU,{R with below:=.refl _ _,eS:=Nat.le_trans R.eS R.below.size,kept:=fun _ _ _=>rfl,eF:=fun _ _ h=>h,dc:=fun _ _ h=>.inl h}⟩
 refine wpIn_rangeFunc ?_;intro fn _
 obtain⟨l,Ds0,W1,dd,hent,hl,hrec1,hb1,hnd0,hDs0⟩:=Lb (P:=P) RL fn a.tmps ps as bd
 obtain⟨rec,hrec⟩:∃rec:LoopState->Option Code->Loop,rec=fun st pe=>{state:=st,pending:=pe,fn,tmps:=a.tmps,params:=ps,assign:=as,body:=bd,defers:=dd}:=⟨_,rfl⟩
 have hrec1:W1.heap[l]? =some (.loop (rec .ready none)):=by rw[hrec];exact hrec1
 -- what lies pinned
 obtain⟨L,hL⟩:∃L:List (Nat×Obj),L=(Ds0++Ds1).map (fun D=>(D,Obj.deferred (some [])))++(match r with|some l₀=>(match w.heap[l₀]? with|some o=>[(l₀,o)]|none=>[])|none=>[]):=⟨_,rfl⟩
 have hLc:∀p∈L,p.2.isCells=false:=by
  intro p hp;rw[hL,List.mem_append]at hp
  rcases hp with hp|hp
  ·obtain⟨D,_,rfl⟩:=List.mem_map.1 hp;rfl
  ·cases r with
   |none=>cases hp
   |some l₀=>
    obtain⟨r₀,hr⟩:=RL l₀ rfl;simp only[hr,List.mem_singleton]at hp;subst hp;rfl
 have hLl:∀p∈L,p.1≠l:=by
  intro p hp;rw[hL,List.mem_append]at hp
  rcases hp with hp|hp
  ·obtain⟨D,hD,rfl⟩:=List.mem_map.1 hp
   rcases List.mem_append.1 hD with hD|hD
   ·exact(hDs0 D hD).2.1
   ·have:=(Array.getElem?_eq_some_iff.1 (hm3 D hD).2).1
    simp only;omega
  ·cases r with
   |none=>cases hp
   |some l₀=>
    obtain⟨r₀,hr⟩:=RL l₀ rfl;simp only[hr,List.mem_singleton]at hp;subst hp
    have:=(Array.getElem?_eq_some_iff.1 hr).1
    simp only;omega
 have hL1:BE L W1:=by
  intro p hp;rw[hL,List.mem_append]at hp
  rcases hp with hp|hp
  ·obtain⟨D,hD,rfl⟩:=List.mem_map.1 hp
   rcases List.mem_append.1 hD with hD|hD
   ·exact(hDs0 D hD).2.2
   ·exact ir hb1 _ _ (hm3 D hD).2
  ·cases r with
   |none=>cases hp
   |some l₀=>
    obtain⟨r₀,hr⟩:=RL l₀ rfl;simp only[hr,List.mem_singleton]at hp;subst hp;exact ir hb1 _ _ hr
 have hLloop:∀W,BE L W->Ei r W:=by
  intro W hW l₀ e;subst e;obtain⟨r₀,hr⟩:=RL l₀ rfl
  exact⟨r₀,hW (l₀,.loop r₀) (by rw[hL];simp[hr])⟩
 have hLmarks:∀W,BE L W->Marks a0.defers n0 {a with defers:=Ds0.map MT++a.defers} W:=by
  intro W hW
  refine⟨Ds0++Ds1,by simp[hm1],?_,fun D hD=>⟨?_,hW (D,_) (by rw[hL];exact List.mem_append_left _ (List.mem_map.2 ⟨D,hD,rfl⟩))⟩⟩
  ·refine List.nodup_append.2 ⟨hnd0,hm2,fun x hx y hy e=>?_⟩
   subst e
   have h1:=(hDs0 x hx).1
   have h2:=(Array.getElem?_eq_some_iff.1 (hm3 x hy).2).1
   omega
  ·rcases List.mem_append.1 hD with hD|hD
   ·exact Nat.le_trans (Nat.le_trans RN.eS RN.below.size) (hDs0 D hD).1
   ·exact(hm3 D hD).1
 have hl0:w0.heap.size<=l:=Nat.le_trans RN.below.size hl
 have hln:n0.n<=l:=Nat.le_trans RN.eS hl0
 have home:∀(s':S) (W2:World),dI P nt n0 w π1 s' a W2->∀{o:Loop},W2.heap[l]? =some (.loop o)->∀(o':Loop),dI P nt n0 w0 π0 s' a (W2.putObj l (.loop o')):=by
  intro s' W2 R' o ho o'
  refine(R'.putObj ho rfl rfl).back hπ0 hπ1 ((RN.below.trans R'.below).putObj hl0 hln _) RN.eS fun b x hb=>?_
  rw[jh ho rfl rfl,R'.kept b x (hπ0 b x hb)];exact RN.kept b x hb
 refine⟨l,Ds0.map MT,W1,{target:=.fn (.func gf) us,args:=#[.func (.yield l) #[] #[]]},W1,gf,#[.func (.yield l) #[] #[]]++us,W1,hent,?_,fun _ _=>trivial,?_,fun h=>by simp[FW,Fence.wide]at h,?_⟩
 ·simp only[resolve,hus];simp[go_sem]
 ·simp[invoke,go_sem,fu hcall]
 refine By.2 ?_
 have:=hiter l
  (fun i W=>(∃s',F i s'/\dI P nt n0 w π1 s' a W)/\BE L W/\W.heap[l]? =some (.loop (rec .ready none)))
  (fun W=>∃c s',((c=.ret/\QA .ret s')\/∃id,c=.exit id/\QA (.exit id) s')/\dI P nt n0 w π1 s' a W/\BE L W/\W.heap[l]? =some (.loop (rec .done (some c))))
  W1 π1 us.toList (fun b o h=>Nat.lt_of_lt_of_le (hπl b o h) hb1.size) (husd.mono (fun _ _ h=>h) (fun b o h=>Below.tZ hb1 (hπl b o h))) ?_ ?_ ?_ ?_ ⟨⟨s0,hs0,RN1.old hb1⟩,hL1,hrec1⟩
 ·refine(by simpa using this:Calls P gf (#[.func (.yield l) #[] #[]]++us) W1 _).mono ?_
  rintro e W2 ⟨⟨v,rfl⟩,⟨⟨s',hs',R'⟩,hp,hr⟩|⟨c,s',hq,R',hp,hr⟩⟩
  ·refine⟨none,_,by have:=run_endLoop (P:=P) hr (by rw[hrec];simp);rw[hrec]at this;exact this,s',hdone s' hs',?_⟩
   have hp2:=hp.putObj hLl (.loop {rec .ready none with state:=.exhausted})
   rw[hrec]at hp2;exact⟨(home _ _ R' hr _).PR rfl,hLloop _ hp2,hLmarks _ hp2,RK⟩
  ·refine⟨some c,_,by have:=run_endLoop (P:=P) hr (by rw[hrec];simp);rw[hrec]at this;exact this,?_⟩
   have hp2:=hp.putObj hLl (.loop {rec .done (some c)with state:=.exhausted})
   rw[hrec]at hp2
   have RT:vM P nt n0 w0 π0 r T a0 s' {a with defers:=Ds0.map MT++a.defers} (W2.putObj l (.loop {rec .done (some c)with state:=.exhausted})):=by
    rw[hrec];exact⟨(home _ _ R' hr _).PR rfl,hLloop _ hp2,hLmarks _ hp2,RK⟩
   rw[hrec]at RT
   rcases hq with⟨rfl,hq⟩|⟨id,rfl,hq⟩
   ·exact wpIn_ret ⟨s',hq,RT⟩
   ·exact wpIn_exit ⟨s',hq,RT⟩
 ·rintro i W ⟨⟨s',hs',R'⟩,_,_⟩ b o hb
  rw[R'.kept b o hb];exact(Below.tZ hb1 (hπl b o hb)).symm
 ·rintro i W W' ⟨⟨s',hs',R'⟩,hp,hr⟩ hb
  exact⟨⟨s',hs',R'.old hb⟩,hp.others hLc (fun k o hk _=>ir hb k o hk),ir hb _ _ hr⟩
 ·rintro W W' ⟨c,s',hq,R',hp,hr⟩ hb
  exact⟨c,s',hq,R'.old hb,hp.others hLc (fun k o hk _=>ir hb k o hk),ir hb _ _ hr⟩
 ·rintro m i x W hx ⟨⟨s',hs',R'⟩,hp,hr⟩
  have hxl:=hlen x (List.mem_of_getElem? hx)
  have hy:=run_yield (P:=P) (args:=(x.map wF).toArray) hr (by rw[hrec];simpa using hxl)
  rw[hrec]at hy;refine⟨fn,_,as,bd,hy,roundIn_of_wpIn trivial ?_⟩
  have etm:(ps.zip (x.map wF).toArray).foldl (fun tmps p=>tmps.setIfInBounds p.1 p.2) a.tmps=(ps.toList.zip (x.map wF)).foldl (fun t p=>t.setIfInBounds p.1 p.2) a.tmps:=by
   rw[<-Array.foldl_toList];simp[Array.toList_zip]
  have RP:dI P nt n0 W π1 (oH ps.toList x s') {tmps:=(ps.toList.zip (x.map wF)).foldl (fun t p=>t.setIfInBounds p.1 p.2) a.tmps,defers:=[]} W:=by
   obtain⟨h4,β,τ,π,U,hU,R2⟩:=(R'.PR (a':={tmps:=a.tmps,defers:=[]}) rfl).Th
   refine⟨by rw[BD];exact h4,β,τ,π,U,fun k hk=>by rw[BD];exact hU k hk,?_⟩
   exact zI (fun p hp=>(hps p hp).1) (hflat x (List.mem_of_getElem? hx)) R2
  have hkeep:∀t,¬t∈wr->((ps.toList.zip (x.map wF)).foldl (fun t p=>t.setIfInBounds p.1 p.2) a.tmps)[t]? =a.tmps[t]?:=
   fun t ht=>qN (fun p hp e=>ht (e▸(hps p.1 (List.of_mem_zip hp).1).2))
  have hA:=ihA π1 (fun t=>¬t∈wr) ⟨a.tmps,[]⟩ (fun t ht hw=>ht (hwa t hw)) (some l) m W _ _ _ _ ⟨RP,fun l' e=>by cases e;exact⟨_,hr⟩,⟨[],rfl,.nil,by simp⟩,hkeep⟩ (hround i x s' hx hs')
  have hA:as.wpIn (Fence.wide.inRound l) m P (AE P nt n0 W π1 (some l) (fun t=>¬t∈wr) ⟨a.tmps,[]⟩ (r9 (aw (Pure P) cb (IC wr (F (i+1)) QA)))) {tmps:=(ps.zip (x.map wF).toArray).foldl (fun tmps p=>tmps.setIfInBounds p.1 p.2) a.tmps,defers:=[]} W:=by rw[etm];exact hA
  refine wpIn_mono hA ?_
  rintro e a₁ w₁ ⟨s1,hq1,RN2,_,hmk1,hk1⟩
  cases e<;>try exact hq1.elim
  have hr1:=RN2.below.others _ _ hr rfl
  have hp1:=hp.others hLc RN2.below.others
  refine⟨_,run_beginRound hr1 (by rw[hrec]),?_⟩
  have hlt1:=(Array.getElem?_eq_some_iff.1 hr1).1
  have hr2:(w₁.putObj l (.loop {rec .ready none with state:=.busy})).heap[l]? =some (.loop {rec .ready none with state:=.busy}):=World.putObj_heap_same hlt1
  have hp2:=hp1.putObj hLl (.loop {rec .ready none with state:=.busy})
  have RN4:=RN2.putObj hr1 rfl (o':=.loop {rec .ready none with state:=.busy}) rfl
  have hmk2:Marks [] n0 a₁ (w₁.putObj l (.loop {rec .ready none with state:=.busy})):=by
   obtain⟨Ds,h1,h2,h3⟩:=hmk1
   refine⟨Ds,h1,h2,fun D hD=>⟨(h3 D hD).1,(World.putObj_heap_other (fun e=>?_)).trans (h3 D hD).2⟩⟩
   subst e
   have:=(h3 D hD).2
   rw[hr1]at this;cases this
  have hbl2:uS n0 w (w₁.putObj l (.loop {rec .ready none with state:=.busy})):=(R'.below.trans RN2.below).putObj hl hln _
  have hB:=ihB π1 (fun t=>¬t∈wr) ⟨a.tmps,[]⟩ (fun t ht hw=>ht (hwb t hw)) (some l) m (w₁.putObj l (.loop {rec .ready none with state:=.busy})) (IC wr (F (i+1)) QA) s1 a₁ _ ⟨RN4,fun l' e=>by cases e;exact⟨_,hr2⟩,hmk2,hk1⟩ hq1
  refine wpIn_mono (show bd.wpIn (Fence.wide.inRound l) m P (AE P nt n0 (w₁.putObj l (.loop {rec .ready none with state:=.busy})) π1 (some l) (fun t=>¬t∈wr) ⟨a.tmps,[]⟩ (IC wr (F (i+1)) QA)) a₁ _ from hB) ?_
  rintro e a3 W3 ⟨s3,hq3,RN3,_,_,hk3⟩
  have hr3:=RN3.below.others _ _ hr2 rfl
  have hp3:=hp2.others hLc RN3.below.others
  have hbl3:=hbl2.trans RN3.below
  have fin:∀(jump:Option Code),(Instr.endRound l jump).run P W3=.ok (.bool jump.isNone) (W3.putObj l (.loop (rec (if jump.isNone then .ready else .done) jump)))/\
    (W3.putObj l (.loop (rec (if jump.isNone then .ready else .done) jump))).heap[l]? =some (.loop (rec (if jump.isNone then .ready else .done) jump)):=fun jump=>by
   have:=run_endRound (P:=P) jump hr3
   rw[hrec]at this⊢;exact⟨this,World.putObj_heap_same (Array.getElem?_eq_some_iff.1 hr3).1⟩
  have back:∀(s4:S),dI P nt n0 (w₁.putObj l (.loop {rec .ready none with state:=.busy})) π1 s4 a W3->∀st pe,dI P nt n0 w π1 s4 a (W3.putObj l (.loop (rec st pe))):=fun s4 R4 st pe=>
   (R4.putObj hr3 rfl rfl).SA (hbl3.putObj hl hln _) RN1.eS fun b o hb=>by
    rw[jh hr3 rfl rfl,R4.kept b o hb,jh hr1 rfl rfl,RN2.kept b o hb,R'.kept b o hb]
  cases e with
  |normal=>
   obtain⟨s4,hs4,R4⟩:=(RN3.cut (wr:=wr) (a1:=a) hk3 hsize).down hq3
   obtain⟨f1,f2⟩:=fin none;exact⟨_,_,f1,.inl ⟨rfl,⟨s4,hs4,back s4 R4 _ _⟩,hp3.putObj hLl _,f2⟩⟩
  |ret=>
   obtain⟨f1,f2⟩:=fin (some .ret)
   exact⟨_,_,f1,.inr ⟨rfl,.ret,_,.inl ⟨rfl,hq3⟩,back _ (RN3.cut (wr:=wr) (a1:=a) hk3 hsize) _ _,hp3.putObj hLl _,f2⟩⟩
  |exit id=>
   obtain⟨f1,f2⟩:=fin (some (.exit id))
   exact⟨_,_,f1,.inr ⟨rfl,.exit id,_,.inr ⟨id,rfl,hq3⟩,back _ (RN3.cut (wr:=wr) (a1:=a) hk3 hsize) _ _,hp3.putObj hLl _,f2⟩⟩
  |_=>exact hq3.elim
end
theorem vM.sub{π0:Nat->Nat->Prop} {r:Option Nat} {T:Nat->Prop} {a0:Act} (R:vM P nt n0 w0 π0 r T a0 s a w) {a':Act} {w':World} {s':S} (hp:rR T a a') (RN:dI P nt n0 w π0 s' a' w'):vM P nt n0 w0 π0 r T a0 s' a' w':=
 ⟨RN.SA (R.1.below.trans RN.below) R.1.eS (fun b o h=>(RN.kept b o h).trans (R.1.kept b o h)),R.2.1.others RN.below.others,R.2.2.1.others hp.1 RN.below.others,fun t ht=>(hp.2 t ht).trans (R.2.2.2 t ht)⟩
theorem vM.down{π0:Nat->Nat->Prop} {r:Option Nat} {T:Nat->Prop} {a0:Act} (R:vM P nt n0 w0 π0 r T a0 s a w) {F:S->Prop} (h:Eng.down F s):∃s',F s'/\vM P nt n0 w0 π0 r T a0 s' a w:=
 let ⟨s',h1,h2⟩:=R.1.down h;⟨s',h1,h2,R.2⟩
theorem BF{mo:Bool}:∀(c:Code) (cc:aT),bJ mo P c=some cc->∀l,(findLabel c l).isSome=(cc.after l).isSome:=by
 intro c
 induction c with
 |seq x y ihx ihy=>
  intro cc hc l;simp only[bJ]at hc
  split at hc<;>try(cases hc;done)
  rename_i cx cy hcx hcy
  have hx:=ihx cx hcx l
  have hy:=ihy cy hcy l
  cases hc
  have key:(findLabel (.seq x y) l).isSome=(match cx.after l with|some r=>some (aT.join r cy)|none=>cy.after l).isSome:=by
   simp only[findLabel]
   cases h1:findLabel x l<;>cases h2:cx.after l<;>simp_all
  split<;>exact key
 |label l'=>intro cc hc l;cases hc;simp only[findLabel,aT.after];split<;>rfl
 |skip=>intro cc hc l;cases hc;rfl
 |region id ops kP=>
  intro cc hc l;simp only[bJ]at hc;split at hc
  ·simp only[Option.map_eq_some_iff]at hc
   obtain⟨cos,_,rfl⟩:=hc;rfl
  split at hc<;>try(cases hc;done)
  split at hc
  ·split at hc
   ·split at hc<;>try(cases hc;done)
    cases hc;rfl
   ·split at hc<;>try(cases hc;done)
    cases hc;rfl
  ·cases hc;rfl
 |cond cd x y ihx ihy=>
  intro cc hc l;simp only[bJ]at hc
  split at hc<;>try(cases hc;done)
  cases hc;rfl
 |block id c ih=>intro cc hc l;simp only[bJ,Option.map_eq_some_iff]at hc;obtain⟨c',hc',rfl⟩:=hc;rfl
 |loop c ih=>intro cc hc l;simp only[bJ,Option.map_eq_some_iff]at hc;obtain⟨c',hc',rfl⟩:=hc;rfl
 |exit id=>intro cc hc l;cases hc;rfl
 |ret=>intro cc hc l;cases hc;rfl
 |goto l'=>intro cc hc l;cases hc;rfl
 |scope c ih=>
  intro cc hc l;simp only[bJ]at hc
  split at hc<;>try(cases hc;done)
  split at hc<;>try(cases hc;done)
  simp only[Option.map_eq_some_iff]at hc;obtain⟨r,_,rfl⟩:=hc;rfl
 |rangeFunc g ps as bd ihA ihB=>
  intro cc hc l;simp only[bJ]at hc
  split at hc<;>try(cases hc;done)
  split at hc<;>try(cases hc;done)
  cases hc;rfl
 |_=>intro cc hc;cases hc
section
variable{F:Fence} {m:Nat} {Q:Exit->Act->World->Prop}
theorem GQ{b:Frame} {k:List Item} {cs:List Frame} {c:Code}:step P (lone (b.atR a (.code (.scope c)::k)) cs w)=.next (lone (b.atR a (.code c:: .inScope c::k)) cs w):=
 step_lone_go (by simp[stepG,stepG.exec,Frame.atR])
theorem DO{b:Frame} {k:List Item} {cs:List Frame} {c:Code}:step P (lone (b.atR a (.inScope c::k)) cs w)=.next (lone (b.atR a k) cs w):=
 step_lone_go (by simp[stepG,stepG.exec,Frame.atR])
theorem I0{c rest:Code} {l:Nat} (hf:findLabel c l=some rest) (G:Act->World->Prop)
  (h:c.wpIn F m P (fun e a w=>match e with| .goto l'=>l'=l/\G a w|e=>Q e a w) a w)
  (hr:∀a w,G a w->rest.wpIn F m P (Exit.noGoto Q) a w):(Code.scope c).wpIn F m P Q a w:=by
 intro b k cs hro hb hroom
 have h0:(lone (b.atR a (.code (.scope c)::k)) cs w).fenced P F:=fenced_calm hb hroom rfl
 have leave:∀{e:Exit} {a₁:Act} {w₁:World} {m1:Machine},StepsIn (Machine.fenced P F) P (lone (b.atR a (.code (.scope c)::k)) cs w) m1->(∀l,e≠.goto l)->ArrivesIn (Machine.fenced P F) P m1 b (.inScope c::k) cs e a₁ w₁->
   ArrivesIn (Machine.fenced P F) P (lone (b.atR a (.code (.scope c)::k)) cs w) b k cs e a₁ w₁:=by
  intro e a₁ w₁ m1 hs hne harr
  cases e with
  |normal=>exact hs.trans (StepsIn.trans harr (.one (fenced_calm hb hroom rfl) DO))
  |exit id=>exact⟨fun k' hk=>hs.trans (harr.1 k' (by simpa[exitTo]using hk)),fun hr' hk=>let ⟨k₁,h1,h2⟩:=harr.2 hr' (by simpa[exitTo]using hk);⟨k₁,h1,hs.trans h2⟩⟩
  |goto l=>exact absurd rfl (hne l)
  |ret=>exact .of_steps hs harr
  |panic ch=>exact .of_steps hs harr
  |outgrown=>exact .of_steps hs harr
 have hstart:StepsIn (Machine.fenced P F) P (lone (b.atR a (.code (.scope c)::k)) cs w) (lone (b.atR a (.code c:: .inScope c::k)) cs w):=.one h0 GQ
 obtain⟨e,a₁,w₁,hq,harr⟩:=h b (.inScope c::k) cs hro hb hroom
 have other:(∀l,e≠.goto l)->Q e a₁ w₁->∃e a' w',Q e a' w'/\ArrivesIn (Machine.fenced P F) P (lone (b.atR a (.code (.scope c)::k)) cs w) b k cs e a' w':=fun hne hq=>⟨e,a₁,w₁,hq,leave hstart hne harr⟩
 cases e with
 |goto l'=>
  obtain⟨rfl,hG⟩:=hq
  have hto:=harr.1 (.code rest:: .inScope c::k) (by simp[gotoIn,hf])
  obtain⟨e2,a₂,w₂,hq2,harr2⟩:=hr a₁ w₁ hG b (.inScope c::k) cs hro hb hroom
  have other2:(∀l,e2≠.goto l)->Q e2 a₂ w₂->∃e a' w',Q e a' w'/\ArrivesIn (Machine.fenced P F) P (lone (b.atR a (.code (.scope c)::k)) cs w) b k cs e a' w':=fun hne hq=>⟨e2,a₂,w₂,hq,leave (hstart.trans hto) hne harr2⟩
  cases e2 with
  |goto l2=>exact hq2.elim
  |_=>exact other2 (fun l h=>by cases h) hq2
 |_=>exact other (fun l h=>by cases h) hq
end
def Sound(P:Program) (nt:Nat) (n0:gb) (c:Code) (cc:aT):Prop:=
 cc.fits nt=true->∀(π0:Nat->Nat->Prop) (T:Nat->Prop) (a0:Act),(∀t,T t->¬t∈cc.writes)->∀(r:Option Nat) (n:Nat) (w0:World) (QA:Exit->S->Prop) (s:S) (a:Act) (w:World),
  vM P nt n0 w0 π0 r T a0 s a w->aw (Pure P) cc QA s->c.wpIn (FW r) n P (AE P nt n0 w0 π0 r T a0 QA) a w
theorem BG{x y:Code} {cx cy:aT} (hx:Sound P nt n0 x cx) (hy:Sound P nt n0 y cy):Sound P nt n0 (.seq x y) (.join cx cy):=by
 intro hf π0 T a0 hT r n w0 QA s a w R h
 have nn:∀(e:Exit) (G:S->Prop) (s':S) (a':Act) (w':World),e≠.normal->jx G QA e s'->vM P nt n0 w0 π0 r T a0 s' a' w'->Exit.then (y.wpIn (FW r) n P (AE P nt n0 w0 π0 r T a0 QA)) (AE P nt n0 w0 π0 r T a0 QA) e a' w':=by
  intro e G s' a' w' hne hq R'
  cases e with
  |normal=>exact absurd rfl hne
  |_=>exact⟨s',hq,R'⟩
 simp only[aT.fits,Bool.and_eq_true]at hf;simp only[aT.writes,List.mem_append,not_or]at hT
 refine wpIn_seq (wpIn_mono (hx hf.1 π0 T a0 (fun t ht=>(hT t ht).1) r n w0 _ s a w R h) ?_)
 rintro e a' w' ⟨s',hq,R'⟩
 cases e with
 |normal=>
  obtain⟨s2,hF,R2⟩:=R'.down hq
  exact hy hf.2 π0 T a0 (fun t ht=>(hT t ht).2) r n w0 QA s2 a' w' R2 hF
 |_=>exact nn _ _ s' a' w' (by simp) hq R'
theorem Lc{x y:Code} {cx cy:aT} (hx:Sound P nt n0 x cx) (hy:Sound P nt n0 y cy):Sound P nt n0 (.seq x y) (.seq cx cy):=by
 intro hf π0 T a0 hT r n w0 QA s a w R h;simp only[aT.fits,Bool.and_eq_true]at hf;simp only[aT.writes,List.mem_append,not_or]at hT
 refine wpIn_seq (wpIn_mono (hx hf.1 π0 T a0 (fun t ht=>(hT t ht).1) r n w0 _ s a w R h) ?_)
 rintro e a' w' ⟨s',hq,R'⟩
 cases e with
 |normal=>exact hy hf.2 π0 T a0 (fun t ht=>(hT t ht).2) r n w0 QA s' a' w' R' hq
 |_=>exact⟨s',hq,R'⟩
theorem Ld{mo:Bool} (hm:P.follows .mixedOrders=true):∀(c:Code),(∀cc,bJ mo P c=some cc->Sound P nt n0 c cc)/\∀l rest cc ccr,findLabel c l=some rest->bJ mo P c=some cc->cc.after l=some ccr->Sound P nt n0 rest ccr:=by
 intro c
 induction c with
 |skip=>
  refine⟨?_,fun l rest cc ccr h=>by cases h⟩
  intro cc hc _ π0 T a0 _ r n w0 QA s a w R h;cases hc;exact wpIn_skip ⟨s,h,R⟩
 |region id ops kP=>
  refine⟨?_,fun l rest cc ccr h=>by cases h⟩
  intro cc hc hf π0 T a0 hT r n w0 QA s a w R h;obtain⟨h4,β,τ,π,U,hU,R0⟩:=R.1;simp only[bJ]at hc;split at hc
  ·rename_i hmo
   simp only[Bool.and_eq_true,Bool.not_eq_true']at hmo;obtain⟨_,rfl⟩:=hmo;simp only[Option.map_eq_some_iff]at hc;obtain⟨cos,hcos,rfl⟩:=hc
   refine uU (w0:=w) hcos hf R0.Th hU h (T:=T) (fun d hd ht=>hT d ht hd) ?_ ?_
   ·intro s' a' w' β' τ' π' U' hU' hK hp R'
    exact⟨_,hK,R.sub hp ⟨by show 4<=s.nx+_;omega,β',τ',π',U',hU',R'.nx _⟩⟩
   ·intro p s' a' w' β' τ' π' U' hU' hK hp R'
    exact⟨_,hK,R.sub hp ⟨by show 4<=s.nx+_;omega,β',τ',π',U',hU',R'.nx _⟩⟩
  split at hc<;>try(cases hc;done)
  rename_i cos hcos
  have fin:∀(ro:List Nat) (s1:S) (π1:Nat->Nat->Prop),Rel P nt n0 w0 π0 U s1 a w β τ π1->s1.nx=s.nx->(kP=true->∃dU T,pX dU ops.toList cos=true/\zu T (nB ro 0 cos) dU=true/\mh T s1.nx 0 (nB ro 0 cos)=true/\qb T s1)->i4 nt cos=true->(∀t,T t->¬t∈dstsOf cos)->
    jw (Pure P) s1.nx 0 (nB ro 0 cos) (fun s'=>QA .normal {s' with nx:=s.nx+cos.length}) s1->(Code.region id ops kP).wpIn (FW r) n P (AE P nt n0 w0 π0 r T a0 QA) a w:=by
   intro ro s1 π1 R1 hnx hd hf hT h
   refine wW (w0:=w) hm hcos ro hd hf R1.Th (by rw[hnx];exact hU) h (T:=T) (fun d hd ht=>hT d ht hd) ?_
   intro s' a' w' β' τ' π' U' hU' hK hp R';rw[hnx]at hU'
   exact⟨_,hK,R.sub hp ⟨by show 4<=s.nx+_;omega,β',τ',π',U',hU',R'.nx _⟩⟩
  split at hc
  ·split at hc
   ·split at hc<;>try(cases hc;done)
    rename_i hok;cases hc
    exact fin [] s π R0 rfl (fun _=>⟨[],[],hok,rfl,sE,fun _ _ _ _=>rfl⟩) hf hT (by rw[tX];exact h)
   ·split at hc<;>try(cases hc;done)
    rename_i hok;cases hc;rw[Bool.and_eq_true]at hok;obtain⟨ids,hids,h⟩:=h;obtain⟨css,hcss,ro,hdyn,h⟩:=ah h;rw[Bool.and_eq_true]at hids
    obtain⟨π1,_,R1,_⟩:=R0.AL (fq hids.1) hids.2 hcss
    simp only[DY,WY,Bool.and_eq_true]at hdyn
    exact fin ro _ π1 R1 E2 (fun _=>⟨_,_,hok.1,hdyn.2,hdyn.1.2,fun t b off hl=>wS hdyn.1.1 t b off hl⟩) hf hT h
  ·rename_i hdr
   cases hc
   exact fin [] s π R0 rfl (fun e=>absurd e hdr) hf hT (by rw[tX];exact h)
 |seq x y ihx ihy=>
  refine⟨?_,?_⟩
  ·intro cc hc
   simp only[bJ]at hc
   split at hc<;>try(cases hc;done)
   rename_i cx cy hcx hcy;cases hc;split
   ·exact Lc (ihx.1 cx hcx) (ihy.1 cy hcy)
   ·exact BG (ihx.1 cx hcx) (ihy.1 cy hcy)
  ·intro l rest cc ccr hf hc ha
   simp only[bJ]at hc
   split at hc<;>try(cases hc;done)
   rename_i cx cy hcx hcy;cases hc
   have ha':(match cx.after l with|some r=>some (aT.join r cy)|none=>cy.after l)=some ccr:=by
    split at ha<;>exact ha
   have hs:=BF x cx hcx l
   simp only[findLabel]at hf;split at hf
   ·rename_i rx hrx
    cases hf;rw[hrx]at hs
    cases hax:cx.after l with
    |none=>rw[hax]at hs;cases hs
    |some cr=>
     rw[hax]at ha';cases ha';exact BG (ihx.2 l rx cx cr hrx hcx hax) (ihy.1 cy hcy)
   ·rename_i hrx
    rw[hrx]at hs
    cases hax:cx.after l with
    |some cr=>rw[hax]at hs;cases hs
    |none=>
     rw[hax]at ha';exact ihy.2 l rest cy ccr hf hcy ha'
 |cond cd x y ihx ihy=>
  refine⟨?_,fun l rest cc ccr h=>by cases h⟩
  intro cc hc hf π0 T a0 hT r n w0 QA s a w R h;simp only[bJ]at hc
  split at hc<;>try(cases hc;done)
  rename_i c' cx cy hcc hcx hcy;cases hc;simp only[aT.fits,Bool.and_eq_true]at hf;simp only[aT.writes,List.mem_append,not_or]at hT;simp only[aw]at h;obtain⟨v,hv,h⟩:=ah h;obtain⟨β,τ,π,U,hU,R0⟩:=R.1.2
  have hd:=R0.aF hcc hv
  cases v<;>try(exact h.elim)
  rename_i t
  exact wpIn_cond_split hd.sn (fun e=>ihx.1 cx hcx hf.1 π0 T a0 (fun t ht=>(hT t ht).1) r n w0 QA s a w R (h.1 e)) (fun e=>ihy.1 cy hcy hf.2 π0 T a0 (fun t ht=>(hT t ht).2) r n w0 QA s a w R (h.2 e))
 |block id c ih=>
  refine⟨?_,fun l rest cc ccr h=>by cases h⟩
  intro cc hc hf π0 T a0 hT r n w0 QA s a w R h;simp only[bJ,Option.map_eq_some_iff]at hc;obtain⟨c',hc',rfl⟩:=hc;refine wpIn_block (wpIn_mono (ih.1 c' hc' hf π0 T a0 hT r n w0 _ s a w R h) ?_)
  rintro e a' w' ⟨s',hq,R'⟩
  cases e with
  |exit id'=>
   simp only[gq]at hq;simp only[Exit.inBlock]
   by_cases hid:id'=id
   ·rw[if_pos hid]at hq⊢;exact⟨s',hq,R'⟩
   ·rw[if_neg hid]at hq⊢;exact⟨s',hq,R'⟩
  |_=>exact⟨s',hq,R'⟩
 |loop c ih=>
  refine⟨?_,fun l rest cc ccr h=>by cases h⟩
  intro cc hc hf π0 T a0 hT r n w0 QA s a w R h;simp only[bJ,Option.map_eq_some_iff]at hc;obtain⟨c',hc',rfl⟩:=hc;obtain⟨s0,⟨m,hn⟩,R0⟩:=R.down h;refine wpIn_loop_rounds m ?_
  have key:∀(m:Nat) (s:S) (a:Act) (w:World),vM P nt n0 w0 π0 r T a0 s a w->nG (aw (Pure P) c') QA m s->Code.roundsIn (FW r) n P c (AE P nt n0 w0 π0 r T a0 QA) m a w:=by
   intro m
   induction m with
   |zero=>intro s a w _ h;exact h.elim
   |succ m ihn=>
    intro s a w R h;rw[roundsIn_succ];refine wpIn_mono (ih.1 c' hc' hf π0 T a0 hT r n w0 _ s a w R h) ?_
    rintro e a' w' ⟨s',hq,R'⟩
    cases e with
    |normal=>
     obtain⟨s2,hF,R2⟩:=R'.down hq;exact ihn s2 a' w' R2 hF
    |_=>exact⟨s',hq,R'⟩
  exact key m s0 a w R0 hn
 |exit id=>
  refine⟨?_,fun l rest cc ccr h=>by cases h⟩
  intro cc hc _ π0 T a0 _ r n w0 QA s a w R h;cases hc;exact wpIn_exit ⟨s,h,R⟩
 |ret=>
  refine⟨?_,fun l rest cc ccr h=>by cases h⟩
  intro cc hc _ π0 T a0 _ r n w0 QA s a w R h;cases hc;exact wpIn_ret ⟨s,h,R⟩
 |rangeFunc g ps as bd ihA ihB=>
  refine⟨?_,fun l rest cc ccr h=>by cases h⟩
  intro cc hc hf π0 T a0 hT r n w0 QA s a w R h;simp only[bJ]at hc
  split at hc<;>try(cases hc;done)
  rename_i g' ca cb hg hca hcb
  split at hc<;>try(cases hc;done)
  cases hc;simp only[aT.fits,Bool.and_eq_true,List.all_eq_true,decide_eq_true_eq]at hf;obtain⟨⟨⟨⟨⟨f1,f2⟩,f3⟩,f4⟩,f5⟩,f6⟩:=hf
  exact IZ hg (fun t ht=>⟨f1 t ht,by simpa using f4 t ht⟩) (fun t ht=>by simpa using f5 t ht) (fun t ht=>by simpa using f6 t ht) (ihA.1 ca hca f2) (ihB.1 cb hcb f3) R h
 |label l'=>
  refine⟨?_,?_⟩
  ·intro cc hc _ π0 T a0 _ r n w0 QA s a w R h;cases hc;exact wpIn_label ⟨s,h,R⟩
  ·intro l rest cc ccr hf hc ha
   cases hc;simp only[findLabel]at hf
   split at hf<;>try(cases hf;done)
   rename_i he;cases hf;simp only[aT.after,he,if_true,Option.some.injEq]at ha;subst ha;intro _ π0 T a0 _ r n w0 QA s a w R h;exact wpIn_skip ⟨s,h,R⟩
 |goto l'=>
  refine⟨?_,fun l rest cc ccr h=>by cases h⟩
  intro cc hc _ π0 T a0 _ r n w0 QA s a w R h;cases hc;exact wpIn_goto ⟨s,h,R⟩
 |scope c ih=>
  refine⟨?_,fun l rest cc ccr h=>by cases h⟩
  intro cc hc hf π0 T a0 hT r n w0 QA s a w R h;simp only[bJ]at hc
  split at hc<;>try(cases hc;done)
  rename_i c' hc'
  split at hc<;>try(cases hc;done)
  rename_i l hl;simp only[Option.map_eq_some_iff]at hc;obtain⟨cr,hcr,rfl⟩:=hc;simp only[aT.fits,Bool.and_eq_true]at hf;simp only[aT.writes,List.mem_append,not_or]at hT
  have hs:=BF c c' hc' l
  rw[hcr]at hs
  cases hfl:findLabel c l with
  |none=>rw[hfl]at hs;cases hs
  |some rest=>
   refine I0 hfl (AE P nt n0 w0 π0 r T a0 (fun _=>aw (Pure P) cr (AB QA)) .normal) (wpIn_mono (ih.1 c' hc' hf.1 π0 T a0 (fun t ht=>(hT t ht).1) r n w0 _ s a w R h) ?_) ?_
   ·rintro e a' w' ⟨s',hq,R'⟩
    cases e with
    |goto l'=>exact⟨hq.1,s',hq.2,R'⟩
    |_=>exact⟨s',hq,R'⟩
   ·rintro a' w' ⟨s',hq,R'⟩
    refine wpIn_mono (ih.2 l rest c' cr hfl hc' hcr hf.2 π0 T a0 (fun t ht=>(hT t ht).2) r n w0 _ s' a' w' R' hq) ?_
    rintro e a2 w2 ⟨s2,hq2,R2⟩
    cases e with
    |goto l'=>exact hq2.elim
    |_=>exact⟨s2,hq2,R2⟩
 |_=>exact⟨fun cc hc=>(by cases hc),fun l rest cc ccr h=>(by cases h)⟩
theorem wY{mo:Bool} (hm:P.follows .mixedOrders=true):∀(c:Code) (cc:aT),bJ mo P c=some cc->cc.fits nt=true->∀(π0:Nat->Nat->Prop) (T:Nat->Prop) (a0:Act),(∀t,T t->¬t∈cc.writes)->∀(r:Option Nat) (n:Nat) (w0:World) (QA:Exit->S->Prop) (s:S) (a:Act) (w:World),
  vM P nt n0 w0 π0 r T a0 s a w->aw (Pure P) cc QA s->c.wpIn (FW r) n P (AE P nt n0 w0 π0 r T a0 QA) a w:=fun c cc hc=>(Ld hm c).1 cc hc
end
end Go.Eng
