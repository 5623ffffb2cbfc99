/- The engine and the library,part 7 of 21: what the proofs of this seat need of them. -/
import Derived.Test.YtkckiembbiiliaaGreatPk6
set_option linter.unnecessarySimpa false
set_option linter.unusedSimpArgs false
set_option linter.unusedVariables false
set_option linter.defProp false
set_option maxRecDepth 10000
set_option maxHeartbeats 4000000
namespace Go.Eng
open Go
open Go.RowKit (Below)
section
variable{P:Program} {nt:Nat} {n0:gO} {w0:World} {π0:Nat->Nat->Prop} {U:Nat->Prop} {s:S} {a:Act} {w:World} {β:Nat->Nat} {τ:Nat->Value} {π:Nat->Nat->Prop}
theorem CX{a:AV} {v:Value} (h:DV w π a v) (hf:mK a=true):v=K1 a:=by
 cases h<;>first|rfl|(simp[mK]at hf;done)
theorem Lq{a:AV} {v:Value} (h:DV w π a v) (hf:uE a=true):v=uD a:=by
 cases h with
 |agg as vs hl hs hd=>
  simp only[uE,List.all_eq_true]at hf
  show Value.agg vs=.agg _
  congr 1
  apply Array.ext
  ·simpa using hl.symm
  ·intro i h1 h2
   have hi:i<as.length:=by omega
   have:=CX (hd i as[i] vs[i] (by simp[hi]) (by simp[h1])) (hf _ (List.getElem_mem hi))
   simpa using this
 |_=>first|rfl|(simp[uE,mK]at hf;done)
theorem j9{t:TypeId} {d:TypeDesc} (h:P.underlying t=some d):(underlying t).run P w=.ok d w:=by
 simp[underlying,h]
theorem Gp{t:TypeId} {z:AV} (h:zeroV P t=some z):∃v:Value,(zeroValue t).run P w=.ok v w/\DV w π z v:=by
 unfold zeroV at h;simp only[Option.bind_eq_some_iff]at h;obtain⟨v,⟨i,hi,hz⟩,hv⟩:=h
 exact⟨v,by simp[zeroValue,typeInfo,hi,hz],HR hv⟩
theorem AK(d:Nat) {t:TypeId} {ms:Array (String×TypeId)} (h:P.underlying t=some (.interface ms)) (x:Value) (b:Bool) (hx:(x=.nilIface/\b=true)\/(∃t' y,x=.iface t' y/\b=false)):(Op.equalIn (d+1) t x .nilIface).run P w=.ok b w:=by
 have hun:(underlying t).run P w=.ok (.interface ms) w:=j9 h
 rcases hx with⟨rfl,rfl⟩|⟨t',y,rfl,rfl⟩<;>simp only[Op.equalIn,Sem.run_bind,hun,Result.andThen_ok,Sem.run_pure]
theorem Gq(d:Nat) {t e:TypeId} (h:P.underlying t=some (.pointer e)) (x:Option Addr):(Op.equalIn (d+1) t (.pointer x) (.pointer none)).run P w=.ok x.isNone w:=by
 have hun:(underlying t).run P w=.ok (.pointer e) w:=j9 h
 cases x<;>simp only[Op.equalIn,Sem.run_bind,hun,Result.andThen_ok,Sem.run_pure,Option.isNone]
theorem BM{t:TypeId} {neg:Bool} {op:BinOp} (hop:(op=.eql/\neg=false)\/(op=.neq/\neg=true)) {X Y:Operand} {x y:Value} {b:Bool} (hg:(eqGuard op t X Y x y).run P w=.ok () w)
  (hb:∀d,(Op.equalIn (d+1) t x y).run P w=.ok b w) (e1:binOp .eql t x y=(do pure (.bool (<-Op.equal t x y)))) (e2:binOp .neq t x y=(do pure (.bool (!(<-Op.equal t x y))))):(do eqGuard op t X Y x y;binOp op t x y:Sem Value).run P w=.ok (.bool (b !=neg)) w:=by
 have he:(Op.equal t x y).run P w=.ok b w:=hb 9999
 rw[Sem.run_bind,hg]
 rcases hop with⟨rfl,rfl⟩|⟨rfl,rfl⟩
 ·simp only[Result.andThen_ok,e1,Sem.run_bind,he,Sem.run_pure];simp
 ·simp only[Result.andThen_ok,e2,Sem.run_bind,he,Sem.run_pure];simp
theorem Fz{t:TypeId} {neg:Bool} {op:BinOp} (hop:(op=.eql/\neg=false)\/(op=.neq/\neg=true)) (hs:o6 P t=true) {a:AV} {b:Bool} {X:Operand} {x:Value}
  (hb:Ge neg a=some b) (hx:DV w π a x):(do eqGuard op t X (.const .nilIface) x .nilIface;binOp op t x .nilIface:Sem Value).run P w=.ok (.bool b) w:=by
 have hu:∃e,P.underlying t=some (.interface e):=by
  unfold o6 at hs;split at hs
  ·exact⟨_,by assumption⟩
  ·cases hs
 obtain⟨e,hu⟩:=hu
 cases hx<;>simp only[Ge,Option.some.injEq,reduceCtorEq]at hb<;>subst hb
 ·have:=BM (P:=P) (w:=w) hop (t:=t) (X:=X) (Y:=.const .nilIface) (x:=.nilIface) (y:=.nilIface) (b:=true) (by rcases hop with⟨rfl,rfl⟩|⟨rfl,rfl⟩<;>simp[eqGuard]) (fun d=>AK d hu _ _ (.inl ⟨rfl,rfl⟩)) rfl rfl
  rw[this];cases neg<;>rfl
 ·rename_i t' av v' hd'
  have:=BM (P:=P) (w:=w) hop (t:=t) (X:=X) (Y:=.const .nilIface) (x:=.iface t' v') (y:=.nilIface) (b:=false) (by rcases hop with⟨rfl,rfl⟩|⟨rfl,rfl⟩<;>simp[eqGuard]) (fun d=>AK d hu _ _ (.inr ⟨_,_,rfl,rfl⟩)) rfl rfl
  rw[this];cases neg<;>rfl
theorem FA{t:TypeId} {neg:Bool} {op:BinOp} (hop:(op=.eql/\neg=false)\/(op=.neq/\neg=true)) (hs:xL P t=true) {v:SV} {b:Bool} {X:Operand} {x:Value}
  (hb:An neg v=some b) (hx:RV β τ w π v x):(do eqGuard op t X (.const (.pointer none)) x (.pointer none);binOp op t x (.pointer none):Sem Value).run P w=.ok (.bool b) w:=by
 have hu:∃e,P.underlying t=some (.pointer e):=by
  unfold xL at hs;split at hs
  ·exact⟨_,by assumption⟩
  ·cases hs
 obtain⟨e,hu⟩:=hu
 have all:∀A:Option Addr,(A.isNone !=neg)=b->(do eqGuard op t X (.const (.pointer none)) (.pointer A) (.pointer none);binOp op t (.pointer A) (.pointer none):Sem Value).run P w=.ok (.bool b) w:=by
  intro A hbn
  have:=BM (P:=P) (w:=w) hop (t:=t) (X:=X) (Y:=.const (.pointer none)) (x:=.pointer A) (y:=.pointer none) (b:=A.isNone) (by rcases hop with⟨rfl,rfl⟩|⟨rfl,rfl⟩<;>simp[eqGuard]) (fun d=>Gq d hu A) (by cases A<;>rfl) (by cases A<;>rfl)
  rw[this,hbn]
 cases v with
 |ptr b' o=>
  have hx:x=.pointer (some ⟨β b',o,none⟩):=hx
  subst hx
  exact all _ (by simpa[An]using hb)
 |rp cs=>
  obtain⟨B,off,f,rfl,_⟩:=hx
  exact all _ (by simpa[An]using hb)
 |dat av q=>
  have hd:=hx.1
  cases av<;>simp only[An,Option.some.injEq,reduceCtorEq]at hb
  ·cases hd
   exact all none (by rw[<-hb];cases neg<;>rfl)
  ·cases hd
   exact all _ (by rw[<-hb];cases neg<;>rfl)
 |_=>simp[An]at hb
theorem Lr{t xt:TypeId} {z a v:AV} {x:Value} (hz:zeroV P t=some z) (hni:(o6 P t||(P.underlying t).isNone)=false) (hv:Ef t z a=some v) (hx:DV w π a x):
  ∃u,(Instr.typeAssert x xt t true).run P w=.ok u w/\DV w π v u:=by
 obtain⟨zv,hzr,hzd⟩:=Gp (w:=w) (π:=π) hz
 simp only[Bool.or_eq_false_iff]at hni;obtain⟨hi,hn⟩:=hni
 cases hu:P.underlying t with
 |none=>rw[hu]at hn;cases hn
 |some d=>
  have hun:(underlying t).run P w=.ok d w:=j9 hu
  have hd:∀ms,d≠.interface ms:=fun ms e=>by subst e;simp[o6,hu]at hi
  have no:∀(x:Value),x=.nilIface\/(∃t' y,x=.iface t' y/\t'≠t)->(Instr.typeAssert x xt t true).run P w=.ok (.tuple #[zv,.bool false]) w:=by
   intro x hx
   rcases hx with rfl|⟨t',y,rfl,hne⟩
   ·unfold Instr.typeAssert
    simp only[Sem.run_bind,hun,Result.andThen_ok]
    cases d<;>first|exact absurd rfl (hd _)|simp[hzr]
   ·unfold Instr.typeAssert
    simp only[Sem.run_bind,hun,Result.andThen_ok]
    cases d<;>first|exact absurd rfl (hd _)|simp[hzr,hne]
  have two:∀{p:AV} {y:Value} (b:Bool),DV w π p y->DV w π (.qf [p,.bool b]) (.tuple #[y,.bool b]):=by
   intro p y b hp
   refine .qf _ _ rfl (fun i a v ha hv=>?_)
   cases i with
   |zero=>simp at ha hv;subst ha hv;exact hp
   |succ i=>cases i with
    |zero=>simp at ha hv;subst ha hv;exact .bool b
    |succ i=>simp at ha
  cases hx<;>simp only[Ef,Option.some.injEq,reduceCtorEq]at hv<;>subst hv
  ·exact⟨_,no _ (.inl rfl),two _ hzd⟩
  ·rename_i t' av y hd'
   by_cases he:t'=t
   ·rw[if_pos he]
    subst he;refine⟨.tuple #[y,.bool true],?_,two _ hd'⟩;unfold Instr.typeAssert;simp only[Sem.run_bind,hun,Result.andThen_ok]
    cases d<;>first|exact absurd rfl (hd _)|simp
   ·rw[if_neg he]
    exact⟨_,no _ (.inr ⟨t',y,rfl,he⟩),two _ hzd⟩
theorem Rel.FB(R:Rel P nt n0 w0 π0 U s a w β τ π) {id:Nat} (hid:¬U id) {w':World} {π':Nat->Nat->Prop} {B:Nat} {cs:List AV} (hB:w.heap.size<=B) (hbel:Below w.heap.size w w') (hp:∀b o,π b o->π' b o) (hp':∀b o,π' b o->π b o\/w.heap.size<=b)
  (hpl:∀b o,π' b o->b<w'.heap.size) (hbx:ou (fun _=>undef) w' π' B ⟨cs,[]⟩):
  Rel P nt n0 w0 π0 (eE U id) {s with boxes:=(id,⟨cs,[]⟩)::s.boxes} a w' (Ai β id B) τ π':=by
 have hne:∀b,U b->b≠id:=fun b hb e=>hid (e▸hb)
 have R1:Rel P nt n0 w0 π0 (eE U id) s a w' (Ai β id B) τ π':=
  R.frame (fun b hb=>tP _ _ _ (hne b hb)) (fun _ _=>rfl) (fun n h=>.inl h) hp hp' hpl hbel
 have hsz:n0.n<=w.heap.size:=Nat.le_trans R.fu R.below.size
 have hold:∀b x,ct b s.boxes=some x->Ai β id B b≠B:=fun b x h=>by
  obtain⟨h1,_,⟨cur,el,hh,_⟩,_⟩:=R.boxes b x h;rw[tP _ _ _ (hne b h1)]
  have:=nH hh
  omega
 refine⟨R1.size,R1.slots,fun b x h=>?_,fun b b' x x' h h' e=>?_,R1.live,R1.bS,fun q e' b x h h' hBo=>?_,R1.below,R1.fu,R1.ej,R1.eo,R1.cH,R1.lQ,R1.jt,R1.kept⟩
 ·simp only[ct]at h
  by_cases hb:b=id
  ·subst hb
   simp at h;subst h
   refine⟨.inr rfl,by rw[cj];exact .inl (Nat.le_trans hsz hB),?_,fun o q h=>by simp[eK]at h⟩
   rw[cj];exact hbx.tR
  ·have:(b==id)=false:=by simpa using hb
   simp only[this,cond_false]at h;exact R1.boxes b x h
 ·simp only[ct]at h h'
  by_cases hb:b=id
  ·by_cases hb':b'=id
   ·rw[hb,hb']
   ·have hf:(b'==id)=false:=by simpa using hb'
    simp only[hf,cond_false]at h';subst hb;rw[cj]at e;exact absurd e.symm (hold b' x' h')
  ·have hf:(b==id)=false:=by simpa using hb
   simp only[hf,cond_false]at h
   by_cases hb':b'=id
   ·subst hb'
    rw[cj]at e;exact absurd e (hold b x h)
   ·have hf':(b'==id)=false:=by simpa using hb'
    simp only[hf',cond_false]at h';exact R1.inj b b' x x' h h' e
 ·simp only[ct]at h'
  by_cases hb:b=id
  ·subst hb
   rw[cj]at hBo
   have:=((R.live q e' h).2.block hBo).2
   omega
  ·have hf:(b==id)=false:=by simpa using hb
   simp only[hf,cond_false]at h';exact R1.cK q e' b x h h' hBo
theorem sn{w:World} {π:Nat->Nat->Prop}:∀{as as':List (Option AV)} {Bs Bs':List Nat} {vs vs':List Value},eV w π as Bs vs->eV w π as' Bs' vs'->eV w π (as++as') (Bs++Bs') (vs++vs')
 |[],as',[],Bs',[],vs',_,h'=>h'
 |[],as',B::Bs,Bs',vs,vs',h,h'=>by cases vs<;>exact h.elim
 |[],as',[],Bs',v::vs,vs',h,h'=>h.elim
 |some a::as,as',Bs,Bs',[],vs',h,h'=>by cases Bs<;>cases a<;>exact h.elim
 |some a::as,as',Bs,Bs',v::vs,vs',h,h'=>by
  rcases mP h with⟨rfl,B,Bs0,rfl,e,h2⟩|⟨ha,h1,h2⟩
  ·exact⟨e,sn h2 h'⟩
  ·exact tO ha h1 (sn h2 h')
 |none::as,as',[],Bs',vs,vs',h,h'=>by cases vs<;>exact h.elim
 |none::as,as',B::Bs,Bs',[],vs',h,h'=>h.elim
 |none::as,as',B::Bs,Bs',v::vs,vs',h,h'=>⟨h.1,sn h.2 h'⟩
theorem pE{w:World} {π:Nat->Nat->Prop}:∀{as:List AV} {vs:List Value},jr w π as vs->eV w π (as.map some) [] vs
 |[],[],_=>trivial
 |[],v::vs,h=>by have:=h.1;simp at this
 |a::as,[],h=>by have:=h.1;simp at this
 |a::as,v::vs,h=>yy (h.2 0 a v rfl rfl) (pE ⟨by have:=h.1;simpa using this,fun i x u hx hu=>h.2 (i+1) x u (by simpa using hx) (by simpa using hu)⟩)
theorem Ii{c:Call} {f:Nat} (h:c.callee=.value (.func f)) (hc:cg P f=true):tc P c=(ga c.args).map (if o5 P c.argTypes.toList then .aE f else .call f):=by
 unfold tc;rw[h];simp[hc]
theorem FC{q n:Nat} {x:AV} {id:Nat}:∀{l:List (Nat×SV)} {t:Nat} {v:SV},lk t (Ao q n x id l)=some v->∃u,lk t l=some u/\v=yp q n x id u
 |[],t,v,h=>by cases h
 |(m,u)::r,t,v,h=>by
  simp only[Ao,lk,j7]at h⊢;split at h
  ·rename_i e;cases h;subst e;exact⟨u,by simp,rfl⟩
  ·rename_i e;obtain⟨u',h1,h2⟩:=FC h;exact⟨u',by simp[e,h1],h2⟩
theorem Rel.made(R:Rel P nt n0 w0 π0 U s a w β τ π) {id:Nat} (hid:¬U id) {e:TypeId} {i:TypeInfo} {cs:Array Value} (hi:P.info? e=some i) (hz:i.size=1) {c:Nat} (hc:c<=maxLen) (hcs:cs.size=c):
  Rel P nt n0 w0 π0 (eE U id) {s with live:=(id,e)::s.live} a (w.alloc (.cells cs e)) β (Ai τ id (.slice (some ⟨w.heap.size,0,none⟩) 0 c)) π:=by
 have hbel:Below w.heap.size w (w.alloc (.cells cs e)):=(Below.refl _ _).alloc (Nat.le_refl _) _
 have hsz:n0.n<=w.heap.size:=Nat.le_trans R.fu R.below.size
 have R1:Rel P nt n0 w0 π0 U s a (w.alloc (.cells cs e)) β τ π:=
  R.frame (fun _ _=>rfl) (fun _ _=>rfl) (fun _ h=>h) (fun _ _ h=>h) (fun _ _ h=>.inl h) (fun b o h=>by have:=R.ej b o h;simp;omega) hbel
 refine R1.qG hid (.inr ⟨w.heap.size,0,c,cs,i,rfl,.inl hsz,heap_alloc_new w _,Nat.zero_le _,hc,hi,by rw[hz,hcs,Nat.mul_one],fun o _ ho=>?_⟩) (fun q e' B hq hB hB'=>?_) (fun b x hb hB'=>?_)
 ·have:=R.ej _ _ ho;omega
 ·have h1:=((R.live q e' hq).2.block hB).2
  simp[js]at hB';omega
 ·have:=R.kJ hb
  simp[js]at hB';omega
theorem Rel.copied(R:Rel P nt n0 w0 π0 U s a w β τ π) {id:Nat} (hid:¬U id) {e q B cap:Nat} {i:TypeInfo} {ys:List (List AV)} {cs:List Value} {cur:Array Value} (hi:P.info? e=some i) (hz:i.size=1) (hlive:eK q s.live=some e)
  (hτ:τ q=.slice (some ⟨B,0,none⟩) 0 cap) (hn:ys.length<=cap) (hh:w.heap[B]? =some (.cells cur e (0,0))) (hok:n0.ok B) (hcm:cap<=maxLen) (hcur:cur.size=cap) (hfree:∀o,¬π B o)
  (hy:∀r∈ys,r.length=1) (hd:jr w π ys.flatten cs) (hsc:∀r∈ys,∀x∈r,x.scalar=true):
  ∃τ' π',Rel P nt n0 w0 π0 (eE U id) {s with slots:=Ao q ys.length (.sl ys) id s.slots,live:=(id,e)::mj q s.live} a (w.setRow B (cur.toList.take 0++cs++cur.toList.drop (0+cs.length)).toArray) β τ' π':=by
 have hcl:cs.length=ys.length:=by rw[<-hd.1,ju hy,Nat.mul_one]
 generalize hcur':(cur.toList.take 0++cs++cur.toList.drop (0+cs.length)).toArray=cur'
 have hcsz:cur'.size=cur.size:=by rw[<-hcur'];simp;omega
 have hget:∀(j:Nat) (v:Value),cs[j]? =some v->cur'[j]? =some v:=by
  intro j v hv
  have hj:j<cs.length:=(List.getElem?_eq_some_iff.1 hv).1
  rw[<-hcur'];simp[List.getElem?_append_left hj,hv]
 have hneB:∀q' e',eK q' (mj q s.live)=some e'->js (τ q')≠some B:=by
  intro q' e' hq' hB';obtain⟨h1,h2⟩:=j6 hq'
  exact h2 (R.bS q' q e' e B h1 hlive hB' (by rw[hτ];rfl))
 have hbox:∀b x,ct b s.boxes=some x->β b≠B:=fun b x hb e'=>R.cK q e b x hlive hb (by rw[hτ,e'];rfl)
 have R1:=(R.Ek q).CR (m:=ys.length) (cur':=cur') hok hh (fun o ho=>absurd ho (hfree o)) hneB hbox
 have hh':(w.setRow B cur').heap[B]? =some (.cells cur' e (0,0)):=setRow_heap w _ cur _ e _ hh
 have R2:=R1.qG (id:=id) (e:=e) (v:=.slice (some ⟨B,0,none⟩) ys.length cap) hid
  (.inr ⟨B,ys.length,cap,cur',i,rfl,hok,hh',hn,hcm,hi,by rw[hcsz,hcur,hz,Nat.mul_one],fun o ho hc=>by
   rw[hz,Nat.mul_one]at ho
   rcases hc with h|⟨_,h⟩
   ·exact hfree o h
   ·omega⟩) (fun q' e' C hq' hC hB'=>by simp[js]at hB';exact hneB q' e' hq' (by rw[hC,hB'])) (fun b x hb hB'=>hbox b x hb (by simpa[js]using hB'.symm))
 have hdv:DV (w.setRow B cur') (grow π B ys.length) (.sl ys) (.slice (some ⟨B,0,none⟩) ys.length cap):=by
  have hmono:∀{x:AV} {v:Value},DV w π x v->DV (w.setRow B cur') (grow π B ys.length) x v:=fun h=>h.mono (fun _ _ h=>.inl h) (fun b o h=>by
   by_cases e':b=B
   ·subst e';exact absurd h (hfree o)
   ·exact cell_setRow_other w _ cur' ⟨b,o,none⟩ e')
  have one:∀(i j:Nat) (r:List AV) (x:AV),ys[i]? =some r->r[j]? =some x->j=0/\∃v,cs[i]? =some v/\cur'[i]? =some v/\DV w π x v:=by
   intro i j r x hr hx
   have hrl:=hy r (List.mem_of_getElem? hr)
   have hj:j=0:=by have:=(List.getElem?_eq_some_iff.1 hx).1;omega
   subst hj
   obtain⟨v,hv,hdx⟩:=hd.get (lf hy hr hx)
   rw[Nat.mul_one,Nat.add_zero]at hv;exact⟨rfl,v,hv,hget i v hv,hdx⟩
  refine .sl ys B 0 cap 1 (fun i j=>cur'.getD i undef) hn (fun i r hr=>hy r (List.mem_of_getElem? hr)) (fun i j r x hr hx=>hsc r (List.mem_of_getElem? hr) x (List.mem_of_getElem? hx)) (fun i j r x hr hx=>?_) (fun i j r x hr hx=>?_) (fun i j r x hr hx=>?_)
  ·obtain⟨rfl,_⟩:=one i j r x hr hx
   exact .inr ⟨rfl,by have:=(List.getElem?_eq_some_iff.1 hr).1;omega⟩
  ·obtain⟨rfl,v,_,hv,_⟩:=one i j r x hr hx
   rw[Nat.zero_add,Nat.mul_one,Nat.add_zero,cell_of_row _ _ _ cur' e (0,0) hh',hv];simp[hv]
  ·obtain⟨rfl,v,_,hv,hdx⟩:=one i j r x hr hx
   simp only[Array.getD_eq_getD_getElem?,hv,Option.getD_some];exact hmono hdx
 refine⟨_,_,{R2 with slots:=fun t v hv=>?_}⟩
 obtain⟨u,hu,rfl⟩:=FC hv;obtain⟨⟨x,hx,hr⟩,hi'⟩:=R2.slots t u hu
 cases u with
 |raw q' n'=>
  by_cases hqn:q'=q/\n'=ys.length
  ·obtain⟨rfl,rfl⟩:=hqn
   simp only[yp,beq_self_eq_true,Bool.and_self,cond_true];obtain⟨⟨x2,hx2,B',cap',h1,h2,h3⟩,hUq⟩:=R.slots t _ hu;rw[hx]at hx2;cases hx2;rw[hτ]at h1;simp only[Value.slice.injEq,Option.some.injEq,Addr.mk.injEq]at h1;obtain⟨⟨rfl,_⟩,_,rfl⟩:=h1
   refine⟨⟨x,hx,?_,fun t ht=>?_⟩,.inr rfl⟩
   ·rw[h2];exact hdv
   ·cases ht;rw[cj,h2]
  ·have hb:(q'==q&&n'==ys.length)=false:=by
    rw[Bool.eq_false_iff];intro h;simp only[Bool.and_eq_true,beq_iff_eq]at h;exact hqn h
   simp only[yp,hb,cond_false];exact⟨⟨x,hx,hr⟩,hi'⟩
 |_=>exact⟨⟨x,hx,hr⟩,hi'⟩
theorem Rel.Ls(R:Rel P nt n0 w0 π0 U s a w β τ π) {t e:TypeId} {i:TypeInfo} {zv:Value} {X Y:Operand} {y:bE} (ht:P.underlying t=some (.slice e)) (hi:P.info? e=some i) (hz:i.zero=some zv) (hsz:(0<i.size&&zv.cells.size==i.size&&0<i.bytes)=true)
  (hx:cn X=some (.k .bL)) (hy:cn Y=some y) {id:Nat} (hid:¬U id) (ty:TypeId) {K:SV->S->Prop} {X':AV->S->Prop} (h:bH (Pure P) id (.Sn e i.size i.bytes y) K X' s):
  ∃v u s' w' β' π',(Builtin.append_ #[t,t] ty #[a.eval X,a.eval Y]).run P w=.ok u w'/\RV β' τ w' π' v u/\v.gp (eE U id)/\K v s'/\Rel P nt n0 w0 π0 (eE U id) s' a w' β' τ π':=by
 simp only[Bool.and_eq_true,decide_eq_true_eq,beq_iff_eq]at hsz;obtain⟨⟨hz0,hzs⟩,hb0⟩:=hsz;simp only[bH]at h;obtain⟨b,hb,h⟩:=af h;obtain⟨ys,hys,⟨hne,hbytes⟩,hfl,hK⟩:=af h
 have hvx:a.eval X=.slice none 0 0:=by
  have:=(R.bM hx (show Eng.bM s (.k .bL)=some (.dat .bL none)from rfl)).1.1
  generalize a.eval X=v at this;cases this;rfl
 have hdy:=R.aQ hy hb
 simp only[uF,List.all_eq_true,Bool.and_eq_true,beq_iff_eq]at hfl
 have hry:∀r∈ys,r.length=i.size:=fun r hr=>(hfl r hr).1
 have hpos:0<ys.length:=List.length_pos_iff.2 hne
 obtain⟨A,c,hyv,news,hl,hcell,hone,hdn,hscn⟩:∃(A:Addr) (c:Nat),a.eval Y=.slice (some A) ys.length c/\∃news:List Value,news.length=ys.length*i.size/\(∀j u,news[j]? =some u->w.cell? (A.add j)=some u)/\(∀u∈news,u.oneCell'=true)/\jr w π ys.flatten news/\∀r∈ys,∀x∈r,x.scalar=true:=by
  cases b<;>simp only[rowsOf]at hys<;>try(cases hys;done)
  ·cases hys;exact absurd rfl hne
  ·cases hys
   generalize a.eval Y=v at hdy
   cases hdy with
   |HA A=>exact absurd rfl hne
   |sl _ B off cap z f h1 h2 h3 h4 h5 h6=>
    obtain⟨_,hn⟩:=DV.news (.sl ys B off cap z f h1 h2 h3 h4 h5 h6) hry
    exact⟨⟨B,off,none⟩,cap,rfl,hn⟩
 have h63':ys.length<=maxLen:=by
  have:=Nat.le_mul_of_pos_right ys.length hb0
  simp only[maxLen];omega
 have hrun:=run_append_nil (P:=P) w t ty e i zv ht hi hz A ys.length c news hl hcell hpos (by simp only[maxLen]at h63';omega) (by omega)
 have R':=R.draw.Ei hid (cells:=ys.flatten) (cs:=news.toArray++Builtin.zeroCells zv.cells (grownCap w ys.length 0 e-ys.length)) e (by
   have:(news.toArray++Builtin.zeroCells zv.cells (grownCap w ys.length 0 e-ys.length)).toList.take ys.flatten.length=news:=by
    simp only[Array.toList_append];exact List.take_left' hdn.1.symm
   rw[this]
   exact jr.mono (w:=w) (w':=w.drew) (π:=π) (fun _ _ h=>h) (fun _ _ _=>rfl) hdn) (fun x hx=>by
   obtain⟨r,hr,hxr⟩:=List.mem_flatten.1 hx
   exact hscn r hr x hxr)
 refine⟨.vs id 0 ys.length i.size,_,_,_,_,_,by rw[hvx,hyv];exact hrun,?_,.inr rfl,hK,R'⟩
 refine⟨grownCap w ys.length 0 e,grownCap_ge w ys.length 0 e,?_⟩;rw[cj];rfl
theorem Rel.Lt(R:Rel P nt n0 w0 π0 U s a w β τ π) {id:Nat} (hid:¬U id) {w':World} {π':Nat->Nat->Prop} {v:Value} {rows:List (List AV)} {e z:Nat} (hbel:Below w.heap.size w w') (hd:DV w' π' (.sl rows) v)
  (htk:AB P w' π' (fun B=>w.heap.size<=B) e v) (hf:uF z rows=true):
  ∃β',Rel P nt n0 w0 π0 (eE U id) {s with boxes:=(id,⟨rows.flatten,[]⟩)::s.boxes} a w' β' τ π/\RV β' τ w' π (.vs id 0 rows.length z) v:=by
 simp only[uF,List.all_eq_true,Bool.and_eq_true,beq_iff_eq]at hf
 rcases htk with rfl|⟨B,len,cap,cur,i,rfl,hB,hh,hlc,hcm,hi,hcs,hfree⟩
 ·cases hd
 obtain⟨hlen,news,hl,hcell,_,hdn,hsc⟩:=DV.news hd (fun r hr=>(hf r hr).1)
 subst hlen
 have hcur:∀(j:Nat) (u:Value),news[j]? =some u->cur[j]? =some u:=by
  intro j u hu
  have:=hcell j u hu
  rw[iA,Nat.zero_add,cell_of_row w' B j cur e (0,0) hh]at this;exact this
 have hpl:∀b o,π b o->b<w'.heap.size:=fun b o h=>Nat.lt_of_lt_of_le (R.ej b o h) hbel.size
 have hbx:ou (fun _=>undef) w' π B ⟨rows.flatten,[]⟩:=by
  refine⟨cur,e,hh,⟨?_,fun j x u hx hu=>?_⟩,fun x hx=>?_,fun o q hq=>by simp[eK]at hq,fun o ho=>by have:=R.ej _ _ ho;omega⟩
  ·have hle:news.length<=cur.size:=by
    rcases Nat.lt_or_ge cur.size news.length with h|h
    ·exfalso
     have:=hcur cur.size news[cur.size] (List.getElem?_eq_getElem h)
     rw[Array.getElem?_eq_none (Nat.le_refl _)]at this;cases this
    ·exact h
   simp only[List.length_take,Array.length_toList,hdn.1];omega
  ·have hj:j<rows.flatten.length:=by
    rcases Nat.lt_or_ge j rows.flatten.length with h|h
    ·exact h
    ·simp only[]at hx;rw[List.getElem?_eq_none h]at hx;cases hx
   simp only[]at hx hu;rw[List.getElem?_take_of_lt hj]at hu
   have hjn:j<news.length:=by rw[<-hdn.1];exact hj
   have hnu:=hcur j news[j] (List.getElem?_eq_getElem hjn)
   have:u=news[j]:=by
    have h2:cur[j]? =some u:=by simpa using hu
    rw[h2]at hnu;exact(Option.some.inj hnu)
   subst this
   have hdx:=hdn.2 j x _ hx (List.getElem?_eq_getElem hjn)
   have hfl:mK x=true:=by
    obtain⟨r,hr,hxr⟩:=List.mem_flatten.1 (List.mem_of_getElem? hx)
    exact(hf r hr).2 x hxr
   rw[CX hdx hfl];exact DV.mK hfl
  ·obtain⟨r,hr,hxr⟩:=List.mem_flatten.1 hx
   exact hsc r hr x hxr
 refine⟨Ai β id B,R.FB hid hB hbel (fun _ _ h=>h) (fun _ _ h=>.inl h) hpl hbx,cap,?_,?_⟩
 ·cases hd<;>first|exact hlc|omega
 ·rw[cj]
theorem Lu{c:Call} {e z b:Nat} {y:bE} (h:tc P c=some (.app e z b (.k .bL) y)):∃t Xo Yo i zv,c.callee=.builtin .append/\c.argTypes.toList=[t,t]/\c.args.toList=[Xo,Yo]/\P.underlying t=some (.slice e)/\cn Xo=some (.k .bL)/\cn Yo=some y/\
  P.info? e=some i/\i.zero=some zv/\(0<i.size&&zv.cells.size==i.size&&0<i.bytes)=true/\i.size=z/\i.bytes=b:=by
 obtain⟨callee,args,argTypes⟩:=c;unfold tc at h;split at h
 ·split at h
  ·simp only[Option.map_eq_some_iff]at h
   obtain⟨_,_,h⟩:=h
   split at h<;>cases h
  ·split at h<;>try(cases h;done)
   simp only[Option.map_eq_some_iff]at h;obtain⟨_,_,h⟩:=h;cases h
 ·split at h<;>try(cases h;done)
  simp only[Option.some.injEq]at h
  split at h<;>cases h
 ·split at h<;>try(cases h;done)
  split at h<;>try(cases h;done)
  simp only[Option.map_eq_some_iff]at h;obtain⟨_,_,h⟩:=h;cases h
 ·rename_i hcal
  split at h<;>try(cases h;done)
  rename_i t t' x y' hT hX
  split at h<;>try(cases h;done)
  rename_i htt;subst htt
  split at h<;>try(cases h;done)
  rename_i e' x' y'' ht hx hy
  split at h<;>try(cases h;done)
  rename_i i hi
  split at h<;>try(cases h;done)
  rename_i zv hz
  split at h<;>try(cases h;done)
  rename_i hsz;cases h;exact⟨_,_,_,i,zv,hcal,hT,hX,ht,hx,hy,hi,hz,hsz,rfl,rfl⟩
 ·simp only[Option.map_eq_some_iff]at h
  obtain⟨_,_,h⟩:=h;cases h
 ·simp only[Option.map_eq_some_iff]at h
  obtain⟨_,_,h⟩:=h;cases h
 ·cases h
theorem Es(R:Rel P nt n0 w0 π0 U s a w β τ π) {o:Oper} {c:CD} {id:Nat} (hid:¬U id) (hc:K3 P o.op=some c) {K:SV->S->Prop} {X:AV->S->Prop} (h:bH (Pure P) id c K X s) {next:Act->World->Prop} {Q:Exit->Act->World->Prop}
  (hn:∀v s' x w' β' τ' π',K v s'->RV β' τ' w' π' v x->v.gp (eE U id)->Rel P nt n0 w0 π0 (eE U id) s' a w' β' τ' π'->next (a.put o.dst x) w')
  (hx:∀p s' w' β' τ' π',X p s'->Rel P nt n0 w0 π0 (eE U id) s' a w' β' τ' π'->Q (.panic (d8 p)) a w'):o.wp P a w next Q:=by
 obtain⟨dst,op,type,pos,after,guard⟩:=o;simp only at hc
 have hsub:∀n,U n->eE U id n:=fun n h=>.inl h
 have fin:∀{v:SV} {y:Value},(execOp a.eval ⟨dst,op,type,pos,after,guard⟩).run P w=.ok (.value y) w->RV β τ w π v y->v.gp U->K v s->Oper.wp P ⟨dst,op,type,pos,after,guard⟩ a w next Q:=by
  intro v y hr hv hu hK;unfold Oper.wp;rw[hr];exact hn v s y w β τ π hK hv (SV.mQ hsub hu) (R.sub hsub)
 have find:∀{v:AV} {y:Value},(execOp a.eval ⟨dst,op,type,pos,after,guard⟩).run P w=.ok (.value y) w->DV w π v y->K (.dat v none) s->Oper.wp P ⟨dst,op,type,pos,after,guard⟩ a w next Q:=
  fun{v y} hr hv hK=>fin (v:=.dat v none) hr ⟨hv,fun t ht=>by cases ht⟩ trivial hK
 -- a function is entered that raises
 have raise:∀{f:Nat} {ids:List Nat} {css css':List (List AV)} {pas:List (Option AV)} {vs:List Value} {p:AV},HS P f css pas p css'->ids.Nodup->bh s.boxes ids=some css->eV w π pas (ids.map β) vs->
   (execOp a.eval ⟨dst,op,type,pos,after,guard⟩).run P w=.ok (.enter f vs.toArray) w->X p {s with boxes:=dz ids css' s.boxes}->Oper.wp P ⟨dst,op,type,pos,after,guard⟩ a w next Q:=by
  intro f ids css css' pas vs p hq hnd hcs harg hr hX;obtain⟨hca,hl1,_,hq⟩:=hq;unfold Oper.wp;rw[hr,Oper.upon_enter];refine(hq w π (ids.map β) vs R.ej (R.nodup hnd hcs) (R.nK hcs) harg).mono ?_
  rintro e w' ⟨π',rfl,hbel,hp1,hp2,hp3,hbx⟩
  obtain⟨τ',_,R'⟩:=R.rX (fr:=none) hid hnd hcs hl1 hbel hp1 hp2 hp3 hbx DV.fJ (fun t ht=>by cases ht)
  exact hx _ _ _ _ _ _ hX R'
 -- a function is entered that takes a token,or leaves one
 have tok:∀{f:Nat} {ids:List Nat} {css:List (List AV)} {pas:List (Option AV)} {vs:List Value},Fb (Pure P) f css pas ids id s.boxes s.live (fun v bx lv=>K v {s with boxes:=bx,live:=lv})->ids.Nodup->bh s.boxes ids=some css->eV w π pas (ids.map β) vs->
   (cg P f=true->(execOp a.eval ⟨dst,op,type,pos,after,guard⟩).run P w=.ok (.enter f vs.toArray) w)->Oper.wp P ⟨dst,op,type,pos,after,guard⟩ a w next Q:=by
  intro f ids css pas vs hT hnd hcs harg hr;obtain⟨tg,r,css',tg',hp,hT⟩:=hT;obtain⟨qo,hqo,hK⟩:=af hT
  have hp:NT P f css tg pas r css' tg':=hp
  obtain⟨hca,hl1,_,hp⟩:=hp;obtain⟨tv,htv,hqv⟩:=R.Gh hcs hqo;unfold Oper.wp;rw[hr hca,Oper.upon_enter];refine(hp w π (ids.map β) vs tv R.ej (R.nodup hnd hcs) (R.nK hcs) harg htv).mono ?_
  rintro e w' ⟨v,π',tv',rfl,hbel,hp1,hp2,hp3,hkept,hbx,hdv,htk⟩
  obtain⟨τ',hrv,R'⟩:=R.Lh hid hnd hcs hl1 hqv hbel hp1 hp2 hp3 hkept hbx hdv htk;exact hn _ _ _ _ _ _ _ hK hrv trivial R'
 cases op<;>simp only[K3]at hc<;>try(cases hc;done)
 case binOp op t x y yt=>
  unfold Sr at hc
  split at hc<;>try(cases hc;done)
  all_goals
   split at hc<;>try(cases hc;done)
   rename_i hs;simp only[Option.map_eq_some_iff]at hc;obtain⟨x',hx',rfl⟩:=hc;simp only[bH]at h;obtain⟨av,hav,h⟩:=af h;obtain⟨b,hb,hK⟩:=af h
  ·have hr:=Fz (P:=P) (X:=x) (.inl ⟨rfl,rfl⟩) hs hb (R.aQ hx' hav)
   exact find (by simp only[execOp];rw[Sem.run_bind];refine(congrArg (fun r=>Result.andThen r _) hr).trans ?_;rfl) (.bool _) hK
  ·have hr:=Fz (P:=P) (X:=x) (.inr ⟨rfl,rfl⟩) hs hb (R.aQ hx' hav)
   exact find (by simp only[execOp];rw[Sem.run_bind];refine(congrArg (fun r=>Result.andThen r _) hr).trans ?_;rfl) (.bool _) hK
  ·have hr:=FA (P:=P) (X:=x) (.inl ⟨rfl,rfl⟩) hs hb (R.bM hx' hav).1
   exact find (by simp only[execOp];rw[Sem.run_bind];refine(congrArg (fun r=>Result.andThen r _) hr).trans ?_;rfl) (.bool _) hK
  ·have hr:=FA (P:=P) (X:=x) (.inr ⟨rfl,rfl⟩) hs hb (R.bM hx' hav).1
   exact find (by simp only[execOp];rw[Sem.run_bind];refine(congrArg (fun r=>Result.andThen r _) hr).trans ?_;rfl) (.bool _) hK
 case makeSlice t l c=>
  split at hc<;>try(cases hc;done)
  rename_i e l' c' ht hl hcc
  split at hc<;>try(cases hc;done)
  rename_i i hi
  split at hc<;>try(cases hc;done)
  rename_i hok;cases hc;simp only[Bool.and_eq_true,beq_iff_eq,decide_eq_true_eq,Option.isSome_iff_exists]at hok;obtain⟨⟨hz,zv,hzv⟩,hpos⟩:=hok;simp only[bH]at h;obtain⟨av,hav,h⟩:=af h;obtain⟨li,hli,h⟩:=af h;obtain⟨bv,hbv,h⟩:=af h;obtain⟨ci,hci,hb,hK⟩:=af h;obtain⟨kl,hkl⟩:=R.idx hl hav hli
  obtain⟨kc,hkc⟩:=R.idx hcc hbv hci;obtain⟨b0,b1,b2⟩:=hb
  have b3:ci<=140737488355328:=by
   have:ci*1<=ci*(i.bytes:Int):=Int.mul_le_mul_of_nonneg_left (by omega) (by omega)
   omega
  have hr:=run_make (P:=P) w t e i zv ht hi hzv kl kc li ci b0 b1 (by rw[Int.mul_comm];omega) (by omega)
  have hr2:(execOp a.eval ⟨dst,.makeSlice t l c,type,pos,after,guard⟩).run P w=.ok (.value (.slice (some ⟨w.heap.size,0,none⟩) li.toNat ci.toNat)) (w.alloc (.cells (madeCells zv.cells (ci.toNat*i.size)) e)):=by
   simp only[execOp,hkl,hkc,Sem.run_bind,hr,Result.andThen_ok,Sem.run_pure]
  unfold Oper.wp;rw[hr2]
  exact hn _ _ _ _ _ _ _ hK (show RV β _ _ π (.raw id li.toNat) _ from⟨w.heap.size,ci.toNat,cj ..,rfl,by omega⟩) (.inr rfl) (R.made hid hi hz (by simp only[maxLen];omega) (by rw[size_madeCells,hz,Nat.mul_one]))
 case makeInterface t x=>
  split at hc<;>try(cases hc;done)
  rename_i hni;simp only[Option.map_eq_some_iff]at hc;obtain⟨x',hx',rfl⟩:=hc;simp only[bH]at h;obtain⟨av,hav,hst,hK⟩:=af h;simp only[Bool.or_eq_true,not_or,Bool.not_eq_true]at hni
  cases hu:P.underlying t with
  |none=>rw[hu]at hni;simp at hni
  |some d=>
   have hun:(underlying t).run P w=.ok d w:=j9 hu
   have hd:∀ms,d≠.interface ms:=fun ms e=>by subst e;simp[o6,hu]at hni
   refine find (y:=.iface t (a.eval x)) ?_ (.iface t av _ (R.aQ hx' hav)) hK
   have:(Instr.makeInterface t (a.eval x)).run P w=.ok (.iface t (a.eval x)) w:=by
    unfold Instr.makeInterface;simp only[Sem.run_bind,hun,Result.andThen_ok]
    cases d<;>first|exact absurd rfl (hd _)|rfl
   simp only[execOp,Sem.run_bind,this,Result.andThen_ok,Sem.run_pure]
 case makeFunc fn first caps=>
  cases fn<;>simp only[]at hc<;>try(cases hc;done)
  rename_i f
  split at hc<;>try(cases hc;done)
  rename_i hok;simp only[Bool.and_eq_true]at hok;simp only[Option.map_eq_some_iff]at hc;obtain⟨xs,hxs,rfl⟩:=hc;simp only[bH]at h;obtain⟨⟨pas,ids⟩,hsv,hK⟩:=af h
  have hf:first=#[]:=by simpa[Array.isEmpty_iff]using hok.1.1
  subst hf
  have d2:=(R.dB (by simpa[ga]using hxs) hsv).1
  have hr:(execOp a.eval ⟨dst,.makeFunc (.func f) #[] caps,type,pos,after,guard⟩).run P w=.ok (.value (.func (.func f) #[] (caps.map a.eval))) w:=by simp[execOp,Instr.makeFunc]
  refine fin hr (v:=.nD f pas ids) ⟨caps.map a.eval,rfl,by simpa using d2⟩ (fun b hb=>?_) hK
  obtain⟨t,_,v,hl,hv⟩:=iC hsv b hb;exact SV.yF hv (R.slots t _ hl).2
 case typeAssert x xt t ok=>
  cases ok<;>simp only[]at hc<;>try(cases hc;done)
  split at hc<;>try(cases hc;done)
  rename_i hni
  split at hc<;>try(cases hc;done)
  rename_i z x' hz hx';cases hc;simp only[bH]at h;obtain⟨av,hav,h⟩:=af h;obtain⟨v,hv,hK⟩:=af h
  obtain⟨u,hu,hd⟩:=Lr (P:=P) (xt:=xt) hz (by simpa only[Bool.not_eq_true]using hni) hv (R.aQ hx' hav)
  exact find (by simp only[execOp,Sem.run_bind,hu,Result.andThen_ok,Sem.run_pure]) hd hK
 case panic x=>
  simp only[Option.map_eq_some_iff]at hc;obtain⟨x',hx',rfl⟩:=hc;simp only[bH]at h;obtain⟨av,hav,hra,hX⟩:=af h
  have hd:=R.aQ hx' hav
  cases av<;>simp only[jo]at hra<;>try(cases hra;done)
  rename_i t b
  have he:a.eval x=.iface t (uD b):=by
   generalize a.eval x=u at hd
   cases hd with
   |iface _ _ v hd=>rw[Lq hd hra]
  unfold Oper.wp
  have hr:(execOp a.eval ⟨dst,.panic x,type,pos,after,guard⟩).run P w=.halt (.panic (.iface t (uD b))) w:=by
   simp[execOp,he,Instr.panic,goPanic]
  rw[hr];exact hx _ _ _ _ _ _ hX (R.sub hsub)
 case call cl=>
  split at hc
  ·rename_i y hy
   cases hc;unfold Oo at hy
   split at hy<;>try(cases hy;done)
   rename_i e z b y' hcc;cases hy;obtain⟨t,Xo,Yo,i,zv,hcal,hT,hX,ht,hx',hy',hi,hz,hsz,rfl,rfl⟩:=Lu hcc;obtain⟨callee,args,argTypes⟩:=cl;obtain⟨v,u,s',w',β',π',hr,hv,hu,hK,R'⟩:=R.Ls ht hi hz hsz hx' hy' hid type h
   have eT:argTypes=#[t,t]:=Array.toList_inj.1 (by simpa using hT)
   have eX:args=#[Xo,Yo]:=Array.toList_inj.1 (by simpa using hX)
   simp only at hcal;subst eT eX hcal;unfold Oper.wp
   have:(execOp a.eval ⟨dst,.call ⟨.builtin .append,#[Xo,Yo],#[t,t]⟩,type,pos,after,guard⟩).run P w=.ok (.value u) w':=by
    simp[execOp,resolve,invoke,builtin,hr]
   rw[this];exact hn v s' u w' β' τ π' hK hv hu R'
  rename_i hxa;clear hxa;obtain⟨callee,args,argTypes⟩:=cl
  have hc0:=hc
  have e1:(args.toList.map a.eval).toArray=args.map a.eval:=Array.toList_inj.1 (by simp)
  simp only[HO]at hc
  split at hc<;>try(cases hc;done)
  ·rename_i f
   split at hc<;>try(cases hc;done)
   rename_i hcall;simp only[Option.map_eq_some_iff]at hc;obtain⟨xs,hxs,hce⟩:=hc
   have hcc:=Ii (P:=P) (c:=⟨.value (.func f),args,argTypes⟩) rfl hcall
   have hr:(execOp a.eval ⟨dst,.call ⟨.value (.func f),args,argTypes⟩,type,pos,after,guard⟩).run P w=.ok (.enter f (args.toList.map a.eval).toArray) w:=by
    rw[e1];simp[execOp,resolve,Act.eval,Deferred.ofValue,invoke,fh hcall]
   split at hce
   ·rename_i hp
    subst hce;simp only[bH]at h
    rcases h with h|h
    ·exact rZ R hid (by simp only[KT];rw[hcc,if_pos hp];simp[hxs]) h hn
    ·obtain⟨⟨pas,ids⟩,hsv,hnd,h⟩:=af h
     obtain⟨css,hcs,h⟩:=af h
     rcases h with⟨p,css',hq,hX⟩|hT
     ·exact raise hq (d7 hnd) hcs (R.dB (by simpa[ga]using hxs) hsv).1 hr hX
     ·exact tok hT (d7 hnd) hcs (R.dB (by simpa[ga]using hxs) hsv).1 fun _=>hr
   ·rename_i hp
    subst hce;simp only[bH]at h
    rcases h with h|h
    ·exact rZ R hid (by simp only[KT];rw[hcc,if_neg hp];simp[hxs]) h hn
    ·obtain⟨as,has,h⟩:=af h
     have hd:=R.dL (by simpa[ga]using hxs) has
     rcases h with⟨cs,hcn,hK⟩|⟨p,hq,hX⟩|⟨rows,e,z,hcr,hfl,hK⟩
     rotate_right
     ·obtain⟨_,hcr⟩:=hcr
      unfold Oper.wp;rw[hr,Oper.upon_enter];refine(hcr w π _ R.ej hd).mono ?_
      rintro e' w' ⟨v,π',rfl,hbel,hp1,hp2,hp3,hdv,htk⟩
      obtain⟨β',R',hrv⟩:=R.Lt hid hbel hdv (htk e rfl) hfl
      exact hn _ _ _ _ _ _ _ hK hrv (.inr rfl) R'
     ·obtain⟨_,hcn⟩:=hcn
      unfold Oper.wp;rw[hr,Oper.upon_enter];refine(hcn w π _ R.ej hd).mono ?_
      rintro e w' ⟨B,π',rfl,hB,hbel,hp1,hp2,hp3,hbx⟩
      have R':=R.FB hid hB hbel hp1 hp2 hp3 hbx
      exact hn _ _ _ _ _ _ _ hK (show RV (Ai β id B) τ _ π' (.ptr id 0) _ by simp[RV,cj]) (.inr rfl) R'
     ·exact raise (ids:=[]) (css:=[]) hq List.nodup_nil rfl (pE hd) hr hX
  ·rename_i g
   simp only[Option.map_eq_some_iff]at hc;obtain⟨xs,hxs,rfl⟩:=hc;simp only[bH]at h
   have hgo:cn (.tmp g)=some (.t g):=rfl
   have old:bN (Pure P) id (if o5 P argTypes.toList then .gL (.t g) xs else .fc (.t g) xs) K s->Oper.wp P ⟨dst,.call ⟨.value (.tmp g),args,argTypes⟩,type,pos,after,guard⟩ a w next Q:=fun h=>
    rZ R hid (by simp only[KT,tc,hgo,hxs]) h hn
   split at h
   ·rename_i f as bs hl
    obtain⟨⟨us,he,hcap⟩,_⟩:=R.bM hgo hl;obtain⟨⟨pas,ids⟩,hsv,hnd,h⟩:=af h;obtain⟨css,hcs,h⟩:=af h
    have hnd':=d7 hnd
    have harg:=sn (R.dB (by simpa[ga]using hxs) hsv).1 hcap
    rw[<-List.map_append]at harg
    have hr:cg P f=true->(execOp a.eval ⟨dst,.call ⟨.value (.tmp g),args,argTypes⟩,type,pos,after,guard⟩).run P w=.ok (.enter f (args.toList.map a.eval++us.toList).toArray) w:=fun hca=>by
     have e2:(args.toList.map a.eval++us.toList).toArray=args.map a.eval++us:=Array.toList_inj.1 (by simp)
     rw[e2];simp[execOp,resolve,he,Deferred.ofValue,invoke,fh hca]
    rcases h with⟨r,fr,css',hp,hK⟩|⟨p,css',hq,hX⟩|hT
    ·have hp:yw P f css (pas++as) r fr css':=hp
     obtain⟨hca,hl1,_,hp⟩:=hp;unfold Oper.wp;rw[hr hca,Oper.upon_enter];refine(hp w π ((ids++bs).map β) _ R.ej (R.nodup hnd' hcs) (R.nK hcs) harg).mono ?_
     rintro e w' ⟨v,π',rfl,hbel,hp1,hp2,hp3,hbx,hdv,htk⟩
     obtain⟨τ',hrv,R'⟩:=R.rX hid hnd' hcs hl1 hbel hp1 hp2 hp3 hbx hdv htk
     exact hn _ _ _ _ _ _ _ hK hrv (by cases fr with|none=>trivial|some e=>exact .inr rfl) R'
    ·exact raise hq hnd' hcs harg (hr hq.1) hX
    ·exact tok hT hnd' hcs harg hr
   ·exact old h
  ·split at hc<;>try(cases hc;done)
   rename_i t t' x y hT hX
   split at hc<;>try(cases hc;done)
   rename_i e x' y' ht hx' hy'
   split at hc<;>try(cases hc;done)
   rename_i hsz;cases hc;simp only[bH]at h;obtain⟨p,hp,h⟩:=af h
   cases p<;>try(exact h.elim)
   rename_i q n;obtain⟨b,hb,h⟩:=af h;obtain⟨ys,hys,⟨hyl,hy1⟩,hlive,hK⟩:=af h;obtain⟨⟨B,cap,hτ,hv,hcap⟩,hUq⟩:=R.bM hx' hp
   have hsz':(P.info? e).map (·.size)=some 1:=by simpa[fq]using hsz
   obtain⟨i,hi,hz⟩:∃i,P.info? e=some i/\i.size=1:=by
    cases hq:P.info? e with
    |none=>simp[hq]at hsz'
    |some i=>exact⟨i,rfl,by simpa[hq]using hsz'⟩
   obtain⟨_,htok⟩:=R.live q e hlive
   rcases htok with hnil|⟨B',len,cap',cur,i',hsl,hok,hh,_,hcm,hi',hcur,hfree⟩
   ·rw[hτ]at hnil;cases hnil
   rw[hτ]at hsl;simp only[Value.slice.injEq,Option.some.injEq,Addr.mk.injEq]at hsl;obtain⟨⟨rfl,_⟩,rfl,rfl⟩:=hsl
   have hii:i'=i:=by rw[hi]at hi';exact(Option.some.inj hi').symm
   subst hii;rw[hz,Nat.mul_one]at hcur;subst hyl
   have hdy:=R.aQ hy' hb
   have hfree':∀o,¬π B o:=fun o=>hfree o (by omega)
   have eT:argTypes=#[t,t']:=Array.toList_inj.1 (by simpa using hT)
   have eX:args=#[x,y]:=Array.toList_inj.1 (by simpa using hX)
   subst eT eX
   have go:∀(cs:List Value) (w':World),jr w π ys.flatten cs->(∀r∈ys,∀x∈r,x.scalar=true)->w'=w.setRow B (cur.toList.take 0++cs++cur.toList.drop (0+cs.length)).toArray->
     (Builtin.copy_ #[t,t'] type #[a.eval x,a.eval y]).run P w=.ok (goInt ys.length) w'->Oper.wp P ⟨dst,.call ⟨.builtin .copy,#[x,y],#[t,t']⟩,type,pos,after,guard⟩ a w next Q:=by
    intro cs w' hd hsc hw hrun;obtain⟨τ',π',R'⟩:=R.copied hid hi hz hlive hτ hcap hh hok hcm hcur hfree' hy1 hd hsc
    have hr:(execOp a.eval ⟨dst,.call ⟨.builtin .copy,#[x,y],#[t,t']⟩,type,pos,after,guard⟩).run P w=.ok (.value (goInt ys.length)) w':=by
     simp[execOp,resolve,invoke,builtin,hrun]
    unfold Oper.wp;rw[hr];subst hw
    exact hn (.dat (.int .i64 ys.length) none) _ _ _ _ _ _ hK ⟨.int .i64 _,fun t ht=>by cases ht⟩ trivial R'
   cases b<;>simp only[rowsOf,Option.some.injEq,reduceCtorEq]at hys
   ·subst hys
    generalize hvy:a.eval y=vy at hdy;cases hdy
    refine go [] w ⟨rfl,fun i a v h=>by simp at h⟩ (by simp) ?_ ?_
    ·have:=setRow_self w B cur e (0,0) hh
     simpa using this.symm
    ·rw[hv,hvy]
     exact run_copy_nil (P:=P) w t t' type e _ _ _ ht (by rw[hsz'];rfl)
   ·rename_i l
    subst hys;generalize hvy:a.eval y=vy at hdy
    have row:∀(A:Addr) (m c:Nat) (cs:List Value),vy=.slice (some A) m c->m=l.length->cs.length=m->(∀j u,cs[j]? =some u->w.cell? (A.add j)=some u)->(∀u∈cs,u.oneCell'=true)->jr w π l.flatten cs->(∀r∈l,∀x∈r,x.scalar=true)->
      Oper.wp P ⟨dst,.call ⟨.builtin .copy,#[x,y],#[t,t']⟩,type,pos,after,guard⟩ a w next Q:=by
     intro A m c cs e1 e2 e3 hsrc h1c hd hsc;refine go cs _ hd hsc rfl ?_;rw[hv,hvy,e1]
     have:=run_copy_row (P:=P) w t t' type e B 0 l.length cap A m c cur e cs ht hsz' hh (by rw[e3,e2];exact(Nat.min_self _).symm) hsrc (by rw[hcur];omega) h1c
     rw[this,e3,e2]
    cases hdy with
    |HA A=>exact row A 0 0 [] rfl rfl rfl (fun j u h=>by simp at h) (by simp) ⟨rfl,fun i a v h=>by simp at h⟩ (by simp)
    |sl _ B2 off2 cap2 z2 f2 g1 g2 g3 g4 g5 g6=>
     obtain⟨hm,news,k1,k2,k3,k4,k5⟩:=DV.news (DV.sl l B2 off2 cap2 z2 f2 g1 g2 g3 g4 g5 g6) hy1
     exact row _ _ _ news rfl rfl (by rw[k1,Nat.mul_one]) k2 k3 k4 k5
theorem yP(R:Rel P nt n0 w0 π0 U s a w β τ π):∀{Xs:List Operand} {xs:List bE} {ps:List (Nat×Nat)},Xs.mapM cn=some xs->qp s xs=some ps->
  Xs.map a.eval=(ps.map fun p=>Value.pointer (some ⟨β p.1,p.2,none⟩))/\∀p∈ps,U p.1
 |[],xs,ps,hx,hv=>by
  simp at hx;subst hx;simp[qp]at hv;subst hv
  exact⟨rfl,by simp⟩
 |X::Xs,xs,ps,hx,hv=>by
  simp only[List.mapM_cons,Option.bind_eq_bind,Option.bind_eq_some_iff,Option.pure_def,Option.some.injEq]at hx;obtain⟨x,hx,xs',hxs,rfl⟩:=hx;simp only[qp]at hv
  split at hv<;>try(cases hv;done)
  rename_i b o ps' h1 h2;cases hv;obtain⟨h3,h4⟩:=yP R hxs h2;obtain⟨h5,h6⟩:=R.bM hx h1
  refine⟨by simp only[List.map_cons,h3];exact congrArg (· ::_) h5,fun p hp=>?_⟩
  rcases List.mem_cons.1 hp with rfl|hp
  ·exact h6
  ·exact h4 p hp
theorem Rel.hold(R:Rel P nt n0 w0 π0 U s a w β τ π) (e:TypeId) {cs:Array Value} {ps:List (Nat×Nat)} (hcs:∀(i:Nat) (p:Nat×Nat),ps[i]? =some p->cs[i]? =some (.pointer (some ⟨β p.1,p.2,none⟩))):
  ∃π',Rel P nt n0 w0 π0 U s a (w.alloc (.cells cs e)) β τ π'/\∀(i:Nat) (p:Nat×Nat),ps[i]? =some p->π' w.heap.size (0+i)/\(w.alloc (.cells cs e)).cell? ⟨w.heap.size,0+i,none⟩=some (.pointer (some ⟨β p.1,p.2,none⟩)):=by
 have hbel:Below w.heap.size w (w.alloc (.cells cs e)):=(Below.refl _ _).alloc (Nat.le_refl _) _
 refine⟨fun B o=>π B o\/(B=w.heap.size/\o<cs.size),R.frame (fun _ _=>rfl) (fun _ _=>rfl) (fun _ h=>h) (fun _ _ h=>.inl h) (fun b o h=>?_) (fun b o h=>?_) hbel,fun i p hp=>?_⟩
 ·rcases h with h|⟨rfl,_⟩
  ·exact .inl h
  ·exact .inr (Nat.le_refl _)
 ·rcases h with h|⟨rfl,_⟩
  ·have:=R.ej b o h;simp;omega
  ·simp
 ·have h:=hcs i p hp
  have hl:i<cs.size:=(Array.getElem?_eq_some_iff.1 h).1
  rw[Nat.zero_add]
  exact⟨.inr ⟨rfl,hl⟩,by rw[cell_of_row _ _ i cs e (0,0) (heap_alloc_new w _)];simpa using h⟩
theorem AL:∀(l:List (Nat×Value)) (k:Nat) (us:Array Value),l.map (·.1)=(List.range l.length).map (· +k)->(∀p∈l,p.2.cells.toList=[p.2])->us.size=k+l.length->
  ∃us',Instr.fill (fun i=>some (i*1,1)) us l=some us'/\us'.toList=us.toList.take k++l.map (·.2)
 |[],k,us,_,_,hs=>⟨us,rfl,by simp at hs⊢;rw[List.take_of_length_le (by simp;omega)]⟩
 |(i,v)::l,k,us,h1,h2,hs=>by
  have hi:i=k:=by
   have:=congrArg (fun l=>l[0]?) h1
   simpa using this
  subst hi
  have h1':l.map (·.1)=(List.range l.length).map (· +(i+1)):=by
   have h1t:=congrArg List.tail h1
   simp only[List.map_cons,List.tail_cons,List.length_cons,List.range_succ_eq_map,List.map_map]at h1t;rw[h1t]
   apply List.map_congr_left
   intro q _;simp;omega
  have hv:=h2 (i,v) (by simp)
  simp only at hv
  have hvs:v.cells.size=1:=by have:=congrArg List.length hv;simpa using this
  simp only[List.length_cons]at hs
  obtain⟨us1,he,hl1,hs1⟩:=rW (place:=fun i=>some (i*1,1)) (cells:=us) (i:=i) (off:=i*1) (v:=v) (rest:=l) (by rw[hvs]) (by rw[hvs];omega)
  obtain⟨us',hf,hd⟩:=AL l (i+1) us1 h1' (fun p hp=>h2 p (List.mem_cons_of_mem _ hp)) (by omega)
  refine⟨us',by rw[he];exact hf,?_⟩
  have e:(us.toList.take i++[v]++us.toList.drop (i+[v].length)).take (i+1)=us.toList.take i++[v]:=List.take_left' (by simp;omega)
  rw[hd,hl1,hv,Nat.mul_one,e];simp
theorem AM{b:Nat} {x:bY}:∀{l:List (Nat×bY)},kZ b (nW b x l)=kZ b l
 |[]=>rfl
 |(m,v)::r=>by
  simp only[nW,kZ,j7];split
  ·rename_i e;subst e;simp[kZ]
  ·rename_i e
   have:(b==m)=false:=by simpa using e
   simp[kZ,this,AM (l:=r)]
theorem CY{b:Nat} {ps:List (Nat×Nat)}:∀{l:List (Nat×SV)} {t:Nat},lk t (s7 b ps l)=(lk t l).map (s6 b ps)
 |[],t=>rfl
 |(m,u)::r,t=>by
  simp only[s7,lk,j7];split
  ·rfl
  ·exact CY
theorem Rel.Lv(R:Rel P nt n0 w0 π0 U s a w β τ π) {b:Nat} {x:bY} (hb:ct b s.boxes=some x) (h4:4<=b) {p:Nat×Nat} (hU:U p.1) (hcell:w.cell? ⟨β b,0,none⟩=some (.pointer (some ⟨β p.1,p.2,none⟩))):
  ∃π':Nat->Nat->Prop,Rel P nt n0 w0 π0 U {s with slots:=s7 b [p] s.slots,boxes:=kZ b s.boxes} a w β τ π':=by
 obtain⟨hUb,hokb,hbox,htg⟩:=R.boxes b x hb
 have hlt:=R.kJ hb
 have hown:n0.n<=β b:=by rcases hokb with h|h;exact h;exact absurd h.1 (by omega)
 have hp:∀B o,π B o->(fun B o=>π B o\/(B=β b/\o<1)) B o:=fun _ _ h=>.inl h
 have hdel:∀c y,ct c (kZ b s.boxes)=some y->c≠b/\ct c s.boxes=some y:=fun c y h=>by
  rw[mT]at h;split at h
  ·cases h
  ·rename_i hne;exact⟨hne,h⟩
 refine⟨fun B o=>π B o\/(B=β b/\o<1),R.size,fun t v h=>?_,fun c y h=>?_,fun c c' y y' h h' e=>R.inj c c' y y' (hdel c y h).2 (hdel c' y' h').2 e,fun q e h=>?_,R.bS,fun q e c y h h' hB=>R.cK q e c y h (hdel c y h').2 hB,R.below,R.fu,fun B o h=>?_,fun B o h=>.inl (R.eo B o h),fun B o h=>?_,R.lQ,R.jt,R.kept⟩
 ·simp only[CY,Option.map_eq_some_iff]at h
  obtain⟨u,hu,rfl⟩:=h;obtain⟨⟨y,hy,hr⟩,hi⟩:=R.slots t u hu
  have hm:RV β τ w (fun B o=>π B o\/(B=β b/\o<1)) u y:=RV.mono (fun _ _=>rfl) (fun _ _=>rfl) hp (fun _ _ _=>rfl) hi hr
  cases u with
  |ptr c o=>
   simp only[s6]
   by_cases hcb:c=b
   ·subst hcb
    simp only[beq_self_eq_true,cond_true]
    have e:y=.pointer (some ⟨β c,o,none⟩):=hr
    subst e
    refine⟨⟨_,hy,.Fp fun i q hq=>?_⟩,fun q hq=>?_⟩
    ·cases o with
     |zero=>
      cases i with
      |zero=>simp at hq;subst hq;exact⟨.inr ⟨rfl,by omega⟩,hcell⟩
      |succ i=>simp at hq
     |succ o=>simp at hq
    ·have:=List.mem_of_mem_drop hq
     simp at this;subst this;exact hU
   ·have hcb':(c==b)=false:=by simpa using hcb
    simp only[hcb',cond_false];exact⟨⟨y,hy,hm⟩,hi⟩
  |_=>exact⟨⟨y,hy,hm⟩,hi⟩
 ·obtain⟨hne,hc⟩:=hdel c y h
  obtain⟨g1,g2,g3,g4⟩:=R.boxes c y hc
  refine⟨g1,g2,g3.keep (fun _ _=>rfl) g4 rfl hp (fun _ _ _=>rfl) (fun o ho=>?_),g4⟩
  rcases ho with ho|⟨ho,_⟩
  ·obtain⟨_,_,_,_,_,_,hn⟩:=g3;exact hn o ho
  ·exact hne (R.inj c b y x hc hb ho)
 ·obtain⟨h1,h2⟩:=R.live q e h
  refine⟨h1,h2.keep (fun B hB=>rfl) (fun B o hB ho=>?_)⟩
  rcases ho with ho|⟨ho,_⟩
  ·exact ho
  ·exact absurd (ho▸hB) (R.cK q e b x h hb)
 ·rcases h with h|⟨rfl,_⟩
  ·exact R.ej B o h
  ·exact hlt
 ·rcases h with h|⟨rfl,_⟩
  ·exact R.cH B o h
  ·exact .inr (.inl hown)
theorem Gs(R:Rel P nt n0 w0 π0 U s a w β τ π) {o:Oper} {c:CD} {id:Nat} (hid:¬U id) (hc:V5 P o.type o.op=some c) {K:SV->S->Prop} {X:AV->S->Prop} (h:bH (Pure P) id c K X s) {next:Act->World->Prop} {Q:Exit->Act->World->Prop}
  (hn:∀v s' x w' β' τ' π',K v s'->RV β' τ' w' π' v x->v.gp (eE U id)->Rel P nt n0 w0 π0 (eE U id) s' a w' β' τ' π'->next (a.put o.dst x) w'):o.wp P a w next Q:=by
 obtain⟨dst,op,type,pos,after,guard⟩:=o;simp only at hc
 have hsub:∀n,U n->eE U id n:=fun n h=>.inl h
 have fin:∀{v:SV} {y:Value},(execOp a.eval ⟨dst,op,type,pos,after,guard⟩).run P w=.ok (.value y) w->RV β τ w π v y->v.gp U->K v s->Oper.wp P ⟨dst,op,type,pos,after,guard⟩ a w next Q:=by
  intro v y hr hv hu hK;unfold Oper.wp;rw[hr];exact hn v s y w β τ π hK hv (SV.mQ hsub hu) (R.sub hsub)
 cases op<;>simp only[V5]at hc<;>try(cases hc;done)
 case box t x=>
  split at hc<;>try(cases hc;done)
  simp only[Option.map_eq_some_iff]at hc;obtain⟨x',hx',rfl⟩:=hc;simp only[bH]at h;obtain⟨p,hp,h⟩:=af h;obtain⟨hr,hU⟩:=R.bM hx' hp
  cases p<;>try(exact h.elim)
  rename_i k ps
  match k,hr,h with
  |0,hr,h=>
   have hr:a.eval x=.agg (ps.map fun p=>Value.pointer (some ⟨β p.1,p.2,none⟩)).toArray:=hr
   have hrun:(execOp a.eval ⟨dst,.box t x,type,pos,after,guard⟩).run P w=.ok (.value (.pointer (some ⟨w.heap.size,0,none⟩))) (w.alloc (.cells (a.eval x).cells t)):=by
    simp[execOp,Instr.box,newVar,Go.newRow]
   obtain⟨π',R',hh⟩:=R.hold t (cs:=(a.eval x).cells) (ps:=ps) (fun i p hi=>by rw[hr];simp[Value.cells,hi])
   unfold Oper.wp;rw[hrun]
   exact hn (.pt 2 ps) s _ _ β τ π' h (.Fp hh) (fun p hp=>.inl (hU p hp)) (R'.sub hsub)
  |k+1,_,h=>exact h.elim
 case build t ps=>
  split at hc<;>try(cases hc;done)
  rename_i hs
  split at hc<;>try(cases hc;done)
  rename_i z X hz hX;simp only[Option.map_eq_some_iff]at hc;obtain⟨x',hx',rfl⟩:=hc;simp only[bH]at h;obtain⟨p,hp,h⟩:=af h;obtain⟨hr,hU⟩:=R.bM hx' hp
  cases p<;>try(exact h.elim)
  rename_i b o
  have hr:a.eval X=.pointer (some ⟨β b,o,none⟩):=hr
  obtain⟨zv,hzr,hzd,hzs⟩:=qE (P:=P) (w:=w) (π:=π) hz
  have hzl:zv.cells.size=1:=by have:=hzd.1;simpa using this.symm
  unfold Eh at hs
  split at hs<;>try(cases hs;done)
  rename_i fs hu
  split at hs<;>try(cases hs;done)
  rename_i f hfs;simp only[Bool.and_eq_true,beq_iff_eq]at hs
  have hm:=qF (P:=P) (w:=w) fs (fun f=>do pure (f.offset,<-sizeOf f.type)) (fun f=>(f.offset,(fq P f.type).getD 0)) (by
   intro g hg
   have hgf:g∈fs.toList:=by simpa using hg
   have:g=f:=by rw[hfs]at hgf;simpa using hgf
   subst this
   simp[dN (w:=w) hs.2,hs.2])
  have hpl:((fs.map fun f=>(f.offset,(fq P f.type).getD 0))[0]?)=some (0,1):=by
   have:fs=#[f]:=Array.toList_inj.1 (by simpa using hfs)
   subst this;simp[hs.1.2,hs.2]
  obtain⟨us1,he,hl1,hs1⟩:=rW (place:=((fs.map fun f=>(f.offset,(fq P f.type).getD 0))[·]?)) (cells:=zv.cells) (i:=0) (off:=0) (v:=a.eval X) (rest:=[]) (by rw[hr];exact hpl) (by rw[hr,hzl];simp[Value.cells])
  have hus:us1=#[a.eval X]:=by
   apply Array.toList_inj.1
   have ec:(Value.pointer (some ⟨β b,o,none⟩)).cells.toList=[Value.pointer (some ⟨β b,o,none⟩)]:=rfl
   rw[hl1,hr,ec,List.drop_of_length_le (by simp[hzl])]
   simp
  refine fin (v:=.pt 0 [(b,o)]) (y:=.agg #[a.eval X]) ?_ (by rw[hr];rfl) (fun p hp=>by simp at hp;subst hp;exact hU) h
  have hX':ps.toList=[(0,X)]:=hX
  have:(ps.map fun(i,x)=>(i,a.eval x)).toList=[(0,a.eval X)]:=by simp[hX']
  have hb:(Instr.build t (ps.map fun(i,x)=>(i,a.eval x))).run P w=.ok (.agg #[a.eval X]) w:=by
   simp only[Instr.build,Sem.run_bind,hzr,Result.andThen_ok,run_underlying hu,hm];rw[this,he];simp[Instr.fill,hus]
  simp only[execOp,Sem.run_bind,hb,Result.andThen_ok,Sem.run_pure]
 case buildSlice t n Xs=>
  split at hc<;>try(cases hc;done)
  rename_i e ht
  split at hc<;>try(cases hc;done)
  split at hc<;>try(cases hc;done)
  rename_i z xs hz hxs
  split at hc<;>try(cases hc;done)
  rename_i hok;cases hc;simp only[Bool.and_eq_true,decide_eq_true_eq,beq_iff_eq]at hok;obtain⟨⟨⟨hnp,hn0⟩,hsz⟩,hidx⟩:=hok;simp only[bH]at h;obtain⟨ps,hps,hK⟩:=af h
  have hmap:Xs.toList.mapM (fun p=>cn p.2)=(Xs.toList.map (·.2)).mapM cn:=by rw[List.mapM_map];rfl
  rw[hmap]at hxs;obtain⟨hev,hpU⟩:=yP R hxs hps
  have hXl:Xs.toList.length=n:=by have:=congrArg List.length hidx;simpa using this
  have hpl:ps.length=n:=by have:=congrArg List.length hev;simp only[List.length_map]at this;omega
  obtain⟨zv,hzr,hzd,hzs⟩:=qE (P:=P) (w:=w) (π:=π) hz
  have hzl:zv.cells.size=1:=by have:=hzd.1;simpa using this.symm
  have htl:(Xs.map fun(i,x)=>(i,a.eval x)).toList=Xs.toList.map fun p=>(p.1,a.eval p.2):=by simp
  have hev2:(Xs.toList.map fun p=>(p.1,a.eval p.2)).map (·.2)=ps.map fun p=>Value.pointer (some ⟨β p.1,p.2,none⟩):=by rw[<-hev];simp
  obtain⟨us,hf,hus⟩:=AL (Xs.toList.map fun p=>(p.1,a.eval p.2)) 0 ((Array.range (n*1)).map (zv.cells[· %zv.cells.size]!)) (by simp only[List.map_map,List.length_map];rw[show((fun x=>x.1)∘fun p:Nat×Operand=>(p.1,a.eval p.2))=(fun p=>p.1)from rfl,hidx,hXl];simp) (fun p hp=>by
   have:p.2∈(Xs.toList.map fun p=>(p.1,a.eval p.2)).map (·.2):=List.mem_map_of_mem hp
   rw[hev2]at this;obtain⟨q,_,e⟩:=List.mem_map.1 this
   rw[<-e];rfl) (by simp[hXl])
  rw[hev2]at hus;simp only[List.take_zero,List.nil_append]at hus
  obtain⟨π',R',hh⟩:=R.hold e (cs:=us) (ps:=ps) (fun i p hi=>by
   have:us.toList[i]? =some (.pointer (some ⟨β p.1,p.2,none⟩)):=by rw[hus];simp[hi]
   simpa using this)
  have hlim:¬(n*1>16777216):=by omega
  have hrun:(Instr.buildSlice t n (Xs.map fun(i,x)=>(i,a.eval x))).run P w=.ok (.slice (some ⟨w.heap.size,0,none⟩) n n) (w.alloc (.cells us e)):=by
   have hnz:¬n*1=0:=by omega
   simp only[Instr.buildSlice,Sem.run_bind,run_underlying ht,Result.andThen_ok,dN (w:=w) hsz]
   rw[if_neg (by simpa using hlim)]
   simp only[hnz,if_false,Sem.run_bind,Sem.run_pure,Result.andThen_ok,hzr,htl,hf,Go.newRow,run_newObj];rfl
  have hr2:(execOp a.eval ⟨dst,.buildSlice t n Xs,type,pos,after,guard⟩).run P w=.ok (.value (.slice (some ⟨w.heap.size,0,none⟩) n n)) (w.alloc (.cells us e)):=by
   simp only[execOp,Sem.run_bind,hrun,Result.andThen_ok,Sem.run_pure]
  unfold Oper.wp;rw[hr2]
  exact hn (.pt 1 ps) s _ _ β τ π' hK ⟨w.heap.size,0,n,by simp[hpl],by omega,hh⟩ (fun p hp=>.inl (hpU p hp)) (R'.sub hsub)
 case indexAddr t x i=>
  split at hc<;>try(cases hc;done)
  rename_i e ht
  split at hc<;>try(cases hc;done)
  rename_i hok;simp only[Bool.and_eq_true,beq_iff_eq]at hok
  split at hc<;>try(cases hc;done)
  rename_i x' i' hx' hi';cases hc;simp only[bH]at h;obtain⟨p,hp,h⟩:=af h;obtain⟨hr,hU⟩:=R.bM hx' hp
  cases p<;>try(exact h.elim)
  rename_i k ps
  match k,hr,h with
  |1,hr,h=>
   obtain⟨av,hav,h⟩:=af h;obtain⟨j,hj,hlt,hK⟩:=af h;obtain⟨kk,hk⟩:=R.idx hi' hav hj;obtain⟨B,off,cap,h1,h2,h3⟩:=hr;simp only[if_true]at h1
   have hsz:=dN (w:=w) hok.2
   have hrun:(Instr.indexAt t (a.eval x) (a.eval i)).run P w=.ok (.pointer (some ⟨B,off+j.toNat*1,none⟩)) w:=by
    simp[Instr.indexAt,hk,h1,asIntOf,run_underlying ht,hlt,hsz,iA]
   refine fin (v:=.pt 2 (ps.drop j.toNat)) (y:=.pointer (some ⟨B,off+j.toNat*1,none⟩)) (by simp only[execOp,Sem.run_bind,hrun,Result.andThen_ok,Sem.run_pure]) (.Fp fun m q hq=>?_) (fun q hq=>hU q (List.mem_of_mem_drop hq)) hK
   rw[List.getElem?_drop]at hq
   have:=h3 _ q hq
   rwa[Nat.mul_one,Nat.add_assoc]
  |0,_,h=>exact h.elim
  |k+2,_,h=>exact h.elim
 case store t x v=>
  split at hc<;>try(cases hc;done)
  rename_i hs;simp only[Bool.and_eq_true,beq_iff_eq]at hs
  split at hc<;>try(cases hc;done)
  rename_i x' v' hx' hv';cases hc;simp only[bH]at h;obtain⟨p,hp,h⟩:=af h;obtain⟨hr,hU⟩:=R.bM hx' hp
  cases p<;>try(exact h.elim)
  rename_i b off
  cases off with
  |succ off=>exact h.elim
  |zero=>
   obtain⟨q,hq,h⟩:=af h;obtain⟨hrq,hUq⟩:=R.bM hv' hq
   cases q<;>try(exact h.elim)
   rename_i k ps
   match k,hrq,h with
   |0,hrq,h=>
    obtain⟨y,hy,⟨h4,hy1,hp1⟩,hK⟩:=af h;obtain⟨p,rfl⟩:=List.length_eq_one_iff.1 hp1
    have hev:a.eval v=.agg #[.pointer (some ⟨β p.1,p.2,none⟩)]:=hrq
    have hex:a.eval x=.pointer (some ⟨β b,0,none⟩):=hr
    obtain⟨h1,h2,⟨cur,el,hh,hcd,hcs,hct,hnp⟩,h4'⟩:=R.boxes b y hy
    have hsz:1<=cur.size:=by have:=hcd.1;simp at this;omega
    have hst:=run_storeCells_at (P:=P) (β b) 0 el [.pointer (some ⟨β p.1,p.2,none⟩)] 0 cur w hh (by simp;omega) (by simp[Value.oneCell'])
    simp only[Nat.add_zero]at hst;generalize hcur':(cur.toList.take 0++[Value.pointer (some ⟨β p.1,p.2,none⟩)]++cur.toList.drop (0+[Value.pointer (some ⟨β p.1,p.2,none⟩)].length)).toArray=cur' at hst
    have hc0:cur'.toList.take 1=[.pointer (some ⟨β p.1,p.2,none⟩)]:=by rw[<-hcur'];simp
    have hc1:cur'[0]? =some (.pointer (some ⟨β p.1,p.2,none⟩)):=by rw[<-hcur'];simp
    have hrun:(Instr.storeAt t (a.eval x) (a.eval v)).run P w=.ok () (w.setRow (β b) cur'):=by
     simp[hex,hev,Value.cells,Instr.storeAt,Instr.sureAddr,storeVar,dN (w:=w) hs.2,hst]
    have R1:=R.HV (y:=⟨[.ref []],[]⟩) hy hh (cur':=cur') (by
     show jr w π [.ref []] (cur'.toList.take 1)
     rw[hc0]
     exact⟨by simp,fun i c u hc hu=>by
      cases i with
      |zero=>simp at hc hu;subst hc hu;exact .ref [] _ _ (fun _=>undef) (by simp) (by simp) (by simp) (by simp)
      |succ i=>simp at hc⟩) (by simp[AV.scalar]) (fun o q hq=>by cases hq)
    have hlk:ct b (nW b ⟨[.ref []],[]⟩ s.boxes)=some ⟨[.ref []],[]⟩:=by rw[i9];simp[hy]
    obtain⟨π',R2⟩:=R1.Lv (b:=b) hlk h4 (p:=p) (hUq p (by simp)) (by
     rw[cell_of_row (w.setRow (β b) cur') (β b) 0 cur' el (0,0) (setRow_heap w _ cur _ el _ hh)]
     exact hc1)
    unfold Oper.wp
    have:(execOp a.eval ⟨dst,.store t x v,type,pos,after,guard⟩).run P w=.ok .skip (w.setRow (β b) cur'):=by simp only[execOp,Sem.run_bind,hrun,Result.andThen_ok,Sem.run_pure]
    rw[this];simp only[AM]at R2;exact hn .undef _ undef _ β τ π' hK rfl trivial (R2.sub hsub)
   |k+1,_,h=>exact h.elim
 case call cl=>
  obtain⟨callee,args,argTypes⟩:=cl;split at hc
  ·rename_i t x hcal hT hX
   simp only at hcal;subst hcal
   split at hc<;>try(cases hc;done)
   rename_i e ht
   split at hc<;>try(cases hc;done)
   simp only[Option.map_eq_some_iff]at hc;obtain⟨x',hx',rfl⟩:=hc;simp only[bH]at h;obtain⟨p,hp,h⟩:=af h;obtain⟨hr,hU⟩:=R.bM hx' hp
   cases p<;>try(exact h.elim)
   rename_i k ps
   match k,hr,h with
   |1,hr,h=>
    obtain⟨B,off,cap,h1,h2,h3⟩:=hr;simp only[if_true]at h1
    have eT:argTypes=#[t]:=Array.toList_inj.1 (by simpa using hT)
    have eX:args=#[x]:=Array.toList_inj.1 (by simpa using hX)
    subst eT eX
    refine fin (v:=.dat (.int .i64 ps.length) none) (y:=.int .i64 ps.length) ?_ ⟨.int _ _,fun t ht=>by cases ht⟩ trivial h
    simp[execOp,resolve,invoke,builtin,Builtin.len_,run_underlying ht,goInt,h1]
   |0,_,h=>exact h.elim
   |k+2,_,h=>exact h.elim
  ·unfold HP at hc
   split at hc<;>try(cases hc;done)
   rename_i g hg;simp only at hg;subst hg
   split at hc<;>try(cases hc;done)
   simp only[Option.map_eq_some_iff]at hc;obtain⟨xs,hxs,rfl⟩:=hc;simp only[bH]at h;obtain⟨av,hav,h⟩:=af h
   have hdg:=R.aQ (X:=.tmp g) rfl hav
   cases av<;>try(exact h.elim)
   rename_i fn first caps
   cases fn<;>try(exact h.elim)
   rename_i f
   cases first<;>try(exact h.elim)
   cases caps<;>try(exact h.elim)
   obtain⟨⟨pas,ids⟩,hsv,hnd,h⟩:=af h;obtain⟨css,hcs,j,o,b,hp,hj,hK⟩:=af h
   have hp:HU P f css pas j o:=hp
   obtain⟨hca,_,hp⟩:=hp
   have hnd':=d7 hnd
   have harg:=(R.dB (by simpa[ga]using hxs) hsv).1
   have e1:(args.toList.map a.eval).toArray=args.map a.eval:=Array.toList_inj.1 (by simp)
   have hr:(execOp a.eval ⟨dst,.call ⟨.value (.tmp g),args,argTypes⟩,type,pos,after,guard⟩).run P w=.ok (.enter f (args.toList.map a.eval).toArray) w:=by
    generalize he:a.eval (.tmp g)=u at hdg
    cases hdg with
    |fn _ _ vs _ us h1 h2 h3 h4=>
     have e2:vs=#[]:=Array.size_eq_zero_iff.1 (by simpa using h1.symm)
     have e3:us=#[]:=Array.size_eq_zero_iff.1 (by simpa using h2.symm)
     subst e2 e3;rw[e1];simp[execOp,resolve,he,Deferred.ofValue,invoke,fh hca]
   unfold Oper.wp;rw[hr,Oper.upon_enter];refine(hp w π (ids.map β) (args.toList.map a.eval) R.ej (R.nodup hnd' hcs) (R.nK hcs) harg).mono ?_
   rintro e w' ⟨B,π',hB,rfl,hbel,hp1,hp2,hp3,hbx⟩
   obtain⟨τ',_,R'⟩:=R.rX (fr:=none) hid hnd' hcs rfl hbel hp1 hp2 hp3 hbx DV.fJ (fun t ht=>by cases ht)
   have hBb:B=β b:=by
    rw[List.getElem?_map,hj]at hB
    simpa using hB.symm
   obtain⟨t,_,v,hl,hv⟩:=iC hsv b (List.mem_of_getElem? hj)
   refine hn (.ptr b o) _ _ _ _ _ _ hK (show _=_ by rw[hBb]) (.inl (SV.yF hv (R.slots t _ hl).2)) R'
theorem Gt(R:Rel P nt n0 w0 π0 U s a w β τ π) {o:Oper} {c:CD} {id:Nat} (hid:¬U id) (hc:RS P o.type o.op=some c) {K:SV->S->Prop} {X:AV->S->Prop} (h:bH (Pure P) id c K X s) {next:Act->World->Prop} {Q:Exit->Act->World->Prop}
  (hn:∀v s' x w' β' τ' π',K v s'->RV β' τ' w' π' v x->v.gp (eE U id)->Rel P nt n0 w0 π0 (eE U id) s' a w' β' τ' π'->next (a.put o.dst x) w')
  (hx:∀p s' w' β' τ' π',X p s'->Rel P nt n0 w0 π0 (eE U id) s' a w' β' τ' π'->Q (.panic (d8 p)) a w'):o.wp P a w next Q:=by
 unfold RS at hc;split at hc
 ·rename_i x hx'
  cases hc;exact Gs R hid hx' h hn
 ·exact Es R hid hc h hn hx
def CZ(C:bw) (id:Nat) (o:XO) (K:S->Prop) (X:AV->S->Prop) (s:S):Prop:=eA s o.g (bH C id o.op (fun v s'=>K (s'.put o.dst v)) X s) (K (s.put o.dst .undef))
theorem Et{C:bw} {base i:Nat} {o:XO} {r:List XO} {K:S->Prop} {X:AV->S->Prop} {s:S}:eU C base i (o::r) K X s=CZ C (base+i) o (eU C base (i+1) r K X) X s:=rfl
theorem Gu{ops:Array Oper} {o:Oper} {c:XO} (hc:qz P ops o=some c):c.dst=o.dst:=by
 unfold qz at hc;split at hc
 ·split at hc<;>try(cases hc;done)
  cases hc;rfl
 ·simp only[Option.map_eq_some_iff]at hc
  obtain⟨c0,h0,rfl⟩:=hc;exact wg h0
theorem C0(R:Rel P nt n0 w0 π0 U s a w β τ π) {ops:Array Oper} {o:Oper} {c:XO} {id:Nat} (hid:¬U id) (hc:qz P ops o=some c) (hfit:∀d,c.dst=some d->d<nt) {K:S->Prop} {X:AV->S->Prop} (h:CZ (Pure P) id c K X s)
  {next:Act->World->Prop} {Q:Exit->Act->World->Prop}
  (hn:∀s' x w' β' τ' π',K s'->Rel P nt n0 w0 π0 (eE U id) s' (a.put o.dst x) w' β' τ' π'->next (a.put o.dst x) w')
  (hx:∀p s' w' β' τ' π',X p s'->Rel P nt n0 w0 π0 (eE U id) s' a w' β' τ' π'->Q (.panic (d8 p)) a w'):
  if Region.wanted o (yielded ops a.tmps)then o.wp P a w next Q else next (a.put o.dst undef) w:=by
 unfold qz at hc;split at hc;rotate_left
 ·simp only[Option.map_eq_some_iff]at hc
  obtain⟨c0,h0,rfl⟩:=hc;exact yL R hid h0 hfit h hn
 rename_i cop hop
 split at hc<;>try(cases hc;done)
 rename_i g hg;cases hc;simp only at hfit
 have run:bH (Pure P) id cop (fun v s'=>K (s'.put o.dst v)) X s->o.wp P a w next Q:=fun h=>
  Gt R hid hop h (fun v s' x w' β' τ' π' hK hv hu R'=>hn _ _ _ _ _ _ hK (R'.put o.dst hfit hv hu)) hx
 have skip:K (s.put o.dst .undef)->next (a.put o.dst undef) w:=fun h=>
  hn _ _ _ _ _ _ h ((R.sub fun n h=>.inl h).put o.dst hfit rfl trivial)
 unfold CZ eA at h
 rcases xd hg with⟨h1,h2⟩|⟨j,want,t,h1,h2,h3⟩
 ·subst h2
  simp only at h;simp only[Region.wanted,h1,if_true];exact run h
 ·subst h3
  simp only at h
  cases hl:lk t s.slots with
  |none=>simp[hl]at h
  |some v=>
   obtain⟨⟨x,hx',hrv⟩,hui⟩:=R.slots t v hl;simp only[hl]at h
   have hy:∀b,x=.bool b->yielded ops a.tmps j=some b:=fun b hb=>by
    unfold yielded;rw[h2];simp[hx',hb]
   cases v with
   |ptr b o=>exact h.elim
   |rp cs=>exact h.elim
   |vs _ _ _ _=>exact h.elim
   |nD _ _ _=>exact h.elim
   |raw _ _=>exact h.elim
   |pt _ _=>exact h.elim
   |undef=>
    have hxu:x=undef:=hrv
    have hy':yielded ops a.tmps j=none:=by
     unfold yielded;rw[h2];simp[hx',hxu,undef]
    simp only[Region.wanted,h1,hy'];exact skip h
   |dat av q=>
    cases av<;>try(exact h.elim)
    rename_i b
    have hxb:x=.bool b:=hrv.1.qB
    simp only[Region.wanted,h1,hy b hxb]
    by_cases hb:b=want
    ·subst hb;simp;exact run (h.1 rfl)
    ·have hb':b=!want:=by cases b<;>cases want<;>first|rfl|exact absurd rfl hb
     have:(some b==some want)=false:=by subst hb';cases want<;>rfl
     rw[this];exact skip (h.2 hb')
theorem C1{t:TypeId} {c:Call}:RS P t (.defer c)=none:=rfl
theorem xe(R:Rel P nt n0 w0 π0 U s a w β τ π) {ops:Array Oper} {o:Oper} {c:XO} {i id:Nat} (ho:ops[i]? =some o) (hid:¬U id) (hc:qz P ops o=some c) (hfit:∀d,c.dst=some d->d<nt) {K:S->Prop} {X:AV->S->Prop} (h:CZ (Pure P) id c K X s)
  {next:Act->World->Prop} {Q:Exit->Act->World->Prop}
  (hn:∀s' x w' β' τ' π',K s'->Rel P nt n0 w0 π0 (eE U id) s' (a.put o.dst x) w' β' τ' π'->next (a.put o.dst x) w')
  (hx:∀p s' w' β' τ' π',X p s'->Rel P nt n0 w0 π0 (eE U id) s' a w' β' τ' π'->Q (.panic (d8 p)) a w') {r:Option Nat} {n:Nat}:wpOpIn (FW r) n P ops Q i next a w:=by
 have:=C0 R hid hc hfit h hn hx
 have hnd:∀c,o.op≠.defer c:=by
  intro c' e;unfold qz at hc;rw[e,C1]at hc;simp only[Option.map_eq_some_iff]at hc;obtain⟨c0,hc,_⟩:=hc;unfold nF at hc;rw[e]at hc;simp[HM,tM,Gg,KT]at hc
 unfold wpOpIn;simp only[ho];split
 ·rename_i hw;rw[if_pos hw]at this;exact NW this hnd
 ·rename_i hw;rw[if_neg hw]at this;exact⟨fun _ _=>trivial,this⟩
theorem qM{ops:Array Oper}:∀{l:List Oper} {cs:List XO},qA P ops l=some cs->cs.length=l.length/\∀(i:Nat) (o:Oper) (c:XO),l[i]? =some o->cs[i]? =some c->qz P ops o=some c
 |[],cs,h=>by simp[qA]at h;subst h;exact⟨rfl,fun i o c h=>by simp at h⟩
 |o::l,cs,h=>by
  unfold qA at h
  split at h<;>try(cases h;done)
  rename_i c cs' h1 h2;cases h;obtain⟨e,hs⟩:=qM h2
  refine⟨by simp[e],fun i o' c' ho hc=>?_⟩
  cases i with
  |zero=>simp at ho hc;subst ho;subst hc;exact h1
  |succ i=>exact hs i o' c' (by simpa using ho) (by simpa using hc)
theorem nY{n:Nat}:∀{l:List XO},mO n l=true->∀(i:Nat) (c:XO) (d:Nat),l[i]? =some c->c.dst=some d->d<n
 |[],h,i,c,d,hi,hd=>by simp at hi
 |o::l,h,i,c,d,hi,hd=>by
  simp only[mO,Bool.and_eq_true]at h
  cases i with
  |zero=>
   simp at hi;subst hi
   have:=h.1
   rw[hd]at this
   simpa using this
  |succ i=>exact nY h.2 i c d (by simpa using hi) hd
theorem AN{c:XO} {d:Nat}:∀{l:List XO},c∈l->c.dst=some d->d∈CI l
 |[],h,_=>by cases h
 |o::l,h,hd=>by
  simp only[CI,List.mem_append]
  rcases List.mem_cons.1 h with rfl|h
  ·exact .inl (by rw[hd];simp)
  ·exact .inr (AN h hd)
theorem qN{ops:Array Oper} {cos:List XO} {base:Nat} (i0:Nat) (hlen:cos.length=ops.size) (hcos:∀(i:Nat) (o:Oper) (c:XO),i0<=i->ops[i]? =some o->cos[i]? =some c->qz P ops o=some c) (hfit:∀(i:Nat) (c:XO) (d:Nat),cos[i]? =some c->c.dst=some d->d<nt)
  {T:Nat->Prop} {a0:Act} (hT:∀(i:Nat) (c:XO) (d:Nat),cos[i]? =some c->c.dst=some d->¬T d) {r:Option Nat} {m:Nat}
  {K:S->Prop} {X:AV->S->Prop} {Q:Exit->Act->World->Prop} (hQ:∀s a w β τ π U,(∀n,U n->n<base+ops.size)->K s->oA T a0 a->Rel P nt n0 w0 π0 U s a w β τ π->Q .normal a w)
  (hX:∀p s a w β τ π U,(∀n,U n->n<base+ops.size)->X p s->oA T a0 a->Rel P nt n0 w0 π0 U s a w β τ π->Q (.panic (d8 p)) a w):
  ∀(rest:List XO) (i:Nat) (s:S) (a:Act) (w:World) (β:Nat->Nat) (τ:Nat->Value) (π:Nat->Nat->Prop) (U:Nat->Prop),i0<=i->cos.drop i=rest->i+rest.length=ops.size->(∀n,U n->n<base+i)->oA T a0 a->Rel P nt n0 w0 π0 U s a w β τ π->
   eU (Pure P) base i rest K X s->wpOpsIn (FW r) m P ops Q (List.range' i rest.length) a w
 |[],i,s,a,w,β,τ,π,U,hi0,hd,hn,hU,hp,R,h=>hQ s a w β τ π U (fun n h=>by have:=hU n h;simp at hn;omega) h hp R
 |o::rest,i,s,a,w,β,τ,π,U,hi0,hd,hn,hU,hp,R,h=>by
  have hio:cos[i]? =some o:=by
   have:(cos.drop i)[0]? =some o:=by rw[hd];rfl
   simpa using this
  have hilt:i<ops.size:=by simp at hn;omega
  have hpi:ops[i]? =some ops[i]:=by simp[hilt]
  rw[Et]at h;simp only[List.length_cons,List.range'_succ];rw[wpOpsIn_cons]
  refine xe R hpi (fun h=>by have:=hU _ h;omega) (hcos i _ o hi0 hpi hio) (hfit i o · hio) h (fun s' x w' β' τ' π' hK R'=>?_) (fun p s' w' β' τ' π' hXp R'=>hX p s' a w' β' τ' π' _ (fun n h=>?_) hXp hp R')
  ·refine qN i0 hlen hcos hfit hT hQ hX rest (i+1) s' _ w' β' τ' π' _ (by omega) ?_ (by simp at hn;omega) (fun n h=>?_) (hp.put (fun d hd=>hT i o d hio (by rw[Gu (hcos i _ o hi0 hpi hio)];exact hd)) x) R' hK
   ·rw[<-List.tail_drop,hd];rfl
   ·rcases h with h|h
    ·have:=hU n h;omega
    ·omega
  ·rcases h with h|h
   ·have:=hU n h;omega
   ·omega
theorem th{id:Nat} {ops:Array Oper} {cos:List XO} (hc:qA P ops ops.toList=some cos) (hfit:mO nt cos=true)
  (R:Rel P nt n0 w0 π0 U s a w β τ π) (hU:∀n,U n->n<s.nx) {K:S->Prop} {X:AV->S->Prop} {Q:Exit->Act->World->Prop} (h:eU (Pure P) s.nx 0 cos K X s)
  {T:Nat->Prop} (hT:∀d,d∈CI cos->¬T d) {r:Option Nat} {m:Nat}
  (hQ:∀s' a' w β τ π U,(∀n,U n->n<s.nx+cos.length)->K s'->oA T a a'->Rel P nt n0 w0 π0 U s' a' w β τ π->Q .normal a' w)
  (hX:∀p s' a' w β τ π U,(∀n,U n->n<s.nx+cos.length)->X p s'->oA T a a'->Rel P nt n0 w0 π0 U s' a' w β τ π->Q (.panic (d8 p)) a' w):(Code.region id ops false).wpIn (FW r) m P Q a w:=by
 obtain⟨hlen0,hcos0⟩:=qM hc
 have hlen:cos.length=ops.size:=by simpa using hlen0
 rw[hlen]at hQ hX;refine wpIn_region ?_
 have:=qN (r:=r) (m:=m) 0 hlen (fun i o c _ h1 h2=>hcos0 i o c (by simpa using h1) h2) (nY hfit) (fun i c d hi hd=>hT d (AN (List.mem_of_getElem? hi) hd)) hQ hX cos 0 s a w β τ π U (Nat.le_refl _) rfl (by simpa using hlen) (by simpa using hU) (.refl _ _) R h
 rw[hlen]at this;rw[List.range_eq_range'];exact this
theorem Eu{C:bw} {id:Nat} {o:bR} (hq:o.quiet=true) {K:SV->S->Prop} {s:S} (h:bN C id o K s):∃v,K v s:=by
 cases o<;>(try(cases hq;done))<;>simp only[bN]at h
 ·obtain⟨v,_,h⟩:=af h;exact⟨v,h⟩
 ·obtain⟨p,hp,h⟩:=af h
  cases p<;>try(exact h.elim)
  ·obtain⟨_,_,h⟩:=af h;obtain⟨_,_,h⟩:=af h;exact⟨_,h⟩
  ·obtain⟨_,_,h⟩:=af h;exact⟨_,h⟩
 ·obtain⟨p,hp,h⟩:=af h
  cases p<;>try(exact h.elim)
  ·exact⟨_,h⟩
  ·exact⟨_,h⟩
  ·rename_i k ps
   match k,h with
   |2,h=>exact⟨_,h⟩
   |0,h=>exact h.elim
   |1,h=>exact h.elim
   |k+3,h=>exact h.elim
 ·obtain⟨_,_,h⟩:=af h
  obtain⟨_,_,h⟩:=af h;obtain⟨_,_,h⟩:=af h;obtain⟨_,_,_,_,h⟩:=af h;exact⟨_,h⟩
 ·rename_i x sz
  obtain⟨p,hp,h⟩:=af h
  cases p<;>try(exact h.elim)
  rename_i k ps
  match k,sz,ps,h with
  |2,none,(b,o)::ps,h=>exact⟨_,h⟩
  |2,none,[],h=>exact h.elim
  |2,some n,[],h=>exact⟨_,h.2⟩
  |2,some n,_::_,h=>exact⟨_,h.2⟩
  |0,_,_,h=>exact h.elim
  |1,_,_,h=>exact h.elim
  |k+3,_,_,h=>exact h.elim
theorem yQ{k:Nat} {dep:List Nat}:∀{l:List CO} {i j:Nat},(mq k dep i l)[j]? =(l[j]?).map (vT k dep (i+j))
 |[],i,j=>by simp[mq]
 |o::l,i,0=>by simp[mq]
 |o::l,i,j+1=>by
  simp only[mq,List.getElem?_cons_succ];rw[yQ,Nat.add_assoc,Nat.add_comm 1 j]
theorem C2{k:Nat} {dep:List Nat}:∀{l:List CO} {i:Nat},(mq k dep i l).length=l.length
 |[],i=>rfl
 |o::l,i=>by simp[mq,C2]
theorem qO{k:Nat} {dep:List Nat} {d:Nat}:∀{l:List CO} {i:Nat},yu k dep d i l=true->∀(j:Nat) (o:CO),l[j]? =some o->
  (i+j=k->∃f args,o=⟨some d,.aE f args,none⟩)/\(i+j≠k->dep.contains (i+j)=true\/(o.op.quiet=true/\o.g=none/\∃t,o.dst=some t/\t≠d))
 |[],i,h,j,o,ho=>by simp at ho
 |a::l,i,h,j,o,ho=>by
  simp only[yu,Bool.and_eq_true]at h
  cases j with
  |zero=>
   simp at ho;subst ho;rw[Nat.add_zero]
   refine⟨fun e=>?_,fun e=>?_⟩
   ·have h1:=h.1
    rw[if_pos e]at h1;obtain⟨dst,op,g⟩:=a
    cases op<;>try(cases h1;done)
    simp only[Bool.and_eq_true,Option.isNone_iff_eq_none,beq_iff_eq]at h1;obtain⟨rfl,rfl⟩:=h1;exact⟨_,_,rfl⟩
   ·have h1:=h.1
    rw[if_neg e]at h1;simp only[Bool.or_eq_true,Bool.and_eq_true,Option.isNone_iff_eq_none,bne_iff_ne,ne_eq]at h1
    rcases h1 with h1|⟨⟨⟨h1,h2⟩,h3⟩,h4⟩
    ·exact .inl h1
    ·obtain⟨t,ht⟩:=Option.isSome_iff_exists.1 h3
     exact .inr ⟨h1,h2,t,ht,fun e=>h4 (by rw[ht,e])⟩
  |succ j=>
   have:=qO h.2 j o (by simpa using ho)
   rw[show i+(j+1)=i+1+j by omega]
   exact this
theorem yR{k:Nat} {dep:List Nat}:∀{l:List Oper} {i:Nat},AA k dep i l=true->∀(j:Nat) (o:Oper),l[j]? =some o->dep.contains (i+j)=true->∃e∈o.after,Region.binds .any e=true/\(e.on=k\/(dep.contains e.on=true/\e.on<i+j))
 |[],i,h,j,o,ho,_=>by simp at ho
 |a::l,i,h,j,o,ho,hd=>by
  simp only[AA,Bool.and_eq_true]at h
  cases j with
  |zero=>
   simp at ho;subst ho;rw[Nat.add_zero]at hd⊢
   have h1:=h.1
   rw[hd]at h1;simp only[Bool.not_true,Bool.false_or,Array.any_eq_true']at h1;obtain⟨e,he,h2⟩:=h1;simp only[Bool.and_eq_true,Bool.or_eq_true,beq_iff_eq,decide_eq_true_eq]at h2;exact⟨e,he,h2.1,h2.2⟩
  |succ j=>
   rw[show i+(j+1)=i+1+j by omega]at hd⊢
   exact yR h.2 j o (by simpa using ho) hd
theorem Ij{ops:Array Oper} {k:Nat} {dep:List Nat} (hd:AA k dep 0 ops.toList=true) {l:Array Bool} (hc:qI ops l):∀(i:Nat),dep.contains i=true->(l.getD i false=true\/i∈Region.ready .any ops l)->i<ops.size->l.getD k false=true:=by
 intro i
 induction i using Nat.strongRecOn with
 |_ i ih=>
  intro hdi hr hi
  obtain⟨o,ho⟩:∃o,ops[i]? =some o:=⟨ops[i],by simp[hi]⟩
  obtain⟨e,he,hb,hor⟩:=yR hd i o (by simpa using ho) (by simpa using hdi)
  have hl:l.getD e.on false=true:=by
   rcases hr with h|h
   ·exact hc i o ho h e he hb
   ·obtain⟨_,o',ho',hall⟩:=mem_ready.1 h
    rw[ho]at ho';cases ho';exact hall e he hb
  rcases hor with e1|⟨h1,h2⟩
  ·rw[<-e1];exact hl
  ·rw[Nat.zero_add]at h2
   exact ih e.on h2 h1 (.inl hl) (by omega)
theorem C3{ops:Array Oper} {cos:List CO} {dZ:List (Nat×Nat)} (hok:jH dZ ops.toList cos=true) (hlen:cos.length=ops.size) {l:Array Bool} (hl:l.size=ops.size):∀(k:Nat),k<ops.size->l.getD k false=false->Region.ready .any ops l≠[]:=by
 intro k
 induction k using Nat.strongRecOn with
 |_ k ih=>
  intro hk hkl h0
  by_cases hall:∀j,j<k->l.getD j false=true
  ·have:k∈Region.ready .any ops l:=by
    refine mem_ready.2 ⟨Fv (by omega) hkl,ops[k],by simp[hk],fun e he hb=>?_⟩
    have:=(kT hok k ops[k] (cos[k]'(by omega)) (by simp[hk]) (by simp)).1 e he hb
    exact hall e.on (by simpa using this)
   rw[h0]at this;cases this
  ·obtain⟨j,hj⟩:=Classical.not_forall.1 hall
   obtain⟨hj,hjl⟩:=Classical.not_imp.1 hj
   exact ih j hj (by omega) (by simpa using hjl) h0
theorem uS{wr:List Nat} {t:Nat}:∀{l:List (Nat×SV)} {v:SV},lk t (nB wr l)=some v->¬t∈wr/\lk t l=some v
 |[],v,h=>by cases h
 |(m,u)::r,v,h=>by
  simp only[nB]at h
  cases hc:wr.contains m with
  |true=>
   rw[hc]at h
   obtain⟨h1,h2⟩:=uS (l:=r) h
   refine⟨h1,?_⟩
   have hne:¬t=m:=fun e=>h1 (by subst e;simpa using hc)
   simp only[lk,j7,hne,if_false];exact h2
  |false=>
   rw[hc]at h;simp only[cond_false,lk,j7]at h⊢
   by_cases e:t=m
   ·rw[if_pos e]at h⊢
    exact⟨fun hm=>by subst e;simp at hc;exact hc hm,h⟩
   ·rw[if_neg e]at h⊢
    exact uS (l:=r) h
theorem mG{wr:List Nat} {t:Nat} (h:¬t∈wr):∀{l:List (Nat×SV)},lk t (nB wr l)=lk t l
 |[]=>rfl
 |(m,u)::r=>by
  simp only[nB]
  cases hc:wr.contains m with
  |true=>
   have hne:¬t=m:=fun e=>h (by subst e;simpa using hc)
   simp only[cond_true,lk,j7,hne,if_false];exact mG h
  |false=>
   simp only[cond_false,lk,j7];rw[mG h]
theorem Rel.Lw(R:Rel P nt n0 w0 π0 U s a w β τ π) {l:List (Nat×SV)} (h:∀t v,lk t l=some v->lk t s.slots=some v):Rel P nt n0 w0 π0 U {s with slots:=l} a w β τ π:=
 ⟨R.size,fun t v hv=>R.slots t v (h t v hv),R.boxes,R.inj,R.live,R.bS,R.cK,R.below,R.fu,R.ej,R.eo,R.cH,R.lQ,R.jt,R.kept⟩
theorem AO(n k:Nat):(Array.replicate n false).getD k false=false:=by
 rw[Array.getD_eq_getD_getElem?,Array.getElem?_replicate];split<;>rfl
theorem BN{ops:List Oper} {op:Op} {f:Nat} {as:List bE}:tM P ops op≠some (.aE f as):=by
 intro h;unfold tM at h
 (repeat' split at h)<;>cases h
theorem Gv{op:Op} {f:Nat} {as:List bE} (h:KT P op=some (.aE f as)):∃c,op=.call c/\c.callee=.value (.func f)/\cg P f=true/\ga c.args=some as/\o5 P c.argTypes.toList=true:=by
 cases op<;>simp only[KT]at h
 case call c=>
  refine⟨c,rfl,?_⟩;unfold tc at h;split at h
  ·rename_i g hg
   split at h
   ·rename_i hcl
    simp only[Option.map_eq_some_iff]at h;obtain⟨xs,hxs,he⟩:=h
    split at he<;>cases he
    rename_i hpt;exact⟨hg,hcl,hxs,hpt⟩
   ·split at h<;>simp at h
  all_goals(exfalso;(repeat' split at h)<;>simp at h)
 case convert s d x=>
  simp only[Option.bind_eq_some_iff]at h;obtain⟨y,_,h⟩:=h;unfold CH at h
  (repeat' split at h)<;>cases h
 all_goals(exfalso;revert h;(repeat' split)<;>(try simp[So])<;>(repeat' split)<;>(try simp)<;>(rename_i heq;cases heq))
theorem xg{ops:Array Oper} {o:Oper} {d:Option Nat} {f:Nat} {as:List bE} {g:Option (Nat×Bool)} (h:nF P ops o=some ⟨d,.aE f as,g⟩):∃c,o.op=.call c/\c.callee=.value (.func f)/\cg P f=true/\ga c.args=some as/\o5 P c.argTypes.toList=true:=by
 unfold nF at h;split at h
 ·rename_i cc gg hcc hgg
  cases h;unfold HM at hcc;split at hcc
  ·rename_i e;cases hcc;exact absurd e BN
  ·split at hcc
   ·rename_i e
    cases hcc;exfalso;unfold Gg at e
    (repeat' split at e)<;>cases e
   ·exact Gv hcc
 ·cases h
theorem C4{ops:Array Oper} {o:Oper} {d:Option Nat} {f:Nat} {as:List bE} {g:Option (Nat×Bool)} (h:nF P ops o=some ⟨d,.aE f as,g⟩):qz P ops o=some ⟨d,.aE f as,g⟩:=by
 obtain⟨c,hpc,hcal,hcb,hps,hptr⟩:=xg h;unfold nF at h;split at h
 ·rename_i cc gg hcc hgg
  cases h
  have e:RS P o.type o.op=some (.aE f as):=by
   rw[hpc];simp[RS,V5,HP,hcal,K3,Oo,tc,HO,hcb,hps,hptr]
  unfold qz;rw[e,hgg]
 ·cases h
theorem getD_set_ne{l:Array Bool} {i j:Nat} {b c:Bool} (h:i≠j):(l.setIfInBounds i b).getD j c=l.getD j c:=by
 simp only[Array.getD_eq_getD_getElem?,Array.getElem?_setIfInBounds_ne h]
theorem FD{C:bw} {base:Nat} {ops:Array Oper} {cos:List CO} {K:S->Prop} {ds:List Nat} {d:Nat} (P0:Nat->Prop)
  (hq:∀i o,¬P0 i->cos[i]? =some o->(o.op.quiet=true/\o.g=none/\(o.dst=none\/∃t,o.dst=some t/\t≠d/\t∈ds))):
  ∀(f:Nat) (l:Array Bool) (s:S),(∀i,P0 i->l.getD i true=true)->BJ C base ops cos K f l s->∃sl,K {s with slots:=sl}/\lk d sl=lk d s.slots/\nB ds sl=nB ds s.slots
 |0,l,s,hP,h=>⟨s.slots,h.2,rfl,rfl⟩
 |f+1,l,s,hP,h=>by
  cases hr:Region.ready .any ops l with
  |nil=>exact⟨s.slots,h.1 hr,rfl,rfl⟩
  |cons i r=>
   have hi:i∈Region.ready .any ops l:=by rw[hr];exact List.mem_cons_self
   obtain⟨o,ho,hs⟩:=h.2 i hi
   have hun:=(mem_ready.1 hi).1
   have hnp:¬P0 i:=fun hp=>by have:=hP i hp;rw[hun]at this;cases this
   obtain⟨hqo,hg,hdst⟩:=hq i o hnp ho;unfold jS eA at hs;rw[hg]at hs;obtain⟨v,hs⟩:=Eu hqo hs
   obtain⟨sl,h1,h2,h3⟩:=FD P0 hq f _ _ (fun j hj=>by
    have:=hP j hj
    by_cases hij:i=j
    ·subst hij;exact absurd hj hnp
    ·rw[getD_set_ne hij];exact this) hs
   rcases hdst with e|⟨t,e,hne,hmem⟩
   ·rw[e]at h1 h2 h3;exact⟨sl,h1,h2,h3⟩
   ·rw[e]at h1 h2 h3
    refine⟨sl,h1,?_,?_⟩
    ·rw[h2,o7,if_neg (by intro e;cases e;exact hne rfl)]
    ·rw[h3]
     show nB ds ((t,v)::s.slots)=_
     have:ds.contains t=true:=by simpa using hmem
     simp only[nB,this,cond_true]
theorem tj(hm:P.follows .mixedOrders=true) {id:Nat} {ops:Array Oper} {cos:List CO} {dZ:List (Nat×Nat)} {k:Nat} {dep:List Nat} {d:Nat} (hc:tN P ops ops.toList=some cos)
  (hok:jH dZ ops.toList (mq k dep 0 cos)=true) (hdep:AA k dep 0 ops.toList=true) (hrest:yu k dep d 0 cos=true) (hk:k<ops.size) (hfit:gq nt cos=true)
  (R:Rel P nt n0 w0 π0 U s a w β τ π) (hU:∀n,U n->n<s.nx) {X:AV->S->Prop} {Q:Exit->Act->World->Prop} (h:Ol (Pure P) cos dZ k dep (cos.flatMap fun o=>o.dst.toList) X s)
  {T:Nat->Prop} (hT:∀t,t∈dstsOf cos->¬T t) {r:Option Nat} {m:Nat}
  (hX:∀p s' a' w β τ π U,(∀n,U n->n<s.nx+cos.length)->X p s'->oA T a a'->Rel P nt n0 w0 π0 U s' a' w β τ π->Q (.panic (d8 p)) a' w):(Code.region id ops true).wpIn (FW r) m P Q a w:=by
 obtain⟨hdyn,h⟩:=h;simp only[qw,K2,Bool.and_eq_true]at hdyn;obtain⟨⟨hen,hst⟩,hbad⟩:=hdyn;obtain⟨hlen0,hcos0⟩:=qL hc
 have hlenc:cos.length=ops.size:=by simpa using hlen0
 have hlen:(mq k dep 0 cos).length=ops.size:=by rw[C2];exact hlenc
 rw[hlenc]at hX
 have hfit':=pz hfit
 have hT':∀(i:Nat) (c:CO) (d:Nat),cos[i]? =some c->c.dst=some d->¬T d:=fun i c d hi hd=>hT d (tW (List.mem_of_getElem? hi) hd)
 obtain⟨ck,hck⟩:∃c,cos[k]? =some c:=⟨cos[k]'(by omega),by simp⟩
 obtain⟨fk,ak,hkk⟩:=(qO hrest k ck hck).1 (by simp)
 subst hkk
 have hst':∀j ok,(mq k dep 0 cos)[j]? =some ok->o4 (HK (tK s.slots) s.nx 0 (mq k dep 0 cos)) (s.nx+j) ok=true:=fun j ok hj=>by have:=o9 hst j ok hj;rwa[Nat.zero_add]at this
 refine wpIn_region_any hm ?_
 have R':Rel P nt n0 w0 π0 (UL s.nx (Array.replicate ops.size false)) s a w.drew β τ π:=R.draw.sub fun n hn=>.inl (hU n hn)
 have gen:∀(base':Nat) (r:List CO) (i:Nat) (s:S) {K K':S->Prop},(∀s,K s->K' s)->jh (Pure P) base' i r K s->jh (Pure P) base' i r K' s:=by
  intro base' r
  induction r with
  |nil=>intro i s K K' hk h;exact hk s h
  |cons o r ih=>
   intro i s K K' hk h;rw[kK]at h⊢;obtain⟨v,d,hd,hk',_⟩:=eY h;exact hd.2 s .refl _ (ih _ _ hk hk')
 -- the end,whatever stands for the same state
 obtain⟨ds,hds⟩:∃ds,ds=cos.flatMap fun o=>o.dst.toList:=⟨_,rfl⟩
 rw[<-hds]at h
 have h2:=gen s.nx _ 0 s (K':=fun s2=>∃s1,pW s1 s2/\∃d p,(cos[k]?).bind CO.dst=some d/\lk d s1.slots=some (.dat p none)/\X p (tL ds s1)) (fun s h=>⟨s,.refl,h⟩) h
 have h3:=qK hst' hbad (fun s s2 he ⟨s1,h1,hk⟩=>⟨s1,h1.trans he,hk⟩) hlen hok (mq k dep 0 cos) 0 (Array.replicate ops.size false) s rfl (by simpa using hlen) (by simp) (fun j hj=>by simp[hj]) R'.gp (fun t b ⟨v,hl,hb⟩=>mw hen t b v hl hb) h2
 rw[hlen]at h3
 have small:∀l:Array Bool,l.size=ops.size->∀n,UL s.nx l n->n<s.nx+ops.size:=by
  rintro l hl n (h|⟨i,hi,h⟩)
  ·omega
  ·have:i<l.size:=by
    rcases Nat.lt_or_ge i l.size with h'|h'
    ·exact h'
    ·simp[Array.getElem?_eq_none h']at h
   omega
 have hdsm:∀(i:Nat) (c:CO) (t:Nat),cos[i]? =some c->c.dst=some t->t∈ds:=fun i c t hi ht=>by
  rw[hds];exact List.mem_flatMap.2 ⟨c,List.mem_of_getElem? hi,by simp[ht]⟩
 have key:∀(f:Nat) (l:Array Bool) (s1:S) (a1:Act) (w1:World) (β:Nat->Nat) (τ:Nat->Value) (π:Nat->Nat->Prop),l.size=ops.size->qI ops l->l.getD k false=false->oA T a a1->Rel P nt n0 w0 π0 (UL s.nx l) s1 a1 w1 β τ π->
   BJ (Pure P) s.nx ops (mq k dep 0 cos) (fun s2=>∃s1,pW s1 s2/\∃d p,(cos[k]?).bind CO.dst=some d/\lk d s1.slots=some (.dat p none)/\X p (tL ds s1)) f l s1->wpAnyIn (FW r) m P .any ops Q f l a1 w1:=by
  intro f
  induction f with
  |zero=>intro l s1 a1 w1 β τ π hl _ hkl _ _ h;exact absurd h.1 (C3 hok hlen hl k hk hkl)
  |succ f ih=>
   intro l s1 a1 w1 β τ π hl hcl hkl hp R1 h
   refine⟨fun h0=>absurd h0 (C3 hok hlen hl k hk hkl),fun i hi=>?_⟩
   obtain⟨o,ho,hs⟩:=h.2 i hi;obtain⟨hun,pi,hpi,_⟩:=mem_ready.1 hi
   have hii:=lq hi
   rw[yQ,Nat.zero_add]at ho;obtain⟨o0,ho0,rfl⟩:=Option.map_eq_some_iff.1 ho
   have hco:=hcos0 i pi o0 (by simpa using hpi) ho0
   by_cases hik:i=k
   ·subst hik
    rw[hck]at ho0;cases ho0
    have hpo:vT i dep i ⟨some d,.aE fk ak,none⟩=⟨some d,.sZ fk ak,none⟩:=by rw[vT,if_pos rfl]
    rw[hpo]at hs;unfold jS eA at hs;simp only[bN]at hs;obtain⟨pp,hpp,hnd,hs⟩:=af hs;obtain⟨css,hcss,v,css',hq,hs⟩:=af hs
    -- the end of what is known
    obtain⟨sl,⟨s3,he,d',p',hd',hlk,hX'⟩,h2,h3⟩:=FD (ds:=ds) (d:=d) (fun j=>j=i) (fun j o hj hjo=>by
     rw[yQ,Nat.zero_add]at hjo;obtain⟨o1,ho1,rfl⟩:=Option.map_eq_some_iff.1 hjo
     have hj':¬j=i:=hj
     rcases(qO hrest j o1 ho1).2 (by simpa using hj')with hdj|⟨q1,q2,t,q3,q4⟩
     ·have:vT i dep j o1=⟨none,.mv (.k .mh),none⟩:=by
       rw[Nat.zero_add]at hdj;rw[vT,if_neg hj',if_pos hdj]
      rw[this];exact⟨rfl,rfl,.inl rfl⟩
     ·by_cases hdj:dep.contains j=true
      ·have:vT i dep j o1=⟨none,.mv (.k .mh),none⟩:=by rw[vT,if_neg hj',if_pos hdj]
       rw[this];exact⟨rfl,rfl,.inl rfl⟩
      ·have:vT i dep j o1=o1:=by rw[vT,if_neg hj',if_neg hdj]
       rw[this];exact⟨q1,q2,.inr ⟨t,q3,q4,hdsm j o1 t ho1 q3⟩⟩) f _ _ (fun j hj=>by subst hj;simp[hii]) hs
    rw[hck]at hd';cases hd'
    have hpv:p'=v:=by
     have h4:lk d s3.slots=lk d sl:=(he.slots d).symm
     rw[hlk,h2]at h4;simp[S.put,lk]at h4;exact h4
    subst hpv
    -- the call
    obtain⟨c,hpc,hcal,hcb,hps,hptr⟩:=xg hco
    have hx0:=C4 hco
    have hlt:i<ops.size:=hk
    refine xe R1 hpi (yH hun) hx0 (fun d hd=>hfit' i ⟨_,_,_⟩ d hck hd) (K:=fun _=>False) (X:=fun p s'=>p=p'/\s'={s1 with boxes:=dz pp.2 css' s1.boxes}) ?_ (fun _ _ _ _ _ _ h=>h.elim) (fun p s' w' β' τ' π' hx R2=>?_)
    ·unfold CZ eA
     simp only[bH,hpp,hcss,aG];exact .inr ⟨hnd,.inl ⟨_,css',hq,rfl,rfl⟩⟩
    ·obtain⟨rfl,rfl⟩:=hx
     have R3:=(R2.Lw (l:=nB ds s1.slots) (fun t v h=>(uS h).2)).seq (s2:=tL ds s3) ⟨fun t=>?_,fun b=>?_,fun q=>?_⟩
     ·exact hX _ _ _ _ _ _ _ _ (fun n hn=>hn.elim (small l hl n) (fun e=>by subst e;omega)) hX' hp R3
     ·show lk t (nB ds s3.slots)=lk t (nB ds s1.slots)
      by_cases ht:t∈ds
      ·have none:∀l:List (Nat×SV),lk t (nB ds l)=none:=fun l=>by
        cases hl:lk t (nB ds l)with
        |none=>rfl
        |some v=>exact absurd ht (uS hl).1
       rw[none,none]
      ·have h5:=congrArg (lk t) h3
       rw[mG ht,mG ht]at h5;rw[mG ht,mG ht];refine(he.slots t).symm.trans (h5.trans ?_)
       have hne:d≠t:=fun e=>ht (e▸hdsm i _ d hck rfl)
       exact(o7 (s:={s1 with boxes:=dz pp.2 css' s1.boxes})).trans (if_neg (by intro e;cases e;exact hne rfl))
     ·exact(he.boxes b).symm
     ·exact(he.live q).symm
   ·by_cases hdi:dep.contains i=true
    ·have:=Ij hdep hcl i hdi (.inr hi) (by omega)
     rw[hkl]at this;cases this
    ·have hpo:vT k dep i o0=o0:=by rw[vT,if_neg hik,if_neg hdi]
     rw[hpo]at hs
     refine tV R1 hpi (yH hun) ⟨o0,hco,.inl rfl⟩ (hfit' i o0 · ho0) hs fun s' x w' β' τ' π' hK R2=>?_
     exact ih _ s' _ w' β' τ' π' (by simp[hl]) (hcl.set hi) (by rw[getD_set_ne hik];exact hkl) (hp.put (fun d hd=>hT' i o0 d ho0 (by rw[wg hco];exact hd)) x) (R2.sub fun n hn=>BK (lq hi) hn) hK
 exact key ops.size _ s a _ β τ π (by simp) (fun k ok hk hl=>by rw[AO]at hl;cases hl) (AO _ _) (.refl _ _) R' h3
end
end Go.Eng
