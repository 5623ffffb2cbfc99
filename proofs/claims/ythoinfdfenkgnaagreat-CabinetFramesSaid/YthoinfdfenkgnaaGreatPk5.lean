/- The engine and the library,part 5 of 12: what the proofs of this seat need of them. -/
import Derived.Test.YthoinfdfenkgnaaGreatPk4
set_option linter.unnecessarySimpa false
set_option linter.unusedSimpArgs false
set_option linter.unusedVariables false
set_option linter.defProp false
set_option maxRecDepth 10000
set_option maxHeartbeats 4000000
namespace Go.Eng
open Go
open Go.RowKit (Below)
section
variable {P:Program} {nt:Nat} {n0:gK} {w0:World} {π0:Nat→Nat→Prop} {U:Nat→Prop} {s:S} {a:Act} {w:World} {β:Nat→Nat} {τ:Nat→Value} {π:Nat→Nat→Prop}
theorem Ba {a:AV} {v:Value} (h:DV w π a v) (hf:kS a=true):v=C6 a:=by
 cases h<;>first | rfl | (simp [kS] at hf; done)
theorem Dt {a:AV} {v:Value} (h:DV w π a v) (hf:kT a=true):v=nP a:=by
 cases h with
 | agg as vs hl hs hd =>
  simp only [kT,List.all_eq_true] at hf
  show Value.agg vs=.agg _
  congr 1
  apply Array.ext
  ·simpa using hl.symm
  ·intro i h1 h2
   have hi:i < as.length:=by omega
   have:=Ba (hd i as[i] vs[i] (by simp [hi]) (by simp [h1])) (hf _ (List.getElem_mem hi))
   simpa using this
 | _=>first | rfl | (simp [kT,kS] at hf; done)
theorem fQ {t:TypeId} {d:TypeDesc} (h:P.underlying t=some d):(underlying t).run P w=.ok d w:=by
 simp [underlying,h]
theorem zL {t:TypeId} {z:AV} (h:zeroV P t=some z):∃ v:Value,(zeroValue t).run P w=.ok v w∧DV w π z v:=by
 unfold zeroV at h
 simp only [Option.bind_eq_some_iff] at h
 obtain ⟨v,⟨i,hi,hz⟩,hv⟩:=h
 exact ⟨v,by simp [zeroValue,typeInfo,hi,hz],AS hv⟩
theorem ue (d:Nat) {t:TypeId} {ms:Array (String × TypeId)} (h:P.underlying t=some (.interface ms)) (x:Value) (b:Bool) (hx:(x=.nilIface∧b=true)∨(∃ t' y,x=.iface t' y∧b=false)):(Op.equalIn (d + 1) t x .nilIface).run P w=.ok b w:=by
 have hun:(underlying t).run P w=.ok (.interface ms) w:=fQ h
 rcases hx with ⟨rfl,rfl⟩|⟨t',y,rfl,rfl⟩<;>simp only [Op.equalIn,Sem.run_bind,hun,Result.andThen_ok,Sem.run_pure]
theorem zM (d:Nat) {t e:TypeId} (h:P.underlying t=some (.pointer e)) (x:Option Addr):(Op.equalIn (d + 1) t (.pointer x) (.pointer none)).run P w=.ok x.isNone w:=by
 have hun:(underlying t).run P w=.ok (.pointer e) w:=fQ h
 cases x<;>simp only [Op.equalIn,Sem.run_bind,hun,Result.andThen_ok,Sem.run_pure,Option.isNone]
theorem uW {t:TypeId} {neg:Bool} {op:BinOp} (hop:(op=.eql∧neg=false)∨(op=.neq∧neg=true)) {X Y:Operand} {x y:Value} {b:Bool} (hg:(eqGuard op t X Y x y).run P w=.ok () w)
  (hb:∀ d,(Op.equalIn (d + 1) t x y).run P w=.ok b w) (e1:binOp .eql t x y=(do pure (.bool (← Op.equal t x y)))) (e2:binOp .neq t x y=(do pure (.bool (!(← Op.equal t x y))))):(do eqGuard op t X Y x y; binOp op t x y:Sem Value).run P w=.ok (.bool (b != neg)) w:=by
 have he:(Op.equal t x y).run P w=.ok b w:=hb 9999
 rw [Sem.run_bind,hg]
 rcases hop with ⟨rfl,rfl⟩|⟨rfl,rfl⟩
 ·simp only [Result.andThen_ok,e1,Sem.run_bind,he,Sem.run_pure]; simp
 ·simp only [Result.andThen_ok,e2,Sem.run_bind,he,Sem.run_pure]; simp
theorem yM {t:TypeId} {neg:Bool} {op:BinOp} (hop:(op=.eql∧neg=false)∨(op=.neq∧neg=true)) (hs:kj P t=true) {a:AV} {b:Bool} {X:Operand} {x:Value}
  (hb:zC neg a=some b) (hx:DV w π a x):(do eqGuard op t X (.const .nilIface) x .nilIface; binOp op t x .nilIface:Sem Value).run P w=.ok (.bool b) w:=by
 have hu:∃ e,P.underlying t=some (.interface e):=by
  unfold kj at hs; split at hs
  ·exact ⟨_,by assumption⟩
  ·cases hs
 obtain ⟨e,hu⟩:=hu
 cases hx<;>simp only [zC,Option.some.injEq,reduceCtorEq] at hb<;>subst hb
 ·have:=uW (P:=P) (w:=w) hop (t:=t) (X:=X) (Y:=.const .nilIface) (x:=.nilIface) (y:=.nilIface) (b:=true) (by rcases hop with ⟨rfl,rfl⟩ | ⟨rfl,rfl⟩<;>simp [eqGuard]) (fun d=>ue d hu _ _ (.inl ⟨rfl,rfl⟩)) rfl rfl
  rw [this]; cases neg<;>rfl
 ·rename_i t' av v' hd'
  have:=uW (P:=P) (w:=w) hop (t:=t) (X:=X) (Y:=.const .nilIface) (x:=.iface t' v') (y:=.nilIface) (b:=false) (by rcases hop with ⟨rfl,rfl⟩ | ⟨rfl,rfl⟩<;>simp [eqGuard]) (fun d=>ue d hu _ _ (.inr ⟨_,_,rfl,rfl⟩)) rfl rfl
  rw [this]; cases neg<;>rfl
theorem yN {t:TypeId} {neg:Bool} {op:BinOp} (hop:(op=.eql∧neg=false)∨(op=.neq∧neg=true)) (hs:C8 P t=true) {v:SV} {b:Bool} {X:Operand} {x:Value}
  (hb:tC neg v=some b) (hx:RV β τ w π v x):(do eqGuard op t X (.const (.pointer none)) x (.pointer none); binOp op t x (.pointer none):Sem Value).run P w=.ok (.bool b) w:=by
 have hu:∃ e,P.underlying t=some (.pointer e):=by
  unfold C8 at hs; split at hs
  ·exact ⟨_,by assumption⟩
  ·cases hs
 obtain ⟨e,hu⟩:=hu
 have all:∀ A:Option Addr,(A.isNone != neg)=b→(do eqGuard op t X (.const (.pointer none)) (.pointer A) (.pointer none); binOp op t (.pointer A) (.pointer none):Sem Value).run P w=.ok (.bool b) w:=by
  intro A hbn
  have:=uW (P:=P) (w:=w) hop (t:=t) (X:=X) (Y:=.const (.pointer none)) (x:=.pointer A) (y:=.pointer none) (b:=A.isNone) (by rcases hop with ⟨rfl,rfl⟩ | ⟨rfl,rfl⟩<;>simp [eqGuard]) (fun d=>zM d hu A) (by cases A<;>rfl) (by cases A<;>rfl)
  rw [this,hbn]
 cases v with
 | ptr b' o =>
  have hx:x=.pointer (some ⟨β b',o,none⟩):=hx
  subst hx
  exact all _ (by simpa [tC] using hb)
 | rp cs =>
  obtain ⟨B,off,f,rfl,_⟩:=hx
  exact all _ (by simpa [tC] using hb)
 | dat av q =>
  have hd:=hx.1
  cases av<;>simp only [tC,Option.some.injEq,reduceCtorEq] at hb
  ·cases hd
   exact all none (by rw [← hb]; cases neg<;>rfl)
  ·cases hd
   exact all _ (by rw [← hb]; cases neg<;>rfl)
 | _=>simp [tC] at hb
theorem Du {t xt:TypeId} {z a v:AV} {x:Value} (hz:zeroV P t=some z) (hni:(kj P t || (P.underlying t).isNone)=false) (hv:xw t z a=some v) (hx:DV w π a x) :
  ∃ u,(Instr.typeAssert x xt t true).run P w=.ok u w∧DV w π v u:=by
 obtain ⟨zv,hzr,hzd⟩:=zL (w:=w) (π:=π) hz
 simp only [Bool.or_eq_false_iff] at hni
 obtain ⟨hi,hn⟩:=hni
 cases hu:P.underlying t with
 | none=>rw [hu] at hn; cases hn
 | some d =>
  have hun:(underlying t).run P w=.ok d w:=fQ hu
  have hd:∀ ms,d≠.interface ms:=fun ms e=>by subst e; simp [kj,hu] at hi
  have no:∀ (x:Value),x=.nilIface∨(∃ t' y,x=.iface t' y∧t'≠t)→(Instr.typeAssert x xt t true).run P w=.ok (.tuple #[zv,.bool false]) w:=by
   intro x hx
   rcases hx with rfl|⟨t',y,rfl,hne⟩
   ·unfold Instr.typeAssert
    simp only [Sem.run_bind,hun,Result.andThen_ok]
    cases d<;>first | exact absurd rfl (hd _) | simp [hzr]
   ·unfold Instr.typeAssert
    simp only [Sem.run_bind,hun,Result.andThen_ok]
    cases d<;>first | exact absurd rfl (hd _) | simp [hzr,hne]
  have two:∀ {p:AV} {y:Value} (b:Bool),DV w π p y→DV w π (.oS [p,.bool b]) (.tuple #[y,.bool b]):=by
   intro p y b hp
   refine .oS _ _ rfl (fun i a v ha hv=>?_)
   cases i with
   | zero=>simp at ha hv; subst ha hv; exact hp
   | succ i=>cases i with
    | zero=>simp at ha hv; subst ha hv; exact .bool b
    | succ i=>simp at ha
  cases hx<;>simp only [xw,Option.some.injEq,reduceCtorEq] at hv<;>subst hv
  ·exact ⟨_,no _ (.inl rfl),two _ hzd⟩
  ·rename_i t' av y hd'
   by_cases he:t'=t
   ·rw [if_pos he]
    subst he
    refine ⟨.tuple #[y,.bool true],?_,two _ hd'⟩
    unfold Instr.typeAssert
    simp only [Sem.run_bind,hun,Result.andThen_ok]
    cases d<;>first | exact absurd rfl (hd _) | simp
   ·rw [if_neg he]
    exact ⟨_,no _ (.inr ⟨t',y,rfl,he⟩),two _ hzd⟩
theorem Rel.Dv (R:Rel P nt n0 w0 π0 U s a w β τ π) {id:Nat} (hid:¬ U id) {w':World} {π':Nat→Nat→Prop} {B:Nat} {cs:List AV} (hB:w.heap.size≤B) (hbel:Below w.heap.size w w') (hp:∀ b o,π b o→π' b o) (hp':∀ b o,π' b o→π b o∨w.heap.size≤b)
  (hpl:∀ b o,π' b o→b < w'.heap.size) (hbx:lE (fun _=>undef) w' π' B ⟨cs,[]⟩) :
  Rel P nt n0 w0 π0 (cV U id) { s with boxes:=(id,⟨cs,[]⟩) :: s.boxes } a w' (tS β id B) τ π':=by
 have hne:∀ b,U b→b≠id:=fun b hb e=>hid (e ▸ hb)
 have R1:Rel P nt n0 w0 π0 (cV U id) s a w' (tS β id B) τ π' :=
  R.frame (fun b hb=>m8 _ _ _ (hne b hb)) (fun _ _=>rfl) (fun n h=>.inl h) hp hp' hpl hbel
 have hsz:n0.n≤w.heap.size:=Nat.le_trans R.dm R.below.size
 have hold:∀ b x,bF b s.boxes=some x→tS β id B b≠B:=fun b x h=>by
  obtain ⟨h1,_,⟨cur,el,hh,_⟩,_⟩:=R.boxes b x h
  rw [m8 _ _ _ (hne b h1)]
  have:=jn hh
  omega
 refine ⟨R1.size,R1.slots,fun b x h=>?_,fun b b' x x' h h' e=>?_,R1.live,R1.bl,fun q e' b x h h' hBo=>?_,R1.below,R1.dm,R1.dn,R1.dA,R1.bW,R1.kn,R1.iu,R1.kept⟩
 ·simp only [bF] at h
  by_cases hb:b=id
  ·subst hb
   simp at h
   subst h
   refine ⟨.inr rfl,by rw [bg]; exact .inl (Nat.le_trans hsz hB),?_,fun o q h=>by simp [cw] at h⟩
   rw [bg]
   exact hbx.q7
  ·have:(b == id)=false:=by simpa using hb
   simp only [this,cond_false] at h
   exact R1.boxes b x h
 ·simp only [bF] at h h'
  by_cases hb:b=id
  ·by_cases hb':b'=id
   ·rw [hb,hb']
   ·have hf:(b' == id)=false:=by simpa using hb'
    simp only [hf,cond_false] at h'
    subst hb
    rw [bg] at e
    exact absurd e.symm (hold b' x' h')
  ·have hf:(b == id)=false:=by simpa using hb
   simp only [hf,cond_false] at h
   by_cases hb':b'=id
   ·subst hb'
    rw [bg] at e
    exact absurd e (hold b x h)
   ·have hf':(b' == id)=false:=by simpa using hb'
    simp only [hf',cond_false] at h'
    exact R1.inj b b' x x' h h' e
 ·simp only [bF] at h'
  by_cases hb:b=id
  ·subst hb
   rw [bg] at hBo
   have:=((R.live q e' h).2.block hBo).2
   omega
  ·have hf:(b == id)=false:=by simpa using hb
   simp only [hf,cond_false] at h'
   exact R1.bV q e' b x h h' hBo
theorem o9 {w:World} {π:Nat→Nat→Prop}:∀ {as as':List (Option AV)} {Bs Bs':List Nat} {vs vs':List Value},dz w π as Bs vs→dz w π as' Bs' vs'→dz w π (as++as') (Bs++Bs') (vs++vs')
 | [],as',[],Bs',[],vs',_,h'=>h'
 | [],as',B :: Bs,Bs',vs,vs',h,h'=>by cases vs<;>exact h.elim
 | [],as',[],Bs',v :: vs,vs',h,h'=>h.elim
 | some a :: as,as',Bs,Bs',[],vs',h,h'=>by cases Bs<;>exact h.elim
 | some a :: as,as',Bs,Bs',v :: vs,vs',h,h'=>by
  have h2:DV w π a v∧dz w π as Bs vs:=by cases Bs<;>exact h
  have:=o9 h2.2 h'
  show dz w π (some a :: (as++as')) (Bs++Bs') (v :: (vs++vs'))
  cases hB:Bs++Bs' with
  | nil=>exact ⟨h2.1,by rw [← hB]; exact this⟩
  | cons B r=>exact ⟨h2.1,by rw [← hB]; exact this⟩
 | none :: as,as',[],Bs',vs,vs',h,h'=>by cases vs<;>exact h.elim
 | none :: as,as',B :: Bs,Bs',[],vs',h,h'=>h.elim
 | none :: as,as',B :: Bs,Bs',v :: vs,vs',h,h'=>⟨h.1,o9 h.2 h'⟩
theorem rE {w:World} {π:Nat→Nat→Prop}:∀ {as:List AV} {vs:List Value},fy w π as vs→dz w π (as.map some) [] vs
 | [],[],_=>trivial
 | [],v :: vs,h=>by have:=h.1; simp at this
 | a :: as,[],h=>by have:=h.1; simp at this
 | a :: as,v :: vs,h=>⟨h.2 0 a v rfl rfl,rE ⟨by have:=h.1; simpa using this,fun i x u hx hu=>h.2 (i + 1) x u (by simpa using hx) (by simpa using hu)⟩⟩
theorem Bb {c:Call} {f:Nat} (h:c.callee=.value (.func f)) (hc:b8 P f=true):v7 P c=(eG c.args).map (if m7 P c.argTypes.toList then .dX f else .call f):=by
 unfold v7; rw [h]; simp [hc]
theorem yO {q n:Nat} {x:AV} {id:Nat}:∀ {l:List (Nat × SV)} {t:Nat} {v:SV},lk t (tD q n x id l)=some v→∃ u,lk t l=some u∧v=qU q n x id u
 | [],t,v,h=>by cases h
 |(m,u) :: r,t,v,h=>by
  simp only [tD,lk,iC] at h ⊢
  split at h
  ·rename_i e; cases h; subst e; exact ⟨u,by simp,rfl⟩
  ·rename_i e; obtain ⟨u',h1,h2⟩:=yO h; exact ⟨u',by simp [e,h1],h2⟩
theorem Rel.made (R:Rel P nt n0 w0 π0 U s a w β τ π) {id:Nat} (hid:¬ U id) {e:TypeId} {i:TypeInfo} {cs:Array Value} (hi:P.info? e=some i) (hz:i.size=1) {c:Nat} (hc:c≤maxLen) (hcs:cs.size=c) :
  Rel P nt n0 w0 π0 (cV U id) { s with live:=(id,e) :: s.live } a (w.alloc (.cells cs e)) β (tS τ id (.slice (some ⟨w.heap.size,0,none⟩) 0 c)) π:=by
 have hbel:Below w.heap.size w (w.alloc (.cells cs e)):=(Below.refl _ _).alloc (Nat.le_refl _) _
 have hsz:n0.n≤w.heap.size:=Nat.le_trans R.dm R.below.size
 have R1:Rel P nt n0 w0 π0 U s a (w.alloc (.cells cs e)) β τ π :=
  R.frame (fun _ _=>rfl) (fun _ _=>rfl) (fun _ h=>h) (fun _ _ h=>h) (fun _ _ h=>.inl h) (fun b o h=>by have:=R.dn b o h; simp; omega) hbel
 refine R1.ng hid (.inr ⟨w.heap.size,0,c,cs,i,rfl,.inl hsz,heap_alloc_new w _,Nat.zero_le _,hc,hi,by rw [hz,hcs,Nat.mul_one],fun o _ ho=>?_⟩) (fun q e' B hq hB hB'=>?_) (fun b x hb hB'=>?_)
 ·have:=R.dn _ _ ho; omega
 ·have h1:=((R.live q e' hq).2.block hB).2
  simp [gi] at hB'
  omega
 ·have:=R.jV hb
  simp [gi] at hB'
  omega
theorem Rel.copied (R:Rel P nt n0 w0 π0 U s a w β τ π) {id:Nat} (hid:¬ U id) {e q B cap:Nat} {i:TypeInfo} {ys:List (List AV)} {cs:List Value} {cur:Array Value} (hi:P.info? e=some i) (hz:i.size=1) (hlive:cw q s.live=some e)
  (hτ:τ q=.slice (some ⟨B,0,none⟩) 0 cap) (hn:ys.length≤cap) (hh:w.heap[B]? = some (.cells cur e (0,0))) (hok:n0.ok B) (hcm:cap≤maxLen) (hcur:cur.size=cap) (hfree:∀ o,¬ π B o)
  (hy:∀ r∈ys,r.length=1) (hd:fy w π ys.flatten cs) (hsc:∀ r∈ys,∀ x∈r,x.scalar=true) :
  ∃ τ' π',Rel P nt n0 w0 π0 (cV U id) { s with slots:=tD q ys.length (.sl ys) id s.slots,live:=(id,e) :: iN q s.live } a (w.setRow B (cur.toList.take 0++cs++cur.toList.drop (0 + cs.length)).toArray) β τ' π':=by
 have hcl:cs.length=ys.length:=by rw [← hd.1,eN hy,Nat.mul_one]
 generalize hcur':(cur.toList.take 0++cs++cur.toList.drop (0 + cs.length)).toArray=cur'
 have hcsz:cur'.size=cur.size:=by rw [← hcur']; simp; omega
 have hget:∀ (j:Nat) (v:Value),cs[j]? = some v→cur'[j]? = some v:=by
  intro j v hv
  have hj:j < cs.length:=(List.getElem?_eq_some_iff.1 hv).1
  rw [← hcur']; simp [List.getElem?_append_left hj,hv]
 have hneB:∀ q' e',cw q' (iN q s.live)=some e'→gi (τ q')≠some B:=by
  intro q' e' hq' hB'
  obtain ⟨h1,h2⟩:=gD hq'
  exact h2 (R.bl q' q e' e B h1 hlive hB' (by rw [hτ]; rfl))
 have hbox:∀ b x,bF b s.boxes=some x→β b≠B:=fun b x hb e'=>R.bV q e b x hlive hb (by rw [hτ,e']; rfl)
 have R1:=(R.xz q).wo (m:=ys.length) (cur':=cur') hok hh (fun o ho=>absurd ho (hfree o)) hneB hbox
 have hh':(w.setRow B cur').heap[B]? = some (.cells cur' e (0,0)):=setRow_heap w _ cur _ e _ hh
 have R2:=R1.ng (id:=id) (e:=e) (v:=.slice (some ⟨B,0,none⟩) ys.length cap) hid
  (.inr ⟨B,ys.length,cap,cur',i,rfl,hok,hh',hn,hcm,hi,by rw [hcsz,hcur,hz,Nat.mul_one],fun o ho hc=>by
   rw [hz,Nat.mul_one] at ho
   rcases hc with h|⟨_,h⟩
   ·exact hfree o h
   ·omega⟩) (fun q' e' C hq' hC hB'=>by simp [gi] at hB'; exact hneB q' e' hq' (by rw [hC,hB'])) (fun b x hb hB'=>hbox b x hb (by simpa [gi] using hB'.symm))
 have hdv:DV (w.setRow B cur') (grow π B ys.length) (.sl ys) (.slice (some ⟨B,0,none⟩) ys.length cap):=by
  have hmono:∀ {x:AV} {v:Value},DV w π x v→DV (w.setRow B cur') (grow π B ys.length) x v:=fun h=>h.mono (fun _ _ h=>.inl h) (fun b o h=>by
   by_cases e':b=B
   ·subst e'; exact absurd h (hfree o)
   ·exact cell_setRow_other w _ cur' ⟨b,o,none⟩ e')
  have one:∀ (i j:Nat) (r:List AV) (x:AV),ys[i]? = some r→r[j]? = some x→j=0∧∃ v,cs[i]? = some v∧cur'[i]? = some v∧DV w π x v:=by
   intro i j r x hr hx
   have hrl:=hy r (List.mem_of_getElem? hr)
   have hj:j=0:=by have:=(List.getElem?_eq_some_iff.1 hx).1; omega
   subst hj
   obtain ⟨v,hv,hdx⟩:=hd.get (gC hy hr hx)
   rw [Nat.mul_one,Nat.add_zero] at hv
   exact ⟨rfl,v,hv,hget i v hv,hdx⟩
  refine .sl ys B 0 cap 1 (fun i j=>cur'.getD i undef) hn (fun i r hr=>hy r (List.mem_of_getElem? hr)) (fun i j r x hr hx=>hsc r (List.mem_of_getElem? hr) x (List.mem_of_getElem? hx)) (fun i j r x hr hx=>?_) (fun i j r x hr hx=>?_) (fun i j r x hr hx=>?_)
  ·obtain ⟨rfl,_⟩:=one i j r x hr hx
   exact .inr ⟨rfl,by have:=(List.getElem?_eq_some_iff.1 hr).1; omega⟩
  ·obtain ⟨rfl,v,_,hv,_⟩:=one i j r x hr hx
   rw [Nat.zero_add,Nat.mul_one,Nat.add_zero,cell_of_row _ _ _ cur' e (0,0) hh',hv]
   simp [hv]
  ·obtain ⟨rfl,v,_,hv,hdx⟩:=one i j r x hr hx
   simp only [Array.getD_eq_getD_getElem?,hv,Option.getD_some]
   exact hmono hdx
 refine ⟨_,_,{ R2 with slots:=fun t v hv=>?_ }⟩
 obtain ⟨u,hu,rfl⟩:=yO hv
 obtain ⟨⟨x,hx,hr⟩,hi'⟩:=R2.slots t u hu
 cases u with
 | raw q' n' =>
  by_cases hqn:q'=q∧n'=ys.length
  ·obtain ⟨rfl,rfl⟩:=hqn
   simp only [qU,beq_self_eq_true,Bool.and_self,cond_true]
   obtain ⟨⟨x2,hx2,B',cap',h1,h2,h3⟩,hUq⟩:=R.slots t _ hu
   rw [hx] at hx2; cases hx2
   rw [hτ] at h1
   simp only [Value.slice.injEq,Option.some.injEq,Addr.mk.injEq] at h1
   obtain ⟨⟨rfl,_⟩,_,rfl⟩:=h1
   refine ⟨⟨x,hx,?_,fun t ht=>?_⟩,.inr rfl⟩
   ·rw [h2]; exact hdv
   ·cases ht; rw [bg,h2]
  ·have hb:(q' == q && n' == ys.length)=false:=by
    rw [Bool.eq_false_iff]; intro h; simp only [Bool.and_eq_true,beq_iff_eq] at h; exact hqn h
   simp only [qU,hb,cond_false]
   exact ⟨⟨x,hx,hr⟩,hi'⟩
 | _=>exact ⟨⟨x,hx,hr⟩,hi'⟩
theorem zN (R:Rel P nt n0 w0 π0 U s a w β τ π) {o:Oper} {c:AJ} {id:Nat} (hid:¬ U id) (hc:Ma P o.op=some c) {K:SV→S→Prop} {X:AV→S→Prop} (h:bz (Pure P) id c K X s) {next:Act→World→Prop} {Q:Exit→Act→World→Prop}
    (hn:∀ v s' x w' β' τ' π',K v s'→RV β' τ' w' π' v x→v.dW (cV U id)→Rel P nt n0 w0 π0 (cV U id) s' a w' β' τ' π'→next (a.put o.dst x) w')
    (hx:∀ p s' w' β' τ' π',X p s'→Rel P nt n0 w0 π0 (cV U id) s' a w' β' τ' π'→Q (.panic (gn p)) a w'):o.wp P a w next Q:=by
  obtain ⟨dst,op,type,pos,after,guard⟩:=o
  simp only at hc
  have hsub:∀ n,U n→cV U id n:=fun n h=>.inl h
  have fin:∀ {v:SV} {y:Value},(execOp a.eval ⟨dst,op,type,pos,after,guard⟩).run P w=.ok (.value y) w→RV β τ w π v y→v.dW U→K v s→Oper.wp P ⟨dst,op,type,pos,after,guard⟩ a w next Q:=by
    intro v y hr hv hu hK
    unfold Oper.wp
    rw [hr]
    exact hn v s y w β τ π hK hv (SV.lF hsub hu) (R.sub hsub)
  have find:∀ {v:AV} {y:Value},(execOp a.eval ⟨dst,op,type,pos,after,guard⟩).run P w=.ok (.value y) w→DV w π v y→K (.dat v none) s→Oper.wp P ⟨dst,op,type,pos,after,guard⟩ a w next Q :=
    fun {v y} hr hv hK=>fin (v:=.dat v none) hr ⟨hv,fun t ht=>by cases ht⟩ trivial hK
  -- a function is entered that raises
  have raise:∀ {f:Nat} {ids:List Nat} {css css':List (List AV)} {pas:List (Option AV)} {vs:List Value} {p:AV},Fx P f css pas p css'→ids.Nodup→aR s.boxes ids=some css→dz w π pas (ids.map β) vs →
      (execOp a.eval ⟨dst,op,type,pos,after,guard⟩).run P w=.ok (.enter f vs.toArray) w→X p { s with boxes:=cJ ids css' s.boxes }→Oper.wp P ⟨dst,op,type,pos,after,guard⟩ a w next Q:=by
    intro f ids css css' pas vs p hq hnd hcs harg hr hX
    obtain ⟨hca,hl1,_,hq⟩:=hq
    unfold Oper.wp
    rw [hr,Oper.upon_enter]
    refine (hq w π (ids.map β) vs R.dn (R.nodup hnd hcs) (R.oa hcs) harg).mono ?_
    rintro e w' ⟨π',rfl,hbel,hp1,hp2,hp3,hbx⟩
    obtain ⟨τ',_,R'⟩:=R.qy (fr:=none) hid hnd hcs hl1 hbel hp1 hp2 hp3 hbx DV.gj (fun t ht=>by cases ht)
    exact hx _ _ _ _ _ _ hX R'
  cases op<;>simp only [Ma] at hc<;>try (cases hc; done)
  case binOp op t x y yt =>
    unfold Je at hc
    split at hc<;>try (cases hc; done)
    all_goals
      split at hc<;>try (cases hc; done)
      rename_i hs
      simp only [Option.map_eq_some_iff] at hc
      obtain ⟨x',hx',rfl⟩:=hc
      simp only [bz] at h
      obtain ⟨av,hav,h⟩:=af h
      obtain ⟨b,hb,hK⟩:=af h
    · have hr:=yM (P:=P) (X:=x) (.inl ⟨rfl,rfl⟩) hs hb (R.ax hx' hav)
      exact find (by simp only [execOp]; rw [Sem.run_bind]; refine (congrArg (fun r=>Result.andThen r _) hr).trans ?_; rfl) (.bool _) hK
    · have hr:=yM (P:=P) (X:=x) (.inr ⟨rfl,rfl⟩) hs hb (R.ax hx' hav)
      exact find (by simp only [execOp]; rw [Sem.run_bind]; refine (congrArg (fun r=>Result.andThen r _) hr).trans ?_; rfl) (.bool _) hK
    · have hr:=yN (P:=P) (X:=x) (.inl ⟨rfl,rfl⟩) hs hb (R.bw hx' hav).1
      exact find (by simp only [execOp]; rw [Sem.run_bind]; refine (congrArg (fun r=>Result.andThen r _) hr).trans ?_; rfl) (.bool _) hK
    · have hr:=yN (P:=P) (X:=x) (.inr ⟨rfl,rfl⟩) hs hb (R.bw hx' hav).1
      exact find (by simp only [execOp]; rw [Sem.run_bind]; refine (congrArg (fun r=>Result.andThen r _) hr).trans ?_; rfl) (.bool _) hK
  case makeSlice t l c =>
    split at hc<;>try (cases hc; done)
    rename_i e l' c' ht hl hcc
    split at hc<;>try (cases hc; done)
    rename_i i hi
    split at hc<;>try (cases hc; done)
    rename_i hok
    cases hc
    simp only [Bool.and_eq_true,beq_iff_eq,decide_eq_true_eq,Option.isSome_iff_exists] at hok
    obtain ⟨⟨hz,zv,hzv⟩,hpos⟩:=hok
    simp only [bz] at h
    obtain ⟨av,hav,h⟩:=af h
    obtain ⟨li,hli,h⟩:=af h
    obtain ⟨bv,hbv,h⟩:=af h
    obtain ⟨ci,hci,hb,hK⟩:=af h
    obtain ⟨kl,hkl⟩:=R.idx hl hav hli
    obtain ⟨kc,hkc⟩:=R.idx hcc hbv hci
    obtain ⟨b0,b1,b2⟩:=hb
    have b3:ci≤140737488355328:=by
      have:ci * 1≤ci * (i.bytes:Int):=Int.mul_le_mul_of_nonneg_left (by omega) (by omega)
      omega
    have hr:=run_make (P:=P) w t e i zv ht hi hzv kl kc li ci b0 b1 (by rw [Int.mul_comm]; omega) (by omega)
    have hr2:(execOp a.eval ⟨dst,.makeSlice t l c,type,pos,after,guard⟩).run P w=.ok (.value (.slice (some ⟨w.heap.size,0,none⟩) li.toNat ci.toNat)) (w.alloc (.cells (madeCells zv.cells (ci.toNat * i.size)) e)):=by
      simp only [execOp,hkl,hkc,Sem.run_bind,hr,Result.andThen_ok,Sem.run_pure]
    unfold Oper.wp
    rw [hr2]
    exact hn _ _ _ _ _ _ _ hK (show RV β _ _ π (.raw id li.toNat) _ from ⟨w.heap.size,ci.toNat,bg ..,rfl,by omega⟩) (.inr rfl) (R.made hid hi hz (by simp only [maxLen]; omega) (by rw [size_madeCells,hz,Nat.mul_one]))
  case makeInterface t x =>
    split at hc<;>try (cases hc; done)
    rename_i hni
    simp only [Option.map_eq_some_iff] at hc
    obtain ⟨x',hx',rfl⟩:=hc
    simp only [bz] at h
    obtain ⟨av,hav,hst,hK⟩:=af h
    simp only [Bool.or_eq_true,not_or,Bool.not_eq_true] at hni
    cases hu:P.underlying t with
    | none=>rw [hu] at hni; simp at hni
    | some d =>
      have hun:(underlying t).run P w=.ok d w:=fQ hu
      have hd:∀ ms,d≠.interface ms:=fun ms e=>by subst e; simp [kj,hu] at hni
      refine find (y:=.iface t (a.eval x)) ?_ (.iface t av _ (R.ax hx' hav)) hK
      have:(Instr.makeInterface t (a.eval x)).run P w=.ok (.iface t (a.eval x)) w:=by
        unfold Instr.makeInterface
        simp only [Sem.run_bind,hun,Result.andThen_ok]
        cases d<;>first | exact absurd rfl (hd _) | rfl
      simp only [execOp,Sem.run_bind,this,Result.andThen_ok,Sem.run_pure]
  case makeFunc fn first caps =>
    cases fn<;>simp only [] at hc<;>try (cases hc; done)
    rename_i f
    split at hc<;>try (cases hc; done)
    rename_i hok
    simp only [Bool.and_eq_true] at hok
    simp only [Option.map_eq_some_iff] at hc
    obtain ⟨xs,hxs,rfl⟩:=hc
    simp only [bz] at h
    obtain ⟨⟨pas,ids⟩,hsv,hK⟩:=af h
    have hf:first=#[]:=by simpa [Array.isEmpty_iff] using hok.1.1
    subst hf
    have d2:=R.bZ (by simpa [eG] using hxs) hsv
    have hr:(execOp a.eval ⟨dst,.makeFunc (.func f) #[] caps,type,pos,after,guard⟩).run P w=.ok (.value (.func (.func f) #[] (caps.map a.eval))) w:=by simp [execOp,Instr.makeFunc]
    refine fin hr (v:=.kY f pas ids) ⟨caps.map a.eval,rfl,by simpa using d2⟩ (fun b hb=>?_) hK
    obtain ⟨t,_,off,hl⟩:=iT hsv b hb
    exact (R.slots t _ hl).2
  case typeAssert x xt t ok =>
    cases ok<;>simp only [] at hc<;>try (cases hc; done)
    split at hc<;>try (cases hc; done)
    rename_i hni
    split at hc<;>try (cases hc; done)
    rename_i z x' hz hx'
    cases hc
    simp only [bz] at h
    obtain ⟨av,hav,h⟩:=af h
    obtain ⟨v,hv,hK⟩:=af h
    obtain ⟨u,hu,hd⟩:=Du (P:=P) (xt:=xt) hz (by simpa only [Bool.not_eq_true] using hni) hv (R.ax hx' hav)
    exact find (by simp only [execOp,Sem.run_bind,hu,Result.andThen_ok,Sem.run_pure]) hd hK
  case panic x =>
    simp only [Option.map_eq_some_iff] at hc
    obtain ⟨x',hx',rfl⟩:=hc
    simp only [bz] at h
    obtain ⟨av,hav,hra,hX⟩:=af h
    have hd:=R.ax hx' hav
    cases av<;>simp only [lp] at hra<;>try (cases hra; done)
    rename_i t b
    have he:a.eval x=.iface t (nP b):=by
      generalize a.eval x=u at hd
      cases hd with
      | iface _ _ v hd=>rw [Dt hd hra]
    unfold Oper.wp
    have hr:(execOp a.eval ⟨dst,.panic x,type,pos,after,guard⟩).run P w=.halt (.panic (.iface t (nP b))) w:=by
      simp [execOp,he,Instr.panic,goPanic]
    rw [hr]
    exact hx _ _ _ _ _ _ hX (R.sub hsub)
  case call cl =>
    obtain ⟨callee,args,argTypes⟩:=cl
    have hc0:=hc
    have e1:(args.toList.map a.eval).toArray=args.map a.eval:=Array.toList_inj.1 (by simp)
    simp only [Fw] at hc
    split at hc<;>try (cases hc; done)
    · rename_i f
      split at hc<;>try (cases hc; done)
      rename_i hcall
      simp only [Option.map_eq_some_iff] at hc
      obtain ⟨xs,hxs,hce⟩:=hc
      have hcc:=Bb (P:=P) (c:=⟨.value (.func f),args,argTypes⟩) rfl hcall
      have hr:(execOp a.eval ⟨dst,.call ⟨.value (.func f),args,argTypes⟩,type,pos,after,guard⟩).run P w=.ok (.enter f (args.toList.map a.eval).toArray) w:=by
        rw [e1]; simp [execOp,resolve,Act.eval,Deferred.ofValue,invoke,dG hcall]
      split at hce
      · rename_i hp
        subst hce
        simp only [bz] at h
        rcases h with h|h
        · exact mA R hid (by simp only [Fv]; rw [hcc,if_pos hp]; simp [hxs]) h hn
        · obtain ⟨⟨pas,ids⟩,hsv,hnd,h⟩:=af h
          obtain ⟨css,hcs,p,css',hq,hX⟩:=af h
          exact raise hq (d6 hnd) hcs (R.bZ (by simpa [eG] using hxs) hsv) hr hX
      · rename_i hp
        subst hce
        simp only [bz] at h
        rcases h with h|h
        · exact mA R hid (by simp only [Fv]; rw [hcc,if_neg hp]; simp [hxs]) h hn
        · obtain ⟨as,has,h⟩:=af h
          have hd:=R.bQ (by simpa [eG] using hxs) has
          rcases h with ⟨cs,hcn,hK⟩|⟨p,hq,hX⟩
          · obtain ⟨_,hcn⟩:=hcn
            unfold Oper.wp
            rw [hr,Oper.upon_enter]
            refine (hcn w π _ R.dn hd).mono ?_
            rintro e w' ⟨B,π',rfl,hB,hbel,hp1,hp2,hp3,hbx⟩
            have R':=R.Dv hid hB hbel hp1 hp2 hp3 hbx
            exact hn _ _ _ _ _ _ _ hK (show RV (tS β id B) τ _ π' (.ptr id 0) _ by simp [RV,bg]) (.inr rfl) R'
          · exact raise (ids:=[]) (css:=[]) hq List.nodup_nil rfl (rE hd) hr hX
    · rename_i g
      simp only [Option.map_eq_some_iff] at hc
      obtain ⟨xs,hxs,rfl⟩:=hc
      simp only [bz] at h
      have hgo:bC (.tmp g)=some (.t g):=rfl
      have old:aV (Pure P) id (if m7 P argTypes.toList then .dD (.t g) xs else .dw (.t g) xs) K s→Oper.wp P ⟨dst,.call ⟨.value (.tmp g),args,argTypes⟩,type,pos,after,guard⟩ a w next Q:=fun h =>
        mA R hid (by simp only [Fv,v7,hgo,hxs]) h hn
      split at h
      · rename_i f as bs hl
        obtain ⟨⟨us,he,hcap⟩,_⟩:=R.bw hgo hl
        obtain ⟨⟨pas,ids⟩,hsv,hnd,h⟩:=af h
        obtain ⟨css,hcs,h⟩:=af h
        have hnd':=d6 hnd
        have harg:=o9 (R.bZ (by simpa [eG] using hxs) hsv) hcap
        rw [← List.map_append] at harg
        have hr:b8 P f=true→(execOp a.eval ⟨dst,.call ⟨.value (.tmp g),args,argTypes⟩,type,pos,after,guard⟩).run P w=.ok (.enter f (args.toList.map a.eval++us.toList).toArray) w:=fun hca=>by
          have e2:(args.toList.map a.eval++us.toList).toArray=args.map a.eval++us:=Array.toList_inj.1 (by simp)
          rw [e2]; simp [execOp,resolve,he,Deferred.ofValue,invoke,dG hca]
        rcases h with ⟨r,fr,css',hp,hK⟩|⟨p,css',hq,hX⟩
        · have hp:we P f css (pas++as) r fr css':=hp
          obtain ⟨hca,hl1,_,hp⟩:=hp
          unfold Oper.wp
          rw [hr hca,Oper.upon_enter]
          refine (hp w π ((ids++bs).map β) _ R.dn (R.nodup hnd' hcs) (R.oa hcs) harg).mono ?_
          rintro e w' ⟨v,π',rfl,hbel,hp1,hp2,hp3,hbx,hdv,htk⟩
          obtain ⟨τ',hrv,R'⟩:=R.qy hid hnd' hcs hl1 hbel hp1 hp2 hp3 hbx hdv htk
          exact hn _ _ _ _ _ _ _ hK hrv (by cases fr with | none=>trivial | some e=>exact .inr rfl) R'
        · exact raise hq hnd' hcs harg (hr hq.1) hX
      · exact old h
    · split at hc<;>try (cases hc; done)
      rename_i t t' x y hT hX
      split at hc<;>try (cases hc; done)
      rename_i e x' y' ht hx' hy'
      split at hc<;>try (cases hc; done)
      rename_i hsz
      cases hc
      simp only [bz] at h
      obtain ⟨p,hp,h⟩:=af h
      cases p<;>try (exact h.elim)
      rename_i q n
      obtain ⟨b,hb,h⟩:=af h
      obtain ⟨ys,hys,⟨hyl,hy1⟩,hlive,hK⟩:=af h
      obtain ⟨⟨B,cap,hτ,hv,hcap⟩,hUq⟩:=R.bw hx' hp
      have hsz':(P.info? e).map (·.size)=some 1:=by simpa [dc] using hsz
      obtain ⟨i,hi,hz⟩:∃ i,P.info? e=some i∧i.size=1:=by
        cases hq:P.info? e with
        | none=>simp [hq] at hsz'
        | some i=>exact ⟨i,rfl,by simpa [hq] using hsz'⟩
      obtain ⟨_,htok⟩:=R.live q e hlive
      rcases htok with hnil|⟨B',len,cap',cur,i',hsl,hok,hh,_,hcm,hi',hcur,hfree⟩
      · rw [hτ] at hnil; cases hnil
      rw [hτ] at hsl
      simp only [Value.slice.injEq,Option.some.injEq,Addr.mk.injEq] at hsl
      obtain ⟨⟨rfl,_⟩,rfl,rfl⟩:=hsl
      have hii:i'=i:=by rw [hi] at hi'; exact (Option.some.inj hi').symm
      subst hii
      rw [hz,Nat.mul_one] at hcur
      subst hyl
      have hdy:=R.ax hy' hb
      have hfree':∀ o,¬ π B o:=fun o=>hfree o (by omega)
      have eT:argTypes=#[t,t']:=Array.toList_inj.1 (by simpa using hT)
      have eX:args=#[x,y]:=Array.toList_inj.1 (by simpa using hX)
      subst eT eX
      have go:∀ (cs:List Value) (w':World),fy w π ys.flatten cs→(∀ r∈ys,∀ x∈r,x.scalar=true)→w'=w.setRow B (cur.toList.take 0++cs++cur.toList.drop (0 + cs.length)).toArray →
          (Builtin.copy_ #[t,t'] type #[a.eval x,a.eval y]).run P w=.ok (goInt ys.length) w'→Oper.wp P ⟨dst,.call ⟨.builtin .copy,#[x,y],#[t,t']⟩,type,pos,after,guard⟩ a w next Q:=by
        intro cs w' hd hsc hw hrun
        obtain ⟨τ',π',R'⟩:=R.copied hid hi hz hlive hτ hcap hh hok hcm hcur hfree' hy1 hd hsc
        have hr:(execOp a.eval ⟨dst,.call ⟨.builtin .copy,#[x,y],#[t,t']⟩,type,pos,after,guard⟩).run P w=.ok (.value (goInt ys.length)) w':=by
          simp [execOp,resolve,invoke,builtin,hrun]
        unfold Oper.wp
        rw [hr]
        subst hw
        exact hn (.dat (.int .i64 ys.length) none) _ _ _ _ _ _ hK ⟨.int .i64 _,fun t ht=>by cases ht⟩ trivial R'
      cases b<;>simp only [rowsOf,Option.some.injEq,reduceCtorEq] at hys
      · subst hys
        generalize hvy:a.eval y=vy at hdy
        cases hdy
        refine go [] w ⟨rfl,fun i a v h=>by simp at h⟩ (by simp) ?_ ?_
        · have:=setRow_self w B cur e (0,0) hh
          simpa using this.symm
        · rw [hv,hvy]
          exact run_copy_nil (P:=P) w t t' type e _ _ _ ht (by rw [hsz']; rfl)
      · rename_i l
        subst hys
        generalize hvy:a.eval y=vy at hdy
        have row:∀ (A:Addr) (m c:Nat) (cs:List Value),vy=.slice (some A) m c→m=l.length→cs.length=m→(∀ j u,cs[j]? = some u→w.cell? (A.add j)=some u)→(∀ u∈cs,u.oneCell'=true)→fy w π l.flatten cs→(∀ r∈l,∀ x∈r,x.scalar=true) →
            Oper.wp P ⟨dst,.call ⟨.builtin .copy,#[x,y],#[t,t']⟩,type,pos,after,guard⟩ a w next Q:=by
          intro A m c cs e1 e2 e3 hsrc h1c hd hsc
          refine go cs _ hd hsc rfl ?_
          rw [hv,hvy,e1]
          have:=run_copy_row (P:=P) w t t' type e B 0 l.length cap A m c cur e cs ht hsz' hh (by rw [e3,e2]; exact (Nat.min_self _).symm) hsrc (by rw [hcur]; omega) h1c
          rw [this,e3,e2]
        cases hdy with
        | AR A=>exact row A 0 0 [] rfl rfl rfl (fun j u h=>by simp at h) (by simp) ⟨rfl,fun i a v h=>by simp at h⟩ (by simp)
        | sl _ B2 off2 cap2 z2 f2 g1 g2 g3 g4 g5 g6 =>
          obtain ⟨hm,news,k1,k2,k3,k4,k5⟩:=DV.news (DV.sl l B2 off2 cap2 z2 f2 g1 g2 g3 g4 g5 g6) hy1
          exact row _ _ _ news rfl rfl (by rw [k1,Nat.mul_one]) k2 k3 k4 k5
def yP (C:bI) (id:Nat) (o:XO) (K:S→Prop) (X:AV→S→Prop) (s:S):Prop:=cv s o.g (bz C id o.op (fun v s'=>K (s'.put o.dst v)) X s) (K (s.put o.dst .undef))
theorem xI {C:bI} {base i:Nat} {o:XO} {r:List XO} {K:S→Prop} {X:AV→S→Prop} {s:S}:ct C base i (o :: r) K X s=yP C (base + i) o (ct C base (i + 1) r K X) X s:=rfl
theorem zO {ops:Array Oper} {o:Oper} {c:XO} (hc:nW P ops o=some c):c.dst=o.dst:=by
 unfold nW at hc
 split at hc
 ·split at hc<;>try (cases hc; done)
  cases hc; rfl
 ·simp only [Option.map_eq_some_iff] at hc
  obtain ⟨c0,h0,rfl⟩:=hc
  exact ud h0
theorem wD (R:Rel P nt n0 w0 π0 U s a w β τ π) {ops:Array Oper} {o:Oper} {c:XO} {id:Nat} (hid:¬ U id) (hc:nW P ops o=some c) (hfit:∀ d,c.dst=some d→d < nt) {K:S→Prop} {X:AV→S→Prop} (h:yP (Pure P) id c K X s)
  {next:Act→World→Prop} {Q:Exit→Act→World→Prop}
  (hn:∀ s' x w' β' τ' π',K s'→Rel P nt n0 w0 π0 (cV U id) s' (a.put o.dst x) w' β' τ' π'→next (a.put o.dst x) w')
  (hx:∀ p s' w' β' τ' π',X p s'→Rel P nt n0 w0 π0 (cV U id) s' a w' β' τ' π'→Q (.panic (gn p)) a w') :
  if Region.wanted o (yielded ops a.tmps) then o.wp P a w next Q else next (a.put o.dst undef) w:=by
 unfold nW at hc
 split at hc
 rotate_left
 ·simp only [Option.map_eq_some_iff] at hc
  obtain ⟨c0,h0,rfl⟩:=hc
  exact ry R hid h0 hfit h hn
 rename_i cop hop
 split at hc<;>try (cases hc; done)
 rename_i g hg
 cases hc
 simp only at hfit
 have run:bz (Pure P) id cop (fun v s'=>K (s'.put o.dst v)) X s→o.wp P a w next Q:=fun h =>
  zN R hid hop h (fun v s' x w' β' τ' π' hK hv hu R'=>hn _ _ _ _ _ _ hK (R'.put o.dst hfit hv hu)) hx
 have skip:K (s.put o.dst .undef)→next (a.put o.dst undef) w:=fun h =>
  hn _ _ _ _ _ _ h ((R.sub fun n h=>.inl h).put o.dst hfit rfl trivial)
 unfold yP cv at h
 rcases p7 hg with ⟨h1,h2⟩|⟨j,want,t,h1,h2,h3⟩
 ·subst h2
  simp only at h
  simp only [Region.wanted,h1,if_true]
  exact run h
 ·subst h3
  simp only at h
  cases hl:lk t s.slots with
  | none=>simp [hl] at h
  | some v =>
   obtain ⟨⟨x,hx',hrv⟩,hui⟩:=R.slots t v hl
   simp only [hl] at h
   have hy:∀ b,x=.bool b→yielded ops a.tmps j=some b:=fun b hb=>by
    unfold yielded; rw [h2]; simp [hx',hb]
   cases v with
   | ptr b o=>exact h.elim
   | rp cs=>exact h.elim
   | vs _ _ _ _=>exact h.elim
   | kY _ _ _=>exact h.elim
   | raw _ _=>exact h.elim
   | undef =>
    have hxu:x=undef:=hrv
    have hy':yielded ops a.tmps j=none:=by
     unfold yielded; rw [h2]; simp [hx',hxu,undef]
    simp only [Region.wanted,h1,hy']
    exact skip h
   | dat av q =>
    cases av<;>try (exact h.elim)
    rename_i b
    have hxb:x=.bool b:=hrv.1.nY
    simp only [Region.wanted,h1,hy b hxb]
    by_cases hb:b=want
    ·subst hb; simp; exact run (h.1 rfl)
    ·have hb':b=!want:=by cases b<;>cases want<;>first | rfl | exact absurd rfl hb
     have:(some b == some want)=false:=by subst hb'; cases want<;>rfl
     rw [this]
     exact skip (h.2 hb')
theorem wE {c:Call}:Ma P (.defer c)=none:=rfl
theorem wF (R:Rel P nt n0 w0 π0 U s a w β τ π) {ops:Array Oper} {o:Oper} {c:XO} {i id:Nat} (ho:ops[i]? = some o) (hid:¬ U id) (hc:nW P ops o=some c) (hfit:∀ d,c.dst=some d→d < nt) {K:S→Prop} {X:AV→S→Prop} (h:yP (Pure P) id c K X s)
  {next:Act→World→Prop} {Q:Exit→Act→World→Prop}
  (hn:∀ s' x w' β' τ' π',K s'→Rel P nt n0 w0 π0 (cV U id) s' (a.put o.dst x) w' β' τ' π'→next (a.put o.dst x) w')
  (hx:∀ p s' w' β' τ' π',X p s'→Rel P nt n0 w0 π0 (cV U id) s' a w' β' τ' π'→Q (.panic (gn p)) a w') {r:Option Nat} {n:Nat}:wpOpIn (FW r) n P ops Q i next a w:=by
 have:=wD R hid hc hfit h hn hx
 have hnd:∀ c,o.op≠.defer c:=by
  intro c' e
  unfold nW at hc
  rw [e,wE] at hc
  simp only [Option.map_eq_some_iff] at hc
  obtain ⟨c0,hc,_⟩:=hc
  unfold mS at hc
  rw [e] at hc
  simp [C7,qW,Fv] at hc
 unfold wpOpIn
 simp only [ho]
 split
 ·rename_i hw; rw [if_pos hw] at this; exact FA this hnd
 ·rename_i hw; rw [if_neg hw] at this; exact ⟨fun _ _=>trivial,this⟩
theorem p9 {ops:Array Oper}:∀ {l:List Oper} {cs:List XO},oX P ops l=some cs→cs.length=l.length∧∀ (i:Nat) (o:Oper) (c:XO),l[i]? = some o→cs[i]? = some c→nW P ops o=some c
 | [],cs,h=>by simp [oX] at h; subst h; exact ⟨rfl,fun i o c h=>by simp at h⟩
 | o :: l,cs,h=>by
  unfold oX at h
  split at h<;>try (cases h; done)
  rename_i c cs' h1 h2
  cases h
  obtain ⟨e,hs⟩:=p9 h2
  refine ⟨by simp [e],fun i o' c' ho hc=>?_⟩
  cases i with
  | zero=>simp at ho hc; subst ho; subst hc; exact h1
  | succ i=>exact hs i o' c' (by simpa using ho) (by simpa using hc)
theorem mU {n:Nat}:∀ {l:List XO},lD n l=true→∀ (i:Nat) (c:XO) (d:Nat),l[i]? = some c→c.dst=some d→d < n
 | [],h,i,c,d,hi,hd=>by simp at hi
 | o :: l,h,i,c,d,hi,hd=>by
  simp only [lD,Bool.and_eq_true] at h
  cases i with
  | zero =>
   simp at hi; subst hi
   have:=h.1
   rw [hd] at this
   simpa using this
  | succ i=>exact mU h.2 i c d (by simpa using hi) hd
theorem uf {c:XO} {d:Nat}:∀ {l:List XO},c∈l→c.dst=some d→d∈v8 l
 | [],h,_=>by cases h
 | o :: l,h,hd=>by
  simp only [v8,List.mem_append]
  rcases List.mem_cons.1 h with rfl|h
  ·exact .inl (by rw [hd]; simp)
  ·exact .inr (uf h hd)
theorem qa {ops:Array Oper} {cos:List XO} {base:Nat} (i0:Nat) (hlen:cos.length=ops.size) (hcos:∀ (i:Nat) (o:Oper) (c:XO),i0≤i→ops[i]? = some o→cos[i]? = some c→nW P ops o=some c) (hfit:∀ (i:Nat) (c:XO) (d:Nat),cos[i]? = some c→c.dst=some d→d < nt)
  {T:Nat→Prop} {a0:Act} (hT:∀ (i:Nat) (c:XO) (d:Nat),cos[i]? = some c→c.dst=some d→¬ T d) {r:Option Nat} {m:Nat}
  {K:S→Prop} {X:AV→S→Prop} {Q:Exit→Act→World→Prop} (hQ:∀ s a w β τ π U,(∀ n,U n→n < base + ops.size)→K s→lK T a0 a→Rel P nt n0 w0 π0 U s a w β τ π→Q .normal a w)
  (hX:∀ p s a w β τ π U,(∀ n,U n→n < base + ops.size)→X p s→lK T a0 a→Rel P nt n0 w0 π0 U s a w β τ π→Q (.panic (gn p)) a w) :
  ∀ (rest:List XO) (i:Nat) (s:S) (a:Act) (w:World) (β:Nat→Nat) (τ:Nat→Value) (π:Nat→Nat→Prop) (U:Nat→Prop),i0≤i→cos.drop i=rest→i + rest.length=ops.size→(∀ n,U n→n < base + i)→lK T a0 a→Rel P nt n0 w0 π0 U s a w β τ π →
   ct (Pure P) base i rest K X s→wpOpsIn (FW r) m P ops Q (List.range' i rest.length) a w
 | [],i,s,a,w,β,τ,π,U,hi0,hd,hn,hU,hp,R,h=>hQ s a w β τ π U (fun n h=>by have:=hU n h; simp at hn; omega) h hp R
 | o :: rest,i,s,a,w,β,τ,π,U,hi0,hd,hn,hU,hp,R,h=>by
  have hio:cos[i]? = some o:=by
   have:(cos.drop i)[0]? = some o:=by rw [hd]; rfl
   simpa using this
  have hilt:i < ops.size:=by simp at hn; omega
  have hpi:ops[i]? = some ops[i]:=by simp [hilt]
  rw [xI] at h
  simp only [List.length_cons,List.range'_succ]
  rw [wpOpsIn_cons]
  refine wF R hpi (fun h=>by have:=hU _ h; omega) (hcos i _ o hi0 hpi hio) (hfit i o · hio) h (fun s' x w' β' τ' π' hK R'=>?_) (fun p s' w' β' τ' π' hXp R'=>hX p s' a w' β' τ' π' _ (fun n h=>?_) hXp hp R')
  ·refine qa i0 hlen hcos hfit hT hQ hX rest (i + 1) s' _ w' β' τ' π' _ (by omega) ?_ (by simp at hn; omega) (fun n h=>?_) (hp.put (fun d hd=>hT i o d hio (by rw [zO (hcos i _ o hi0 hpi hio)]; exact hd)) x) R' hK
   ·rw [← List.tail_drop,hd]; rfl
   ·rcases h with h | h
    ·have:=hU n h; omega
    ·omega
  ·rcases h with h | h
   ·have:=hU n h; omega
   ·omega
theorem tG {id:Nat} {ops:Array Oper} {cos:List XO} (hc:oX P ops ops.toList=some cos) (hfit:lD nt cos=true)
  (R:Rel P nt n0 w0 π0 U s a w β τ π) (hU:∀ n,U n→n < s.nx) {K:S→Prop} {X:AV→S→Prop} {Q:Exit→Act→World→Prop} (h:ct (Pure P) s.nx 0 cos K X s)
  {T:Nat→Prop} (hT:∀ d,d∈v8 cos→¬ T d) {r:Option Nat} {m:Nat}
  (hQ:∀ s' a' w β τ π U,(∀ n,U n→n < s.nx + cos.length)→K s'→lK T a a'→Rel P nt n0 w0 π0 U s' a' w β τ π→Q .normal a' w)
  (hX:∀ p s' a' w β τ π U,(∀ n,U n→n < s.nx + cos.length)→X p s'→lK T a a'→Rel P nt n0 w0 π0 U s' a' w β τ π→Q (.panic (gn p)) a' w):(Code.region id ops false).wpIn (FW r) m P Q a w:=by
 obtain ⟨hlen0,hcos0⟩:=p9 hc
 have hlen:cos.length=ops.size:=by simpa using hlen0
 rw [hlen] at hQ hX
 refine wpIn_region ?_
 have:=qa (r:=r) (m:=m) 0 hlen (fun i o c _ h1 h2=>hcos0 i o c (by simpa using h1) h2) (mU hfit) (fun i c d hi hd=>hT d (uf (List.mem_of_getElem? hi) hd)) hQ hX cos 0 s a w β τ π U (Nat.le_refl _) rfl (by simpa using hlen) (by simpa using hU) (.refl _ _) R h
 rw [hlen] at this
 rw [List.range_eq_range']
 exact this
end
end Go.Eng
namespace Go.Eng
open Go
open Go.RowKit (Below)
theorem Bc:∀ {l:List (Nat × SV)} {t:Nat} {v:SV},lk t l=some v→(t,v)∈l
 | [],t,v,h=>by cases h
 |(m,u) :: r,t,v,h=>by
  simp only [lk,iC] at h
  split at h
  ·rename_i e; cases h; subst e; exact List.mem_cons_self ..
  ·exact List.mem_cons_of_mem _ (Bc h)
theorem oo:∀ {l:List (Nat × bA)} {t:Nat} {v:bA},bF t l=some v→(t,v)∈l
 | [],t,v,h=>by cases h
 |(m,u) :: r,t,v,h=>by
  simp only [bF,iC] at h
  split at h
  ·rename_i e; cases h; subst e; exact List.mem_cons_self ..
  ·exact List.mem_cons_of_mem _ (oo h)
theorem kr:∀ {l:List (Nat × Nat)} {t:Nat} {v:Nat},cw t l=some v→(t,v)∈l
 | [],t,v,h=>by cases h
 |(m,u) :: r,t,v,h=>by
  simp only [cw,iC] at h
  split at h
  ·rename_i e; cases h; subst e; exact List.mem_cons_self ..
  ·exact List.mem_cons_of_mem _ (kr h)
theorem qb {m:List (Nat × Nat)} {nx:Nat} {a:List (Nat × SV)}:∀ {l:List (Nat × SV)},eu m nx a l→∀ t v,(t,v)∈l→∃ u,lk t a=some u∧vZ m nx u v
 | [],h,t,v,hm=>by cases hm
 |(t0,v0) :: r,h,t,v,hm=>by
  rcases List.mem_cons.1 hm with e|e
  ·cases e; exact af h.1
  ·exact qb h.2 t v e
theorem nq {m:List (Nat × Nat)} {nx:Nat} {a:List (Nat × Nat)}:∀ {l:List (Nat × Nat)},gN m nx a l→∀ o q,(o,q)∈l→cw o a=some (vS m q)∧q < nx
 | [],h,t,v,hm=>by cases hm
 |(t0,v0) :: r,h,t,v,hm=>by
  rcases List.mem_cons.1 hm with e|e
  ·cases e; exact h.1
  ·exact nq h.2 t v e
theorem gE {m:List (Nat × Nat)} {nx:Nat} {a:List (Nat × bA)}:∀ {l:List (Nat × bA)},ew m nx a l→∀ b x,(b,x)∈l→∃ y,bF b a=some y∧y.cells=x.cells∧gN m nx y.tags x.tags∧b < nx
 | [],h,t,v,hm=>by cases hm
 |(t0,v0) :: r,h,t,v,hm=>by
  rcases List.mem_cons.1 hm with e|e
  ·cases e; obtain ⟨y,h1,h2⟩:=af h.1; exact ⟨y,h1,h2⟩
  ·exact gE h.2 t v e
theorem iU {m:List (Nat × Nat)} {nx:Nat} {a:List (Nat × Nat)}:∀ {l:List (Nat × Nat)},eW m nx a l→∀ q e,(q,e)∈l→cw (vS m q) a=some e∧q < nx
 | [],h,t,v,hm=>by cases hm
 |(t0,v0) :: r,h,t,v,hm=>by
  rcases List.mem_cons.1 hm with e|e
  ·cases e; exact h.1
  ·exact iU h.2 t v e
theorem ug {α:Type} {f:α→Nat}:∀ {l:List α},(l.map f).Nodup→∀ x y,x∈l→y∈l→f x=f y→x=y
 | [],h,x,y,hx,hy,e=>by cases hx
 | a :: l,h,x,y,hx,hy,e=>by
  simp only [List.map_cons,List.nodup_cons] at h
  rcases List.mem_cons.1 hx with kx|kx<;>rcases List.mem_cons.1 hy with ky|ky
  ·rw [kx,ky]
  ·exact absurd (by rw [← kx,e]; exact List.mem_map_of_mem ky) h.1
  ·exact absurd (by rw [← ky,← e]; exact List.mem_map_of_mem kx) h.1
  ·exact ug h.2 x y kx ky e
section
variable {P:Program} {nt:Nat} {n0:gK} {w0:World} {π0:Nat→Nat→Prop} {s s1:S} {a:Act} {w:World}
def cD (P:Program) (nt:Nat) (n0:gK) (w0:World) (π0:Nat→Nat→Prop) (s:S) (a:Act) (w:World):Prop :=
 4≤s.nx∧∃ β τ π U,(∀ n,U n→n < s.nx)∧Rel P nt n0 w0 π0 U s a w β τ π
theorem Rel.le {U:Nat→Prop} {β:Nat→Nat} {τ:Nat→Value} {π:Nat→Nat→Prop} (R:Rel P nt n0 w0 π0 U s a w β τ π) (h:Le s s1):cD P nt n0 w0 π0 s1 a w:=by
  obtain ⟨h0,m,h1,h2,h3,h4⟩:=h
  refine ⟨h0,β,fun q=>τ (vS m q),π,fun n=>n < s1.nx,fun n h=>h,?_⟩
  refine { size:=R.size,slots:=?_,boxes:=?_,inj:=?_,live:=?_,bl:=?_,bV:=?_,below:=R.below,dm:=R.dm,dn:=R.dn,dA:=R.dA,bW:=R.bW,kn:=R.kn,iu:=fun k hk=>by show k < s1.nx; omega,kept:=R.kept }
  · intro t v hv
    obtain ⟨u,hu,hle⟩:=qb h1 t v (Bc hv)
    obtain ⟨⟨x,hx,hr⟩,hU⟩:=R.slots t u hu
    cases u with
    | dat au qu =>
      cases v with
      | dat av qv =>
        cases qv with
        | none =>
          have e:au=av:=by cases qu<;>exact hle
          subst e
          exact ⟨⟨x,hx,hr.1,fun t ht=>by cases ht⟩,trivial⟩
        | some q =>
          cases qu with
          | none=>exact hle.elim
          | some q0 =>
            obtain ⟨e,e2,hq⟩:=hle
            subst e
            refine ⟨⟨x,hx,hr.1,fun t ht=>?_⟩,hq⟩
            cases ht
            show x=τ (vS m q)
            rw [← e2]; exact hr.2 q0 rfl
      | _=>cases qu<;>exact hle.elim
    | ptr b o =>
      cases v with
      | ptr b' o' =>
        obtain ⟨e1,e2,e3⟩:=hle
        subst e1 e2
        exact ⟨⟨x,hx,hr⟩,e3⟩
      | _=>exact hle.elim
    | rp cs =>
      cases v with
      | rp cs' =>
        have e:cs=cs':=hle
        subst e
        exact ⟨⟨x,hx,hr⟩,trivial⟩
      | _=>exact hle.elim
    | undef =>
      cases v with
      | undef=>exact ⟨⟨x,hx,hr⟩,trivial⟩
      | _=>exact hle.elim
    | vs _ _ _ _=>cases v<;>exact hle.elim
    | kY f as bs =>
      cases v with
      | kY f' as' bs' =>
        obtain ⟨e1,e2,e3,h4⟩:=hle
        subst e1 e2 e3
        exact ⟨⟨x,hx,hr⟩,h4⟩
      | _=>exact hle.elim
    | raw q n=>cases v<;>exact hle.elim
  · intro b x hb
    obtain ⟨y,hy,hcs,htg,hlt⟩:=gE h2 b x (oo hb)
    obtain ⟨_,hn,⟨cur,el,c1,c2,c3,c4,c5⟩,hq⟩:=R.boxes b y hy
    refine ⟨hlt,hn,⟨cur,el,c1,by rw [← hcs]; exact c2,by rw [← hcs]; exact c3,fun o q ho=>?_,c5⟩,fun o q ho=>?_⟩
    · exact c4 o _ (nq htg o q (kr ho)).1
    · exact (nq htg o q (kr ho)).2
  · intro b b' x x' hb hb' e
    obtain ⟨y,hy,_⟩:=gE h2 b x (oo hb)
    obtain ⟨y',hy',_⟩:=gE h2 b' x' (oo hb')
    exact R.inj b b' y y' hy hy' e
  · intro q e hq
    obtain ⟨h5,h6⟩:=iU h3 q e (kr hq)
    exact ⟨h6,(R.live _ e h5).2⟩
  · intro q q' e e' B hq hq' hB hB'
    have hm:=kr hq
    have hm':=kr hq'
    obtain ⟨h5,_⟩:=iU h3 q e hm
    obtain ⟨h5',_⟩:=iU h3 q' e' hm'
    have:=R.bl _ _ e e' B h5 h5' hB hB'
    have:=ug h4 _ _ hm hm' this
    exact congrArg Prod.fst this
  · intro q e b x hq hb
    obtain ⟨h5,_⟩:=iU h3 q e (kr hq)
    obtain ⟨y,hy,_⟩:=gE h2 b x (oo hb)
    exact R.bV _ e b y h5 hy
variable {U:Nat→Prop} {β:Nat→Nat} {τ:Nat→Value} {π:Nat→Nat→Prop}
theorem Rel.IT (R:Rel P nt n0 w0 π0 U s a w β τ π) {w1:World} (hb:qn n0 w1 w) (hn:n0.n≤w1.heap.size) (hk:∀ b o,π0 b o→w.cell? ⟨b,o,none⟩=w1.cell? ⟨b,o,none⟩):Rel P nt n0 w1 π0 U s a w β τ π:={ R with below:=hb,dm:=hn,kept:=hk }
theorem Rel.Ji (R:Rel P nt n0 w0 π0 U s a w β τ π):Rel P nt n0 w π0 U s a w β τ π:=R.IT (.refl _ _) (Nat.le_trans R.dm R.below.size) (fun _ _ _=>rfl)
theorem cD.below (R:cD P nt n0 w0 π0 s a w):qn n0 w0 w:=let ⟨_,_,_,_,_,_,R0⟩:=R; R0.below
theorem cD.dm (R:cD P nt n0 w0 π0 s a w):n0.n≤w0.heap.size:=let ⟨_,_,_,_,_,_,R0⟩:=R; R0.dm
theorem cD.IT (R:cD P nt n0 w0 π0 s a w) {w1:World} (hb:qn n0 w1 w) (hn:n0.n≤w1.heap.size) (hk:∀ b o,π0 b o→w.cell? ⟨b,o,none⟩=w1.cell? ⟨b,o,none⟩):cD P nt n0 w1 π0 s a w:=let ⟨h,β,τ,π,U,hU,R⟩:=R; ⟨h,β,τ,π,U,hU,R.IT hb hn hk⟩
theorem cD.kept (R:cD P nt n0 w0 π0 s a w):∀ b o,π0 b o→w.cell? ⟨b,o,none⟩=w0.cell? ⟨b,o,none⟩:=let ⟨_,_,_,_,_,_,R0⟩:=R; R0.kept
theorem cD.back {π1:Nat→Nat→Prop} {w1:World} (R:cD P nt n0 w1 π1 s a w) (h1:∀ b o,π0 b o→π1 b o) (h2:∀ b o,π1 b o→π0 b o∨n0.ok b) (hb:qn n0 w0 w) (hn:n0.n≤w0.heap.size) (hk:∀ b o,π0 b o→w.cell? ⟨b,o,none⟩=w0.cell? ⟨b,o,none⟩):cD P nt n0 w0 π0 s a w :=
 let ⟨h,β,τ,π,U,hU,R⟩:=R
 ⟨h,β,τ,π,U,hU,{ R with below:=hb,dm:=hn,kept:=hk,dA:=fun b o h=>R.dA b o (h1 b o h),bW:=fun b o h=>(R.bW b o h).elim (h2 b o) .inr }⟩
theorem cD.Ji (R:cD P nt n0 w0 π0 s a w):cD P nt n0 w π0 s a w:=let ⟨h,β,τ,π,U,hU,R⟩:=R; ⟨h,β,τ,π,U,hU,R.Ji⟩
theorem cD.Gi (R:cD P nt n0 w0 π0 s a w) {a':Act} (h:a'.tmps=a.tmps):cD P nt n0 w0 π0 s a' w :=
 let ⟨h4,β,τ,π,U,hU,R⟩:=R
 ⟨h4,β,τ,π,U,hU,{ R with size:=by rw [h]; exact R.size,slots:=fun t v hv=>by rw [h]; exact R.slots t v hv }⟩
theorem cD.old (R:cD P nt n0 w0 π0 s a w) {w':World} (hb:Below w.heap.size w w'):cD P nt n0 w0 π0 s a w' :=
 let ⟨h,β,τ,π,U,hU,R⟩:=R
 ⟨h,β,τ,π,U,hU,R.frame (fun _ _=>rfl) (fun _ _=>rfl) (fun _ h=>h) (fun _ _ h=>h) (fun _ _ h=>.inl h) (fun b o h=>Nat.lt_of_lt_of_le (R.dn b o h) hb.size) hb⟩
theorem gF {w:World} {l:Nat} {o o':Obj} (h:w.heap[l]? = some o) (hc:o.isCells=false) (hc':o'.isCells=false) (x:Addr):(w.putObj l o').cell? x=w.cell? x:=by
 have hlt:=(Array.getElem?_eq_some_iff.1 h).1
 by_cases e:x.block=l
 ·unfold World.cell?
  rw [e,World.putObj_heap_same hlt,h]
  cases o<;>cases o'<;>first | (cases hc; done) | (cases hc'; done) | rfl
 ·exact World.cell?_of_block (World.putObj_heap_other e)
theorem qn.putObj {n:gK} {w w':World} (h:qn n w w') {l:Nat} (hl:w.heap.size≤l) (hn:n.n≤l) (o:Obj):qn n w (w'.putObj l o) :=
 ⟨h.os,h.tape,h.output,by simpa using h.size,fun k hk hx=>(World.putObj_heap_other (by omega)).trans (h.block k hk hx),fun k x hk hx=>(World.putObj_heap_other (by have:=(Array.getElem?_eq_some_iff.1 hk).1; omega)).trans (h.others k x hk hx)⟩
theorem cD.putObj (R:cD P nt n0 w0 π0 s a w) {l:Nat} {o o':Obj} (h:w.heap[l]? = some o) (hc:o.isCells=false) (hc':o'.isCells=false):cD P nt n0 (w.putObj l o') π0 s a (w.putObj l o'):=by
 obtain ⟨h4,β,τ,π,U,hU,R⟩:=R
 have hcl:∀ b o,π b o→(w.putObj l o').cell? ⟨b,o,none⟩=w.cell? ⟨b,o,none⟩:=fun b x _=>gF h hc hc' _
 have hoth:∀ (B:Nat) (cur:Array Value) (el:TypeId) (f:Nat × Nat),w.heap[B]? = some (.cells cur el f)→(w.putObj l o').heap[B]? = w.heap[B]?:=fun B cur el f hB=>World.putObj_heap_other (fun e=>by subst e; rw [h] at hB; cases hB; cases hc)
 refine ⟨h4,β,τ,π,U,hU,{ R with slots:=?_,boxes:=?_,live:=?_,below:=.refl _ _,dm:=?_,dn:=?_,kept:=fun _ _ _=>rfl }⟩
 ·intro t v hv
  obtain ⟨⟨x,hx,hr⟩,hu⟩:=R.slots t v hv
  exact ⟨⟨x,hx,RV.mono (fun _ _=>rfl) (fun _ _=>rfl) (fun _ _ h=>h) hcl hu hr⟩,hu⟩
 ·intro b x hb
  obtain ⟨g1,g2,g3,g4⟩:=R.boxes b x hb
  have g3':=g3
  obtain ⟨cur,el,hh,_,_,_,hn⟩:=g3'
  exact ⟨g1,g2,g3.keep (fun _ _=>rfl) g4 (hoth _ _ _ _ hh) (fun _ _ h=>h) hcl hn,g4⟩
 ·intro q e hq
  obtain ⟨g1,g2⟩:=R.live q e hq
  refine ⟨g1,g2.keep (fun B hB=>?_) (fun B o _ h=>h)⟩
  rcases g2 with e|⟨B',len,cap,cur,i,e,_,hh,_⟩
  ·rw [e] at hB; cases hB
  ·rw [e] at hB; cases hB; exact hoth _ _ _ _ hh
 ·simpa using Nat.le_trans R.dm R.below.size
 ·intro b o hb; simpa using R.dn b o hb
theorem uX {wr:List Nat} {t:Nat}:∀ {l:List (Nat × SV)} {v:SV},lk t (tE wr l)=some v→¬ t∈wr∧lk t l=some v
 | [],v,h=>by cases h
 |(m,u) :: r,v,h=>by
  simp only [tE] at h
  cases hc:wr.contains m with
  | true =>
   rw [hc] at h
   obtain ⟨h1,h2⟩:=uX (l:=r) h
   refine ⟨h1,?_⟩
   have hne:¬ t=m:=fun e=>h1 (by subst e; simpa using hc)
   simp only [lk,iC,hne,if_false]; exact h2
  | false =>
   rw [hc] at h
   simp only [cond_false,lk,iC] at h ⊢
   by_cases e:t=m
   ·rw [if_pos e] at h ⊢
    exact ⟨fun hm=>by subst e; simp at hc; exact hc hm,h⟩
   ·rw [if_neg e] at h ⊢
    exact uX (l:=r) h
theorem cD.cut (R:cD P nt n0 w0 π0 s a w) {wr:List Nat} {a1:Act} (hk:∀ t,¬ t∈wr→a.tmps[t]? = a1.tmps[t]?) (hs:a1.tmps.size=nt):cD P nt n0 w0 π0 (qV wr s) a1 w:=by
 obtain ⟨h4,β,τ,π,U,hU,R⟩:=R
 refine ⟨h4,β,τ,π,U,hU,{ R with size:=hs,slots:=fun t v hv=>?_ }⟩
 obtain ⟨h1,h2⟩:=uX hv
 rw [← hk t h1]
 exact R.slots t v h2
theorem qc:∀ {ps:List Nat} {xs:List AV} {s:S} {t:Array Value},(∀ p∈ps,p < nt)→(∀ x∈xs,kT x=true)→Rel P nt n0 w0 π0 U s { tmps:=t,defers:=[] } w β τ π →
  Rel P nt n0 w0 π0 U (lA ps xs s) { tmps:=(ps.zip (xs.map nP)).foldl (fun t p=>t.setIfInBounds p.1 p.2) t,defers:=[] } w β τ π
 | [],xs,s,t,_,_,R=>by cases xs<;>exact R
 | p :: ps,[],s,t,_,_,R=>R
 | p :: ps,x :: xs,s,t,hp,hx,R=>by
  have R1:=R.put (some p) (v:=.dat x none) (x:=nP x) (fun q hq=>by cases hq; exact hp p List.mem_cons_self) ⟨.flat (hx x List.mem_cons_self),fun t ht=>by cases ht⟩ trivial
  exact qc (ps:=ps) (xs:=xs) (fun q hq=>hp q (List.mem_cons_of_mem _ hq)) (fun y hy=>hx y (List.mem_cons_of_mem _ hy)) R1
theorem rF:∀ {ps:List Nat} {xs:List AV} {s:S},(lA ps xs s).nx=s.nx
 | [],xs,s=>by cases xs<;>rfl
 | p :: ps,[],s=>rfl
 | p :: ps,x :: xs,s=>by rw [lA,rF]; rfl
theorem kU:∀ {l:List (Nat × Value)} {t:Array Value} {k:Nat},(∀ p∈l,p.1≠k)→(l.foldl (fun t p=>t.setIfInBounds p.1 p.2) t)[k]? = t[k]?
 | [],t,k,_=>rfl
 | p :: l,t,k,h=>by
  rw [List.foldl_cons,kU (fun q hq=>h q (List.mem_cons_of_mem _ hq))]
  exact Array.getElem?_setIfInBounds_ne (h p List.mem_cons_self)
def uh (r:Option Nat) (w:World):Prop:=∀ l,r=some l→∃ r₀,w.heap[l]? = some (.loop r₀)
def FB (D:Nat):Deferred:={ target:=.collected D,args:=#[] }
def Marks (dd:List Deferred) (n0:gK) (a:Act) (w:World):Prop:=∃ Ds:List Nat,a.defers=Ds.map FB++dd∧Ds.Nodup∧∀ D∈Ds,n0.n≤D∧w.heap[D]? = some (.deferred (some []))
def nr (P:Program) (nt:Nat) (n0:gK) (w0:World) (π0:Nat→Nat→Prop) (r:Option Nat) (T:Nat→Prop) (a0:Act) (s:S) (a:Act) (w:World):Prop :=
 cD P nt n0 w0 π0 s a w∧uh r w∧Marks a0.defers n0 a w∧∀ t,T t→a.tmps[t]? = a0.tmps[t]?
def qo (P:Program) (nt:Nat) (n0:gK) (w0:World) (π0:Nat→Nat→Prop) (r:Option Nat) (T:Nat→Prop) (a0:Act) (QA:Exit→S→Prop) (e:Exit) (a:Act) (w:World):Prop:=∃ s,QA e s∧nr P nt n0 w0 π0 r T a0 s a w
theorem cD.down (R:cD P nt n0 w0 π0 s a w) {F:S→Prop} (h:Eng.down F s):∃ s',F s'∧cD P nt n0 w0 π0 s' a w:=by
 obtain ⟨s1,⟨hle,hF⟩|hF⟩:=h
 ·obtain ⟨_,β,τ,π,U,hU,R⟩:=R
  exact ⟨s1,hF,R.le hle⟩
 ·exact ⟨s,hF,R⟩
def rG (L:List (Nat × Obj)) (w:World):Prop:=∀ p∈L,w.heap[p.1]? = some p.2
theorem rG.others {L:List (Nat × Obj)} {w w':World} (h:rG L w) (hc:∀ p∈L,p.2.isCells=false) (ho:∀ (k:Nat) (o:Obj),w.heap[k]? = some o→o.isCells=false→w'.heap[k]? = some o):rG L w' :=
 fun p hp=>ho _ _ (h p hp) (hc p hp)
theorem rG.putObj {L:List (Nat × Obj)} {w:World} (h:rG L w) {l:Nat} (hl:∀ p∈L,p.1≠l) (o:Obj):rG L (w.putObj l o) :=
 fun p hp=>(World.putObj_heap_other (hl p hp)).trans (h p hp)
theorem eF {w w':World} (h:Below w.heap.size w w') (k:Nat) (o:Obj) (hk:w.heap[k]? = some o):w'.heap[k]? = some o:=(h.block k (Array.getElem?_eq_some_iff.1 hk).1).trans hk
theorem uh.others {r:Option Nat} {w w':World} (h:uh r w) (ho:∀ (k:Nat) (o:Obj),w.heap[k]? = some o→o.isCells=false→w'.heap[k]? = some o):uh r w' :=
 fun l hl=>let ⟨r₀,hr⟩:=h l hl; ⟨r₀,ho _ _ hr rfl⟩
theorem Marks.others {dd:List Deferred} {n0:gK} {a a':Act} {w w':World} (h:Marks dd n0 a w) (ha:a'.defers=a.defers) (ho:∀ (k:Nat) (o:Obj),w.heap[k]? = some o→o.isCells=false→w'.heap[k]? = some o):Marks dd n0 a' w' :=
 let ⟨Ds,h1,h2,h3⟩:=h; ⟨Ds,ha.trans h1,h2,fun D hD=>⟨(h3 D hD).1,ho _ _ (h3 D hD).2 rfl⟩⟩
theorem zP {P:Program} {r:Option Nat} {w:World} (hr:uh r w) (fn:FuncId) (tmps:Array Value) (ps:Array Tmp) (as bd:Code) :
  ∃ (l:Nat) (Ds:List Nat) (W1:World) (dd:Nat),(Instr.enterLoop fn tmps ps as bd r).run P w=.ok (l,Ds.map FB) W1∧w.heap.size≤l ∧
   W1.heap[l]? = some (.loop { state:=.ready,pending:=none,fn,tmps,params:=ps,assign:=as,body:=bd,defers:=dd })∧Below w.heap.size w W1∧Ds.Nodup ∧
   ∀ D∈Ds,w.heap.size≤D∧D≠l∧W1.heap[D]? = some (.deferred (some [])):=by
 cases r with
 | none =>
  refine ⟨w.heap.size + 1,[w.heap.size],_,w.heap.size,run_enterLoop_outer fn tmps ps as bd,by omega,?_,?_,by simp,?_⟩
  ·have:=World.alloc_heap_new (w.alloc (.deferred (some []))) (.loop { state:=.ready,pending:=none,fn,tmps,params:=ps,assign:=as,body:=bd,defers:=w.heap.size })
   rwa [World.size_alloc] at this
  ·exact (((Below.refl _ w).alloc (Nat.le_refl _) _).alloc (by simp) _)
  ·intro D hD
   simp only [List.mem_singleton] at hD
   subst hD
   exact ⟨Nat.le_refl _,by omega,(Below.heap_alloc _ _ _ (by simp)).trans (World.alloc_heap_new w _)⟩
 | some l₀ =>
  obtain ⟨r₀,h⟩:=hr l₀ rfl
  exact ⟨w.heap.size,[],_,r₀.defers,run_enterLoop_inner h fn tmps ps as bd,Nat.le_refl _,World.alloc_heap_new w _,(Below.refl _ w).alloc (Nat.le_refl _) _,by simp,by simp⟩
theorem DV.Gj {π:Nat→Nat→Prop} {gf:Nat} {caps:List AV} {v:Value} (h:DV w π (.fn (.func gf) [] caps) v):∃ us:Array Value,v=.func (.func gf) #[] us∧fy w π caps us.toList:=by
 cases h with
 | fn f as vs bs us h1 h2 h3 h4 =>
  have:vs=#[]:=by simpa using h1.symm
  subst this
  exact ⟨us,rfl,by simpa using h2,fun i a v ha hv=>h4 i a v ha (by simpa using hv)⟩
section
variable {nt:Nat} {n0:gK} {π0:Nat→Nat→Prop} {T:Nat→Prop} {a0:Act} {r:Option Nat} {n:Nat} {QA:Exit→S→Prop}
theorem xJ {g:Operand} {ps:Array Tmp} {as bd:Code} {g':aQ} {ca cb:aK} {wr:List Nat} (hg:bC g=some g') (hps:∀ t∈ps.toList,t < nt∧t∈wr) (hwa:∀ t∈ca.writes,t∈wr) (hwb:∀ t∈cb.writes,t∈wr)
  (ihA:∀ (π0:Nat→Nat→Prop) (T:Nat→Prop) (a0:Act),(∀ t,T t→¬ t∈ca.writes)→∀ (r:Option Nat) (n:Nat) (w0:World) (QA:Exit→S→Prop) (s:S) (a:Act) (w:World),nr P nt n0 w0 π0 r T a0 s a w→aw (Pure P) ca QA s→as.wpIn (FW r) n P (qo P nt n0 w0 π0 r T a0 QA) a w)
  (ihB:∀ (π0:Nat→Nat→Prop) (T:Nat→Prop) (a0:Act),(∀ t,T t→¬ t∈cb.writes)→∀ (r:Option Nat) (n:Nat) (w0:World) (QA:Exit→S→Prop) (s:S) (a:Act) (w:World),nr P nt n0 w0 π0 r T a0 s a w→aw (Pure P) cb QA s→bd.wpIn (FW r) n P (qo P nt n0 w0 π0 r T a0 QA) a w)
  (R:nr P nt n0 w0 π0 r T a0 s a w) (h:aw (Pure P) (.tA g' ps.toList wr ca cb) QA s):(Code.rangeFunc g ps as bd).wpIn (FW r) n P (qo P nt n0 w0 π0 r T a0 QA) a w:=by
 simp only [aw] at h
 obtain ⟨gv,hgv,xs,hit,hlen,F,hF0,hFg,hround,hdone⟩:=af h
 clear h
 obtain ⟨RN,RL,⟨Ds1,hm1,hm2,hm3⟩,RK⟩:=R
 have hsize:a.tmps.size=nt:=let ⟨_,_,_,_,_,_,R⟩:=RN; R.size
 obtain ⟨gf,caps,rfl,hcall,hflat,hiter⟩:=hit
 obtain ⟨s0,hs0,RN0⟩:=RN.down hF0
 obtain ⟨π1,us,hus,husd,hπ0,hπ1,hπl,RN1⟩:∃ (π1:Nat→Nat→Prop) (us:Array Value),a.eval g=.func (.func gf) #[] us∧fy w π1 caps us.toList∧(∀ b o,π0 b o→π1 b o)∧(∀ b o,π1 b o→π0 b o∨n0.ok b)∧(∀ b o,π1 b o→b < w.heap.size)∧cD P nt n0 w π1 s0 a w:=by
  obtain ⟨h4,β,τ,π,U,hU,R⟩:=RN0
  obtain ⟨us,h1,h2⟩:=DV.Gj (R.ax hg (hFg 0 s0 hs0))
  exact ⟨π,us,h1,h2,R.dA,R.bW,R.dn,h4,β,τ,π,U,hU,{ R with below:=.refl _ _,dm:=Nat.le_trans R.dm R.below.size,kept:=fun _ _ _=>rfl,dA:=fun _ _ h=>h,bW:=fun _ _ h=>.inl h }⟩
 refine wpIn_rangeFunc ?_
 intro fn _
 obtain ⟨l,Ds0,W1,dd,hent,hl,hrec1,hb1,hnd0,hDs0⟩:=zP (P:=P) RL fn a.tmps ps as bd
 obtain ⟨rec,hrec⟩:∃ rec:LoopState→Option Code→Loop,rec=fun st pe=>{ state:=st,pending:=pe,fn,tmps:=a.tmps,params:=ps,assign:=as,body:=bd,defers:=dd }:=⟨_,rfl⟩
 have hrec1:W1.heap[l]? = some (.loop (rec .ready none)):=by rw [hrec]; exact hrec1
 -- what lies pinned
 obtain ⟨L,hL⟩:∃ L:List (Nat × Obj),L=(Ds0++Ds1).map (fun D=>(D,Obj.deferred (some [])))++(match r with|some l₀=>(match w.heap[l₀]? with|some o=>[(l₀,o)]|none=>[])|none=>[]):=⟨_,rfl⟩
 have hLc:∀ p∈L,p.2.isCells=false:=by
  intro p hp
  rw [hL,List.mem_append] at hp
  rcases hp with hp|hp
  ·obtain ⟨D,_,rfl⟩:=List.mem_map.1 hp; rfl
  ·cases r with
   | none=>cases hp
   | some l₀ =>
    obtain ⟨r₀,hr⟩:=RL l₀ rfl
    simp only [hr,List.mem_singleton] at hp
    subst hp; rfl
 have hLl:∀ p∈L,p.1≠l:=by
  intro p hp
  rw [hL,List.mem_append] at hp
  rcases hp with hp|hp
  ·obtain ⟨D,hD,rfl⟩:=List.mem_map.1 hp
   rcases List.mem_append.1 hD with hD|hD
   ·exact (hDs0 D hD).2.1
   ·have:=(Array.getElem?_eq_some_iff.1 (hm3 D hD).2).1
    simp only; omega
  ·cases r with
   | none=>cases hp
   | some l₀ =>
    obtain ⟨r₀,hr⟩:=RL l₀ rfl
    simp only [hr,List.mem_singleton] at hp
    subst hp
    have:=(Array.getElem?_eq_some_iff.1 hr).1
    simp only; omega
 have hL1:rG L W1:=by
  intro p hp
  rw [hL,List.mem_append] at hp
  rcases hp with hp|hp
  ·obtain ⟨D,hD,rfl⟩:=List.mem_map.1 hp
   rcases List.mem_append.1 hD with hD|hD
   ·exact (hDs0 D hD).2.2
   ·exact eF hb1 _ _ (hm3 D hD).2
  ·cases r with
   | none=>cases hp
   | some l₀ =>
    obtain ⟨r₀,hr⟩:=RL l₀ rfl
    simp only [hr,List.mem_singleton] at hp
    subst hp
    exact eF hb1 _ _ hr
 have hLloop:∀ W,rG L W→uh r W:=by
  intro W hW l₀ e
  subst e
  obtain ⟨r₀,hr⟩:=RL l₀ rfl
  exact ⟨r₀,hW (l₀,.loop r₀) (by rw [hL]; simp [hr])⟩
 have hLmarks:∀ W,rG L W→Marks a0.defers n0 { a with defers:=Ds0.map FB++a.defers } W:=by
  intro W hW
  refine ⟨Ds0++Ds1,by simp [hm1],?_,fun D hD=>⟨?_,hW (D,_) (by rw [hL]; exact List.mem_append_left _ (List.mem_map.2 ⟨D,hD,rfl⟩))⟩⟩
  ·refine List.nodup_append.2 ⟨hnd0,hm2,fun x hx y hy e=>?_⟩
   subst e
   have h1:=(hDs0 x hx).1
   have h2:=(Array.getElem?_eq_some_iff.1 (hm3 x hy).2).1
   omega
  ·rcases List.mem_append.1 hD with hD | hD
   ·exact Nat.le_trans (Nat.le_trans RN.dm RN.below.size) (hDs0 D hD).1
   ·exact (hm3 D hD).1
 have hl0:w0.heap.size≤l:=Nat.le_trans RN.below.size hl
 have hln:n0.n≤l:=Nat.le_trans RN.dm hl0
 have home:∀ (s':S) (W2:World),cD P nt n0 w π1 s' a W2→∀ {o:Loop},W2.heap[l]? = some (.loop o)→∀ (o':Loop),cD P nt n0 w0 π0 s' a (W2.putObj l (.loop o')):=by
  intro s' W2 R' o ho o'
  refine (R'.putObj ho rfl rfl).back hπ0 hπ1 ((RN.below.trans R'.below).putObj hl0 hln _) RN.dm fun b x hb=>?_
  rw [gF ho rfl rfl,R'.kept b x (hπ0 b x hb)]
  exact RN.kept b x hb
 refine ⟨l,Ds0.map FB,W1,{ target:=.fn (.func gf) us,args:=#[.func (.yield l) #[] #[]] },W1,gf,#[.func (.yield l) #[] #[]]++us,W1,hent,?_,fun _ _=>trivial,?_,fun h=>by simp [FW,Fence.wide] at h,?_⟩
 ·simp only [resolve,hus]; simp [go_sem]
 ·simp [invoke,go_sem,dG hcall]
 refine rz.2 ?_
 have:=hiter l
  (fun i W=>(∃ s',F i s'∧cD P nt n0 w π1 s' a W)∧rG L W∧W.heap[l]? = some (.loop (rec .ready none)))
  (fun W=>∃ c s',((c=.ret∧QA .ret s')∨∃ id,c=.exit id∧QA (.exit id) s')∧cD P nt n0 w π1 s' a W∧rG L W∧W.heap[l]? = some (.loop (rec .done (some c))))
  W1 π1 us.toList (fun b o h=>Nat.lt_of_lt_of_le (hπl b o h) hb1.size) (husd.mono (fun _ _ h=>h) (fun b o h=>Below.mw hb1 (hπl b o h))) ?_ ?_ ?_ ?_ ⟨⟨s0,hs0,RN1.old hb1⟩,hL1,hrec1⟩
 ·refine (by simpa using this:Calls P gf (#[.func (.yield l) #[] #[]]++us) W1 _).mono ?_
  rintro e W2 ⟨⟨v,rfl⟩,⟨⟨s',hs',R'⟩,hp,hr⟩|⟨c,s',hq,R',hp,hr⟩⟩
  ·refine ⟨none,_,by have:=run_endLoop (P:=P) hr (by rw [hrec]; simp); rw [hrec] at this; exact this,s',hdone s' hs',?_⟩
   have hp2:=hp.putObj hLl (.loop { rec .ready none with state:=.exhausted })
   rw [hrec] at hp2
   exact ⟨(home _ _ R' hr _).Gi rfl,hLloop _ hp2,hLmarks _ hp2,RK⟩
  ·refine ⟨some c,_,by have:=run_endLoop (P:=P) hr (by rw [hrec]; simp); rw [hrec] at this; exact this,?_⟩
   have hp2:=hp.putObj hLl (.loop { rec .done (some c) with state:=.exhausted })
   rw [hrec] at hp2
   have RT:nr P nt n0 w0 π0 r T a0 s' { a with defers:=Ds0.map FB++a.defers } (W2.putObj l (.loop { rec .done (some c) with state:=.exhausted })):=by
    rw [hrec]
    exact ⟨(home _ _ R' hr _).Gi rfl,hLloop _ hp2,hLmarks _ hp2,RK⟩
   rw [hrec] at RT
   rcases hq with ⟨rfl,hq⟩|⟨id,rfl,hq⟩
   ·exact wpIn_ret ⟨s',hq,RT⟩
   ·exact wpIn_exit ⟨s',hq,RT⟩
 ·rintro i W ⟨⟨s',hs',R'⟩,_,_⟩ b o hb
  rw [R'.kept b o hb]
  exact (Below.mw hb1 (hπl b o hb)).symm
 ·rintro i W W' ⟨⟨s',hs',R'⟩,hp,hr⟩ hb
  exact ⟨⟨s',hs',R'.old hb⟩,hp.others hLc (fun k o hk _=>eF hb k o hk),eF hb _ _ hr⟩
 ·rintro W W' ⟨c,s',hq,R',hp,hr⟩ hb
  exact ⟨c,s',hq,R'.old hb,hp.others hLc (fun k o hk _=>eF hb k o hk),eF hb _ _ hr⟩
 ·rintro m i x W hx ⟨⟨s',hs',R'⟩,hp,hr⟩
  have hxl:=hlen x (List.mem_of_getElem? hx)
  have hy:=run_yield (P:=P) (args:=(x.map nP).toArray) hr (by rw [hrec]; simpa using hxl)
  rw [hrec] at hy
  refine ⟨fn,_,as,bd,hy,roundIn_of_wpIn trivial ?_⟩
  have etm:(ps.zip (x.map nP).toArray).foldl (fun tmps p=>tmps.setIfInBounds p.1 p.2) a.tmps=(ps.toList.zip (x.map nP)).foldl (fun t p=>t.setIfInBounds p.1 p.2) a.tmps:=by
   rw [← Array.foldl_toList]; simp [Array.toList_zip]
  have RP:cD P nt n0 W π1 (lA ps.toList x s') { tmps:=(ps.toList.zip (x.map nP)).foldl (fun t p=>t.setIfInBounds p.1 p.2) a.tmps,defers:=[] } W:=by
   obtain ⟨h4,β,τ,π,U,hU,R2⟩:=(R'.Gi (a':={ tmps:=a.tmps,defers:=[] }) rfl).Ji
   refine ⟨by rw [rF]; exact h4,β,τ,π,U,fun k hk=>by rw [rF]; exact hU k hk,?_⟩
   exact qc (fun p hp=>(hps p hp).1) (hflat x (List.mem_of_getElem? hx)) R2
  have hkeep:∀ t,¬ t∈wr→((ps.toList.zip (x.map nP)).foldl (fun t p=>t.setIfInBounds p.1 p.2) a.tmps)[t]? = a.tmps[t]? :=
   fun t ht=>kU (fun p hp e=>ht (e ▸ (hps p.1 (List.of_mem_zip hp).1).2))
  have hA:=ihA π1 (fun t=>¬ t∈wr) ⟨a.tmps,[]⟩ (fun t ht hw=>ht (hwa t hw)) (some l) m W _ _ _ _ ⟨RP,fun l' e=>by cases e; exact ⟨_,hr⟩,⟨[],rfl,.nil,by simp⟩,hkeep⟩ (hround i x s' hx hs')
  have hA:as.wpIn (Fence.wide.inRound l) m P (qo P nt n0 W π1 (some l) (fun t=>¬ t∈wr) ⟨a.tmps,[]⟩ (nU (aw (Pure P) cb (yw wr (F (i + 1)) QA)))) { tmps:=(ps.zip (x.map nP).toArray).foldl (fun tmps p=>tmps.setIfInBounds p.1 p.2) a.tmps,defers:=[] } W:=by rw [etm]; exact hA
  refine wpIn_mono hA ?_
  rintro e a₁ w₁ ⟨s1,hq1,RN2,_,hmk1,hk1⟩
  cases e<;>try exact hq1.elim
  have hr1:=RN2.below.others _ _ hr rfl
  have hp1:=hp.others hLc RN2.below.others
  refine ⟨_,run_beginRound hr1 (by rw [hrec]),?_⟩
  have hlt1:=(Array.getElem?_eq_some_iff.1 hr1).1
  have hr2:(w₁.putObj l (.loop { rec .ready none with state:=.busy })).heap[l]? = some (.loop { rec .ready none with state:=.busy }):=World.putObj_heap_same hlt1
  have hp2:=hp1.putObj hLl (.loop { rec .ready none with state:=.busy })
  have RN4:=RN2.putObj hr1 rfl (o':=.loop { rec .ready none with state:=.busy }) rfl
  have hmk2:Marks [] n0 a₁ (w₁.putObj l (.loop { rec .ready none with state:=.busy })):=by
   obtain ⟨Ds,h1,h2,h3⟩:=hmk1
   refine ⟨Ds,h1,h2,fun D hD=>⟨(h3 D hD).1,(World.putObj_heap_other (fun e=>?_)).trans (h3 D hD).2⟩⟩
   subst e
   have:=(h3 D hD).2
   rw [hr1] at this; cases this
  have hbl2:qn n0 w (w₁.putObj l (.loop { rec .ready none with state:=.busy })):=(R'.below.trans RN2.below).putObj hl hln _
  have hB:=ihB π1 (fun t=>¬ t∈wr) ⟨a.tmps,[]⟩ (fun t ht hw=>ht (hwb t hw)) (some l) m (w₁.putObj l (.loop { rec .ready none with state:=.busy })) (yw wr (F (i + 1)) QA) s1 a₁ _ ⟨RN4,fun l' e=>by cases e; exact ⟨_,hr2⟩,hmk2,hk1⟩ hq1
  refine wpIn_mono (show bd.wpIn (Fence.wide.inRound l) m P (qo P nt n0 (w₁.putObj l (.loop { rec .ready none with state:=.busy })) π1 (some l) (fun t=>¬ t∈wr) ⟨a.tmps,[]⟩ (yw wr (F (i + 1)) QA)) a₁ _ from hB) ?_
  rintro e a3 W3 ⟨s3,hq3,RN3,_,_,hk3⟩
  have hr3:=RN3.below.others _ _ hr2 rfl
  have hp3:=hp2.others hLc RN3.below.others
  have hbl3:=hbl2.trans RN3.below
  have fin:∀ (jump:Option Code),(Instr.endRound l jump).run P W3=.ok (.bool jump.isNone) (W3.putObj l (.loop (rec (if jump.isNone then .ready else .done) jump))) ∧
    (W3.putObj l (.loop (rec (if jump.isNone then .ready else .done) jump))).heap[l]? = some (.loop (rec (if jump.isNone then .ready else .done) jump)):=fun jump=>by
   have:=run_endRound (P:=P) jump hr3
   rw [hrec] at this ⊢
   exact ⟨this,World.putObj_heap_same (Array.getElem?_eq_some_iff.1 hr3).1⟩
  have back:∀ (s4:S),cD P nt n0 (w₁.putObj l (.loop { rec .ready none with state:=.busy })) π1 s4 a W3→∀ st pe,cD P nt n0 w π1 s4 a (W3.putObj l (.loop (rec st pe))):=fun s4 R4 st pe =>
   (R4.putObj hr3 rfl rfl).IT (hbl3.putObj hl hln _) RN1.dm fun b o hb=>by
    rw [gF hr3 rfl rfl,R4.kept b o hb,gF hr1 rfl rfl,RN2.kept b o hb,R'.kept b o hb]
  cases e with
  | normal =>
   obtain ⟨s4,hs4,R4⟩:=(RN3.cut (wr:=wr) (a1:=a) hk3 hsize).down hq3
   obtain ⟨f1,f2⟩:=fin none
   exact ⟨_,_,f1,.inl ⟨rfl,⟨s4,hs4,back s4 R4 _ _⟩,hp3.putObj hLl _,f2⟩⟩
  | ret =>
   obtain ⟨f1,f2⟩:=fin (some .ret)
   exact ⟨_,_,f1,.inr ⟨rfl,.ret,_,.inl ⟨rfl,hq3⟩,back _ (RN3.cut (wr:=wr) (a1:=a) hk3 hsize) _ _,hp3.putObj hLl _,f2⟩⟩
  | exit id =>
   obtain ⟨f1,f2⟩:=fin (some (.exit id))
   exact ⟨_,_,f1,.inr ⟨rfl,.exit id,_,.inr ⟨id,rfl,hq3⟩,back _ (RN3.cut (wr:=wr) (a1:=a) hk3 hsize) _ _,hp3.putObj hLl _,f2⟩⟩
  | _=>exact hq3.elim
end
theorem nr.sub {π0:Nat→Nat→Prop} {r:Option Nat} {T:Nat→Prop} {a0:Act} (R:nr P nt n0 w0 π0 r T a0 s a w) {a':Act} {w':World} {s':S} (hp:lK T a a') (RN:cD P nt n0 w π0 s' a' w'):nr P nt n0 w0 π0 r T a0 s' a' w' :=
 ⟨RN.IT (R.1.below.trans RN.below) R.1.dm (fun b o h=>(RN.kept b o h).trans (R.1.kept b o h)),R.2.1.others RN.below.others,R.2.2.1.others hp.1 RN.below.others,fun t ht=>(hp.2 t ht).trans (R.2.2.2 t ht)⟩
theorem nr.down {π0:Nat→Nat→Prop} {r:Option Nat} {T:Nat→Prop} {a0:Act} (R:nr P nt n0 w0 π0 r T a0 s a w) {F:S→Prop} (h:Eng.down F s):∃ s',F s'∧nr P nt n0 w0 π0 r T a0 s' a w :=
 let ⟨s',h1,h2⟩:=R.1.down h; ⟨s',h1,h2,R.2⟩
theorem rH {mo:Bool}:∀ (c:Code) (cc:aK),bK mo P c=some cc→∀ l,(findLabel c l).isSome=(cc.after l).isSome:=by
 intro c
 induction c with
 | seq x y ihx ihy =>
  intro cc hc l
  simp only [bK] at hc
  split at hc<;>try (cases hc; done)
  rename_i cx cy hcx hcy
  have hx:=ihx cx hcx l
  have hy:=ihy cy hcy l
  cases hc
  have key:(findLabel (.seq x y) l).isSome=(match cx.after l with | some r=>some (aK.join r cy) | none=>cy.after l).isSome:=by
   simp only [findLabel]
   cases h1:findLabel x l<;>cases h2:cx.after l<;>simp_all
  split<;>exact key
 | label l'=>intro cc hc l; cases hc; simp only [findLabel,aK.after]; split<;>rfl
 | skip=>intro cc hc l; cases hc; rfl
 | region id ops jo =>
  intro cc hc l
  simp only [bK] at hc
  split at hc
  ·simp only [Option.map_eq_some_iff] at hc
   obtain ⟨cos,_,rfl⟩:=hc
   rfl
  split at hc<;>try (cases hc; done)
  split at hc
  ·split at hc
   ·split at hc<;>try (cases hc; done)
    cases hc; rfl
   ·split at hc<;>try (cases hc; done)
    cases hc; rfl
  ·cases hc; rfl
 | cond cd x y ihx ihy =>
  intro cc hc l
  simp only [bK] at hc
  split at hc<;>try (cases hc; done)
  cases hc; rfl
 | block id c ih=>intro cc hc l; simp only [bK,Option.map_eq_some_iff] at hc; obtain ⟨c',hc',rfl⟩:=hc; rfl
 | loop c ih=>intro cc hc l; simp only [bK,Option.map_eq_some_iff] at hc; obtain ⟨c',hc',rfl⟩:=hc; rfl
 | exit id=>intro cc hc l; cases hc; rfl
 | ret=>intro cc hc l; cases hc; rfl
 | goto l'=>intro cc hc l; cases hc; rfl
 | scope c ih =>
  intro cc hc l
  simp only [bK] at hc
  split at hc<;>try (cases hc; done)
  split at hc<;>try (cases hc; done)
  simp only [Option.map_eq_some_iff] at hc
  obtain ⟨r,_,rfl⟩:=hc
  rfl
 | rangeFunc g ps as bd ihA ihB =>
  intro cc hc l
  simp only [bK] at hc
  split at hc<;>try (cases hc; done)
  split at hc<;>try (cases hc; done)
  cases hc; rfl
 | _=>intro cc hc; cases hc
section
variable {F:Fence} {m:Nat} {Q:Exit→Act→World→Prop}
theorem wG {b:Frame} {k:List Item} {cs:List Frame} {c:Code}:step P (lone (b.atR a (.code (.scope c) :: k)) cs w)=.next (lone (b.atR a (.code c :: .inScope c :: k)) cs w) :=
 step_lone_go (by simp [stepG,stepG.exec,Frame.atR])
theorem tH {b:Frame} {k:List Item} {cs:List Frame} {c:Code}:step P (lone (b.atR a (.inScope c :: k)) cs w)=.next (lone (b.atR a k) cs w) :=
 step_lone_go (by simp [stepG,stepG.exec,Frame.atR])
theorem xK {c rest:Code} {l:Nat} (hf:findLabel c l=some rest) (G:Act→World→Prop)
  (h:c.wpIn F m P (fun e a w=>match e with | .goto l'=>l'=l∧G a w | e=>Q e a w) a w)
  (hr:∀ a w,G a w→rest.wpIn F m P (Exit.noGoto Q) a w):(Code.scope c).wpIn F m P Q a w:=by
 intro b k cs hro hb hroom
 have h0:(lone (b.atR a (.code (.scope c) :: k)) cs w).fenced P F:=fenced_calm hb hroom rfl
 have leave:∀ {e:Exit} {a₁:Act} {w₁:World} {m1:Machine},StepsIn (Machine.fenced P F) P (lone (b.atR a (.code (.scope c) :: k)) cs w) m1→(∀ l,e≠.goto l)→ArrivesIn (Machine.fenced P F) P m1 b (.inScope c :: k) cs e a₁ w₁ →
   ArrivesIn (Machine.fenced P F) P (lone (b.atR a (.code (.scope c) :: k)) cs w) b k cs e a₁ w₁:=by
  intro e a₁ w₁ m1 hs hne harr
  cases e with
  | normal=>exact hs.trans (StepsIn.trans harr (.one (fenced_calm hb hroom rfl) tH))
  | exit id=>exact ⟨fun k' hk=>hs.trans (harr.1 k' (by simpa [exitTo] using hk)),fun hr' hk=>let ⟨k₁,h1,h2⟩:=harr.2 hr' (by simpa [exitTo] using hk); ⟨k₁,h1,hs.trans h2⟩⟩
  | goto l=>exact absurd rfl (hne l)
  | ret=>exact .of_steps hs harr
  | panic ch=>exact .of_steps hs harr
  | outgrown=>exact .of_steps hs harr
 have hstart:StepsIn (Machine.fenced P F) P (lone (b.atR a (.code (.scope c) :: k)) cs w) (lone (b.atR a (.code c :: .inScope c :: k)) cs w):=.one h0 wG
 obtain ⟨e,a₁,w₁,hq,harr⟩:=h b (.inScope c :: k) cs hro hb hroom
 have other:(∀ l,e≠.goto l)→Q e a₁ w₁→∃ e a' w',Q e a' w'∧ArrivesIn (Machine.fenced P F) P (lone (b.atR a (.code (.scope c) :: k)) cs w) b k cs e a' w':=fun hne hq=>⟨e,a₁,w₁,hq,leave hstart hne harr⟩
 cases e with
 | goto l' =>
  obtain ⟨rfl,hG⟩:=hq
  have hto:=harr.1 (.code rest :: .inScope c :: k) (by simp [gotoIn,hf])
  obtain ⟨e2,a₂,w₂,hq2,harr2⟩:=hr a₁ w₁ hG b (.inScope c :: k) cs hro hb hroom
  have other2:(∀ l,e2≠.goto l)→Q e2 a₂ w₂→∃ e a' w',Q e a' w'∧ArrivesIn (Machine.fenced P F) P (lone (b.atR a (.code (.scope c) :: k)) cs w) b k cs e a' w':=fun hne hq=>⟨e2,a₂,w₂,hq,leave (hstart.trans hto) hne harr2⟩
  cases e2 with
  | goto l2=>exact hq2.elim
  | _=>exact other2 (fun l h=>by cases h) hq2
 | _=>exact other (fun l h=>by cases h) hq
end
def Sound (P:Program) (nt:Nat) (n0:gK) (c:Code) (cc:aK):Prop :=
 cc.fits nt=true→∀ (π0:Nat→Nat→Prop) (T:Nat→Prop) (a0:Act),(∀ t,T t→¬ t∈cc.writes)→∀ (r:Option Nat) (n:Nat) (w0:World) (QA:Exit→S→Prop) (s:S) (a:Act) (w:World),
  nr P nt n0 w0 π0 r T a0 s a w→aw (Pure P) cc QA s→c.wpIn (FW r) n P (qo P nt n0 w0 π0 r T a0 QA) a w
theorem rI {x y:Code} {cx cy:aK} (hx:Sound P nt n0 x cx) (hy:Sound P nt n0 y cy):Sound P nt n0 (.seq x y) (.join cx cy):=by
 intro hf π0 T a0 hT r n w0 QA s a w R h
 have nn:∀ (e:Exit) (G:S→Prop) (s':S) (a':Act) (w':World),e≠.normal→gk G QA e s'→nr P nt n0 w0 π0 r T a0 s' a' w'→Exit.then (y.wpIn (FW r) n P (qo P nt n0 w0 π0 r T a0 QA)) (qo P nt n0 w0 π0 r T a0 QA) e a' w':=by
  intro e G s' a' w' hne hq R'
  cases e with
  | normal=>exact absurd rfl hne
  | _=>exact ⟨s',hq,R'⟩
 simp only [aK.fits,Bool.and_eq_true] at hf
 simp only [aK.writes,List.mem_append,not_or] at hT
 refine wpIn_seq (wpIn_mono (hx hf.1 π0 T a0 (fun t ht=>(hT t ht).1) r n w0 _ s a w R h) ?_)
 rintro e a' w' ⟨s',hq,R'⟩
 cases e with
 | normal =>
  obtain ⟨s2,hF,R2⟩:=R'.down hq
  exact hy hf.2 π0 T a0 (fun t ht=>(hT t ht).2) r n w0 QA s2 a' w' R2 hF
 | _=>exact nn _ _ s' a' w' (by simp) hq R'
theorem zQ {x y:Code} {cx cy:aK} (hx:Sound P nt n0 x cx) (hy:Sound P nt n0 y cy):Sound P nt n0 (.seq x y) (.seq cx cy):=by
 intro hf π0 T a0 hT r n w0 QA s a w R h
 simp only [aK.fits,Bool.and_eq_true] at hf
 simp only [aK.writes,List.mem_append,not_or] at hT
 refine wpIn_seq (wpIn_mono (hx hf.1 π0 T a0 (fun t ht=>(hT t ht).1) r n w0 _ s a w R h) ?_)
 rintro e a' w' ⟨s',hq,R'⟩
 cases e with
 | normal=>exact hy hf.2 π0 T a0 (fun t ht=>(hT t ht).2) r n w0 QA s' a' w' R' hq
 | _=>exact ⟨s',hq,R'⟩
theorem zR {mo:Bool} (hm:P.follows .mixedOrders=true):∀ (c:Code),(∀ cc,bK mo P c=some cc→Sound P nt n0 c cc)∧∀ l rest cc ccr,findLabel c l=some rest→bK mo P c=some cc→cc.after l=some ccr→Sound P nt n0 rest ccr:=by
 intro c
 induction c with
 | skip =>
  refine ⟨?_,fun l rest cc ccr h=>by cases h⟩
  intro cc hc _ π0 T a0 _ r n w0 QA s a w R h; cases hc; exact wpIn_skip ⟨s,h,R⟩
 | region id ops jo =>
  refine ⟨?_,fun l rest cc ccr h=>by cases h⟩
  intro cc hc hf π0 T a0 hT r n w0 QA s a w R h
  obtain ⟨h4,β,τ,π,U,hU,R0⟩:=R.1
  simp only [bK] at hc
  split at hc
  ·rename_i hmo
   simp only [Bool.and_eq_true,Bool.not_eq_true'] at hmo
   obtain ⟨_,rfl⟩:=hmo
   simp only [Option.map_eq_some_iff] at hc
   obtain ⟨cos,hcos,rfl⟩:=hc
   refine tG (w0:=w) hcos hf R0.Ji hU h (T:=T) (fun d hd ht=>hT d ht hd) ?_ ?_
   ·intro s' a' w' β' τ' π' U' hU' hK hp R'
    exact ⟨_,hK,R.sub hp ⟨by show 4≤s.nx + _; omega,β',τ',π',U',hU',R'.nx _⟩⟩
   ·intro p s' a' w' β' τ' π' U' hU' hK hp R'
    exact ⟨_,hK,R.sub hp ⟨by show 4≤s.nx + _; omega,β',τ',π',U',hU',R'.nx _⟩⟩
  split at hc<;>try (cases hc; done)
  rename_i cos hcos
  have fin:∀ (ro:List Nat) (s1:S) (π1:Nat→Nat→Prop),Rel P nt n0 w0 π0 U s1 a w β τ π1→s1.nx=s.nx→(jo=true→∃ er T,lC er ops.toList cos=true∧pQ T (jR ro 0 cos) er=true∧iB T s1.nx 0 (jR ro 0 cos)=true∧kq T s1)→fu nt cos=true→(∀ t,T t→¬ t∈dstsOf cos) →
    fq (Pure P) s1.nx 0 (jR ro 0 cos) (fun s'=>QA .normal { s' with nx:=s.nx + cos.length }) s1→(Code.region id ops jo).wpIn (FW r) n P (qo P nt n0 w0 π0 r T a0 QA) a w:=by
   intro ro s1 π1 R1 hnx hd hf hT h
   refine uV (w0:=w) hm hcos ro hd hf R1.Ji (by rw [hnx]; exact hU) h (T:=T) (fun d hd ht=>hT d ht hd) ?_
   intro s' a' w' β' τ' π' U' hU' hK hp R'
   rw [hnx] at hU'
   exact ⟨_,hK,R.sub hp ⟨by show 4≤s.nx + _; omega,β',τ',π',U',hU',R'.nx _⟩⟩
  split at hc
  ·split at hc
   ·split at hc<;>try (cases hc; done)
    rename_i hok
    cases hc
    exact fin [] s π R0 rfl (fun _=>⟨[],[],hok,rfl,pY,fun _ _ _ _=>rfl⟩) hf hT (by rw [nS]; exact h)
   ·split at hc<;>try (cases hc; done)
    rename_i hok
    cases hc
    rw [Bool.and_eq_true] at hok
    obtain ⟨ids,hids,h⟩:=h
    obtain ⟨css,hcss,ro,hdyn,h⟩:=af h
    rw [Bool.and_eq_true] at hids
    obtain ⟨π1,_,R1,_⟩:=R0.qz (d6 hids.1) hids.2 hcss
    simp only [yu,Jc,Bool.and_eq_true] at hdyn
    exact fin ro _ π1 R1 uM (fun _=>⟨_,_,hok.1,hdyn.2,hdyn.1.2,fun t b off hl=>oe hdyn.1.1 t b off hl⟩) hf hT h
  ·rename_i hdr
   cases hc
   exact fin [] s π R0 rfl (fun e=>absurd e hdr) hf hT (by rw [nS]; exact h)
 | seq x y ihx ihy =>
  refine ⟨?_,?_⟩
  ·intro cc hc
   simp only [bK] at hc
   split at hc<;>try (cases hc; done)
   rename_i cx cy hcx hcy
   cases hc
   split
   ·exact zQ (ihx.1 cx hcx) (ihy.1 cy hcy)
   ·exact rI (ihx.1 cx hcx) (ihy.1 cy hcy)
  ·intro l rest cc ccr hf hc ha
   simp only [bK] at hc
   split at hc<;>try (cases hc; done)
   rename_i cx cy hcx hcy
   cases hc
   have ha':(match cx.after l with | some r=>some (aK.join r cy) | none=>cy.after l)=some ccr:=by
    split at ha<;>exact ha
   have hs:=rH x cx hcx l
   simp only [findLabel] at hf
   split at hf
   ·rename_i rx hrx
    cases hf
    rw [hrx] at hs
    cases hax:cx.after l with
    | none=>rw [hax] at hs; cases hs
    | some cr =>
     rw [hax] at ha'
     cases ha'
     exact rI (ihx.2 l rx cx cr hrx hcx hax) (ihy.1 cy hcy)
   ·rename_i hrx
    rw [hrx] at hs
    cases hax:cx.after l with
    | some cr=>rw [hax] at hs; cases hs
    | none =>
     rw [hax] at ha'
     exact ihy.2 l rest cy ccr hf hcy ha'
 | cond cd x y ihx ihy =>
  refine ⟨?_,fun l rest cc ccr h=>by cases h⟩
  intro cc hc hf π0 T a0 hT r n w0 QA s a w R h
  simp only [bK] at hc
  split at hc<;>try (cases hc; done)
  rename_i c' cx cy hcc hcx hcy
  cases hc
  simp only [aK.fits,Bool.and_eq_true] at hf
  simp only [aK.writes,List.mem_append,not_or] at hT
  simp only [aw] at h
  obtain ⟨v,hv,h⟩:=af h
  obtain ⟨β,τ,π,U,hU,R0⟩:=R.1.2
  have hd:=R0.ax hcc hv
  cases v<;>try (exact h.elim)
  rename_i t
  exact wpIn_cond_split hd.nY (fun e=>ihx.1 cx hcx hf.1 π0 T a0 (fun t ht=>(hT t ht).1) r n w0 QA s a w R (h.1 e)) (fun e=>ihy.1 cy hcy hf.2 π0 T a0 (fun t ht=>(hT t ht).2) r n w0 QA s a w R (h.2 e))
 | block id c ih =>
  refine ⟨?_,fun l rest cc ccr h=>by cases h⟩
  intro cc hc hf π0 T a0 hT r n w0 QA s a w R h
  simp only [bK,Option.map_eq_some_iff] at hc
  obtain ⟨c',hc',rfl⟩:=hc
  refine wpIn_block (wpIn_mono (ih.1 c' hc' hf π0 T a0 hT r n w0 _ s a w R h) ?_)
  rintro e a' w' ⟨s',hq,R'⟩
  cases e with
  | exit id' =>
   simp only [dF] at hq
   simp only [Exit.inBlock]
   by_cases hid:id'=id
   ·rw [if_pos hid] at hq ⊢; exact ⟨s',hq,R'⟩
   ·rw [if_neg hid] at hq ⊢; exact ⟨s',hq,R'⟩
  | _=>exact ⟨s',hq,R'⟩
 | loop c ih =>
  refine ⟨?_,fun l rest cc ccr h=>by cases h⟩
  intro cc hc hf π0 T a0 hT r n w0 QA s a w R h
  simp only [bK,Option.map_eq_some_iff] at hc
  obtain ⟨c',hc',rfl⟩:=hc
  obtain ⟨s0,⟨m,hn⟩,R0⟩:=R.down h
  refine wpIn_loop_rounds m ?_
  have key:∀ (m:Nat) (s:S) (a:Act) (w:World),nr P nt n0 w0 π0 r T a0 s a w→jl (aw (Pure P) c') QA m s→Code.roundsIn (FW r) n P c (qo P nt n0 w0 π0 r T a0 QA) m a w:=by
   intro m
   induction m with
   | zero=>intro s a w _ h; exact h.elim
   | succ m ihn =>
    intro s a w R h
    rw [roundsIn_succ]
    refine wpIn_mono (ih.1 c' hc' hf π0 T a0 hT r n w0 _ s a w R h) ?_
    rintro e a' w' ⟨s',hq,R'⟩
    cases e with
    | normal =>
     obtain ⟨s2,hF,R2⟩:=R'.down hq
     exact ihn s2 a' w' R2 hF
    | _=>exact ⟨s',hq,R'⟩
  exact key m s0 a w R0 hn
 | exit id =>
  refine ⟨?_,fun l rest cc ccr h=>by cases h⟩
  intro cc hc _ π0 T a0 _ r n w0 QA s a w R h; cases hc; exact wpIn_exit ⟨s,h,R⟩
 | ret =>
  refine ⟨?_,fun l rest cc ccr h=>by cases h⟩
  intro cc hc _ π0 T a0 _ r n w0 QA s a w R h; cases hc; exact wpIn_ret ⟨s,h,R⟩
 | rangeFunc g ps as bd ihA ihB =>
  refine ⟨?_,fun l rest cc ccr h=>by cases h⟩
  intro cc hc hf π0 T a0 hT r n w0 QA s a w R h
  simp only [bK] at hc
  split at hc<;>try (cases hc; done)
  rename_i g' ca cb hg hca hcb
  split at hc<;>try (cases hc; done)
  cases hc
  simp only [aK.fits,Bool.and_eq_true,List.all_eq_true,decide_eq_true_eq] at hf
  obtain ⟨⟨⟨⟨⟨f1,f2⟩,f3⟩,f4⟩,f5⟩,f6⟩:=hf
  exact xJ hg (fun t ht=>⟨f1 t ht,by simpa using f4 t ht⟩) (fun t ht=>by simpa using f5 t ht) (fun t ht=>by simpa using f6 t ht) (ihA.1 ca hca f2) (ihB.1 cb hcb f3) R h
 | label l' =>
  refine ⟨?_,?_⟩
  ·intro cc hc _ π0 T a0 _ r n w0 QA s a w R h; cases hc; exact wpIn_label ⟨s,h,R⟩
  ·intro l rest cc ccr hf hc ha
   cases hc
   simp only [findLabel] at hf
   split at hf<;>try (cases hf; done)
   rename_i he
   cases hf
   simp only [aK.after,he,if_true,Option.some.injEq] at ha
   subst ha
   intro _ π0 T a0 _ r n w0 QA s a w R h
   exact wpIn_skip ⟨s,h,R⟩
 | goto l' =>
  refine ⟨?_,fun l rest cc ccr h=>by cases h⟩
  intro cc hc _ π0 T a0 _ r n w0 QA s a w R h; cases hc; exact wpIn_goto ⟨s,h,R⟩
 | scope c ih =>
  refine ⟨?_,fun l rest cc ccr h=>by cases h⟩
  intro cc hc hf π0 T a0 hT r n w0 QA s a w R h
  simp only [bK] at hc
  split at hc<;>try (cases hc; done)
  rename_i c' hc'
  split at hc<;>try (cases hc; done)
  rename_i l hl
  simp only [Option.map_eq_some_iff] at hc
  obtain ⟨cr,hcr,rfl⟩:=hc
  simp only [aK.fits,Bool.and_eq_true] at hf
  simp only [aK.writes,List.mem_append,not_or] at hT
  have hs:=rH c c' hc' l
  rw [hcr] at hs
  cases hfl:findLabel c l with
  | none=>rw [hfl] at hs; cases hs
  | some rest =>
   refine xK hfl (qo P nt n0 w0 π0 r T a0 (fun _=>aw (Pure P) cr (ql QA)) .normal) (wpIn_mono (ih.1 c' hc' hf.1 π0 T a0 (fun t ht=>(hT t ht).1) r n w0 _ s a w R h) ?_) ?_
   ·rintro e a' w' ⟨s',hq,R'⟩
    cases e with
    | goto l'=>exact ⟨hq.1,s',hq.2,R'⟩
    | _=>exact ⟨s',hq,R'⟩
   ·rintro a' w' ⟨s',hq,R'⟩
    refine wpIn_mono (ih.2 l rest c' cr hfl hc' hcr hf.2 π0 T a0 (fun t ht=>(hT t ht).2) r n w0 _ s' a' w' R' hq) ?_
    rintro e a2 w2 ⟨s2,hq2,R2⟩
    cases e with
    | goto l'=>exact hq2.elim
    | _=>exact ⟨s2,hq2,R2⟩
 | _=>exact ⟨fun cc hc=>(by cases hc),fun l rest cc ccr h=>(by cases h)⟩
theorem wH {mo:Bool} (hm:P.follows .mixedOrders=true):∀ (c:Code) (cc:aK),bK mo P c=some cc→cc.fits nt=true→∀ (π0:Nat→Nat→Prop) (T:Nat→Prop) (a0:Act),(∀ t,T t→¬ t∈cc.writes)→∀ (r:Option Nat) (n:Nat) (w0:World) (QA:Exit→S→Prop) (s:S) (a:Act) (w:World),
  nr P nt n0 w0 π0 r T a0 s a w→aw (Pure P) cc QA s→c.wpIn (FW r) n P (qo P nt n0 w0 π0 r T a0 QA) a w:=fun c cc hc=>(zR hm c).1 cc hc
end
end Go.Eng
