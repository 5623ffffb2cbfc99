/- The engine and the library,part 12 of 18: what the proofs of this seat need of them. -/
import Derived.Test.YtkckiembbiiliaaGreatPk11
set_option linter.unnecessarySimpa false
set_option linter.unusedSimpArgs false
set_option linter.unusedVariables false
set_option linter.defProp false
set_option maxRecDepth 10000
set_option maxHeartbeats 4000000
namespace Go.Eng
open Go
open Go.RowKit (Below)
def isRec(o:Oper):Option Nat:=
 match o.op,o.dst,o.guard with
 | .call ⟨.builtin .recover,as,_⟩,some d,none=>if as.isEmpty then some d else none
 |_,_,_=>none
def fX:aX->Bool
 | .skip| .zf _| .aF _| .uC _ _| .vW _ _ _ _=>true
 | .seq a b| .join a b| .cond _ a b=>fX a&&fX b
 |_=>false
structure FZ where
 nt:Nat
 d:Nat
 ops:List XO
 code:aX
def F0(P:Program) (f:FuncId):Option FZ:=
 match P.funcs[f]? with
 |some fn=>match fn.body with
  |some (.seq (.region _ ops false) rest)=>match ops.toList with
   |o::os=>match isRec o,pQ P ops os,bE true P rest with
    |some d,some xs,some cc=>if l6 fn.ntmps xs&&decide (d<fn.ntmps)&&cc.fits fn.ntmps&&fX cc&&bQ P f&&fn.results.isEmpty then some ⟨fn.ntmps,d,xs,cc⟩else none
    |_,_,_=>none
   |[]=>none
  |_=>none
 |none=>none
def F1(css:List (List AV)):Exit->S->Prop
 | .normal,s| .ret,s=>fJ s.boxes 0 css
 |_,_=>False
theorem L3(css:List (List AV)) (s:S):F1 css .normal s=fJ s.boxes 0 css:=rfl
theorem L4(css:List (List AV)) (s:S):F1 css .ret s=fJ s.boxes 0 css:=rfl
def L5(rv:AV):Bool:=match rv with
 | .eH=>true
 |p=>i4 p
def QU(rv:AV):Value:=match rv with
 | .eH=>.nilIface
 |p=>M1 p
section
variable{P:Program} {nt:Nat} {n0:gp} {π0:Nat->Nat->Prop}
theorem PX{w:World} {π:Nat->Nat->Prop} {rv:AV} (h:L5 rv=true):DV w π rv (QU rv):=by
 cases rv<;>try(simp[L5,i4]at h;done)
 ·rename_i t a
  exact .iface t a _ (.flat h)
 ·exact .eH
theorem L6{mo:Bool} {x y:Code} {cc:aX} (hc:bE mo P (.seq x y)=some cc):∃cx cy,bE mo P x=some cx/\bE mo P y=some cy/\(cc=.seq cx cy\/cc=.join cx cy):=by
 simp only[bE]at hc
 split at hc<;>try(cases hc;done)
 rename_i cx cy hcx hcy;cases hc;refine⟨cx,cy,hcx,hcy,?_⟩;split
 ·exact .inl rfl
 ·exact .inr rfl
theorem vN{mo:Bool} (hm:P.follows .mixedOrders=true):∀(c:Code) (cc:aX),bE mo P c=some cc->fX cc=true->cc.fits nt=true->∀(n:Nat) (w0:World) (QA:Exit->S->Prop) (s:S) (a:Act) (w:World),
  cN P nt n0 w0 π0 s a w->aw (Pure P) cc QA s->c.wpIn (FW none) n P (fun e a' w'=>∃s',QA e s'/\cN P nt n0 w0 π0 s' a' w'/\a'.defers=a.defers) a w:=by
 intro c
 induction c with
 |skip=>intro cc hc _ _ n w0 QA s a w R h;cases hc;exact wpIn_skip ⟨s,h,R,rfl⟩
 |region id ops kB=>
  intro cc hc hpl hf n w0 QA s a w R h;obtain⟨h4,β,τ,π,U,hU,R0⟩:=R
  have put:∀{s':S} {a':Act} {w':World},cN P nt n0 w π0 s' a' w'->cN P nt n0 w0 π0 s' a' w':=fun RN=>
   RN.MG (R0.below.trans RN.below) R0.eA (fun b o h=>(RN.kept b o h).trans (R0.kept b o h))
  simp only[bE]at hc;split at hc
  ·rename_i hmo
   simp only[Bool.and_eq_true,Bool.not_eq_true']at hmo;obtain⟨_,rfl⟩:=hmo;simp only[Option.map_eq_some_iff]at hc;obtain⟨cos,hcos,rfl⟩:=hc
   refine rU (w0:=w) hcos hf R0.Ka hU h (T:=fun _=>False) (fun d hd ht=>ht) ?_ ?_
   ·intro s' a' w' β' τ' π' U' hU' hK hp R'
    exact⟨_,hK,put ⟨by show 4<=s.nx+_;omega,β',τ',π',U',hU',R'.nx _⟩,hp.1⟩
   ·intro p s' a' w' β' τ' π' U' hU' hK hp R'
    exact⟨_,hK,put ⟨by show 4<=s.nx+_;omega,β',τ',π',U',hU',R'.nx _⟩,hp.1⟩
  split at hc<;>try(cases hc;done)
  rename_i cos hcos
  have fin:∀(ro:List Nat) (s1:S) (π1:Nat->Nat->Prop),Rel P nt n0 w0 π0 U s1 a w β τ π1->s1.nx=s.nx->(kB=true->∃dr T,jm dr ops.toList cos=true/\tG T (mI ro 0 cos) dr=true/\kq T s1.nx 0 (mI ro 0 cos)=true/\nr T s1)->fq nt cos=true->
    iT (Pure P) s1.nx 0 (mI ro 0 cos) (fun s'=>QA .normal {s' with nx:=s.nx+cos.length}) s1->(Code.region id ops kB).wpIn (FW none) n P (fun e a' w'=>∃s',QA e s'/\cN P nt n0 w0 π0 s' a' w'/\a'.defers=a.defers) a w:=by
   intro ro s1 π1 R1 hnx hd hf h
   refine tQ (w0:=w) hm hcos ro hd hf R1.Ka (by rw[hnx];exact hU) h (T:=fun _=>False) (fun d hd ht=>ht) ?_
   intro s' a' w' β' τ' π' U' hU' hK hp R';rw[hnx]at hU'
   exact⟨_,hK,put ⟨by show 4<=s.nx+_;omega,β',τ',π',U',hU',R'.nx _⟩,hp.1⟩
  split at hc
  ·rename_i hdr
   subst hdr
   have zf:∀dr,jm dr ops.toList cos=true->fq nt cos=true->(∃ids,(cz ids&&iS ids)=true/\ah (aT s.boxes ids) fun css=>E7 (Pure P) cos dr (fun s'=>QA .normal {s' with nx:=s.nx+cos.length}) (gO ids css s))->(Code.region id ops true).wpIn (FW none) n P (fun e a' w'=>∃s',QA e s'/\cN P nt n0 w0 π0 s' a' w'/\a'.defers=a.defers) a w:=by
    intro dr hok hf h;obtain⟨ids,hids,h⟩:=h;obtain⟨css,hcss,ro,hdyn,h⟩:=af h;rw[Bool.and_eq_true]at hids
    obtain⟨π1,_,R1,_⟩:=R0.qX (dw hids.1) hids.2 hcss
    simp only[pM,JI,Bool.and_eq_true]at hdyn
    exact fin ro _ π1 R1 qR (fun _=>⟨_,_,hok,hdyn.2,hdyn.1.2,fun t b ⟨v,hl,hb⟩=>lJ hdyn.1.1 t b v hl hb⟩) hf h
   split at hc
   ·split at hc<;>try(cases hc;done)
    rename_i hok;unfold Ar at hc
    split at hc<;>try(cases hc;done)
    rename_i k _
    split at hc<;>try(cases hc;done)
    rename_i d hd;simp only at hc
    split at hc<;>try(cases hc;done)
    rename_i hk;cases hc;simp only[Bool.and_eq_true,decide_eq_true_eq]at hk;obtain⟨⟨⟨h1,h2⟩,h3⟩,h5⟩:=hk
    rcases h with h|h
    ·exact zf _ hok hf h
    ·refine rW (w0:=w) hm hcos h1 h2 h3 (by simpa using h5) hf R0.Ka hU h (T:=fun _=>False) (fun d hd ht=>ht) ?_
     intro p s' a' w' β' τ' π' U' hU' hK hp R'
     exact⟨_,hK,put ⟨by show 4<=s.nx+_;omega,β',τ',π',U',hU',R'.nx _⟩,hp.1⟩
   ·split at hc
    ·split at hc<;>try(cases hc;done)
     rename_i hok;cases hc
     exact fin [] s π R0 rfl (fun _=>⟨[],[],hok,rfl,pZ,fun _ _ _=>rfl⟩) hf (by rw[oo];exact h)
    ·split at hc<;>try(cases hc;done)
     rename_i hok;cases hc;rw[Bool.and_eq_true]at hok;exact zf _ hok.1 hf h
  ·rename_i hdr
   cases hc
   exact fin [] s π R0 rfl (fun e=>absurd e hdr) hf (by rw[oo];exact h)
 |seq x y ihx ihy=>
  intro cc hc hpl hf n w0 QA s a w R h;obtain⟨cx,cy,hcx,hcy,hor⟩:=L6 hc
  have key:fX cx=true->fX cy=true->cx.fits nt=true->cy.fits nt=true->aw (Pure P) cx (jE (down (aw (Pure P) cy QA)) QA) s->(Code.seq x y).wpIn (FW none) n P (fun e a' w'=>∃s',QA e s'/\cN P nt n0 w0 π0 s' a' w'/\a'.defers=a.defers) a w:=by
   intro p1 p2 f1 f2 h;refine wpIn_seq (wpIn_mono (ihx cx hcx p1 f1 n w0 _ s a w R h) ?_)
   rintro e a' w' ⟨s',hq,R',hd⟩
   cases e with
   |normal=>
    obtain⟨s2,hF,R2⟩:=R'.down hq;refine wpIn_mono (ihy cy hcy p2 f2 n w0 QA s2 a' w' R2 hF) ?_
    rintro e a2 w2 ⟨s3,h3,R3,hd3⟩
    exact⟨s3,h3,R3,hd3.trans hd⟩
   |_=>exact⟨s',hq,R',hd⟩
  rcases hor with rfl|rfl
  ·simp only[fX,Bool.and_eq_true]at hpl
   simp only[aX.fits,Bool.and_eq_true]at hf
   exact key hpl.1 hpl.2 hf.1 hf.2 (gL (fun e s ha=>gX (fun s h=>iJ h) (fun _ _ h=>h) ha) h)
  ·simp only[fX,Bool.and_eq_true]at hpl
   simp only[aX.fits,Bool.and_eq_true]at hf;exact key hpl.1 hpl.2 hf.1 hf.2 h
 |cond cd x y ihx ihy=>
  intro cc hc hpl hf n w0 QA s a w R h;simp only[bE]at hc
  split at hc<;>try(cases hc;done)
  rename_i c' cx cy hcc hcx hcy;cases hc;simp only[fX,Bool.and_eq_true]at hpl;simp only[aX.fits,Bool.and_eq_true]at hf;simp only[aw]at h;obtain⟨v,hv,h⟩:=af h;obtain⟨_,β,τ,π,U,hU,R0⟩:=id R
  have hd:=R0.aM hcc hv
  cases v<;>try(exact h.elim)
  rename_i t
  exact wpIn_cond_split hd.pR (fun e=>ihx cx hcx hpl.1 hf.1 n w0 QA s a w R (h.1 e)) (fun e=>ihy cy hcy hpl.2 hf.2 n w0 QA s a w R (h.2 e))
 |block id c ih=>intro cc hc hpl;simp only[bE,Option.map_eq_some_iff]at hc;obtain⟨c',hc',rfl⟩:=hc;simp[fX]at hpl
 |loop c ih=>intro cc hc hpl;simp only[bE,Option.map_eq_some_iff]at hc;obtain⟨c',hc',rfl⟩:=hc;simp[fX]at hpl
 |exit id=>intro cc hc hpl;cases hc;simp[fX]at hpl
 |ret=>intro cc hc hpl;cases hc;simp[fX]at hpl
 |label l=>intro cc hc hpl;cases hc;simp[fX]at hpl
 |goto l=>intro cc hc hpl;cases hc;simp[fX]at hpl
 |scope c ih=>
  intro cc hc hpl;simp only[bE]at hc
  split at hc<;>try(cases hc;done)
  split at hc<;>try(cases hc;done)
  simp only[Option.map_eq_some_iff]at hc;obtain⟨r,_,rfl⟩:=hc;simp[fX]at hpl
 |rangeFunc g ps as bd ihA ihB=>
  intro cc hc hpl;simp only[bE]at hc
  split at hc<;>try(cases hc;done)
  split at hc<;>try(cases hc;done)
  cases hc;simp[fX]at hpl
 |_=>intro cc hc;cases hc
theorem uU{F:Fence} {n id:Nat} {ops:Array Oper} {o:Oper} {d:Nat} {Q:Exit->Act->List Frame->World->Prop} {a:Act} {cs cs':List Frame} {w:World} {v:Value} (hF:∀f,F.fn f) (hro0:F.round=none)
  (h0:ops[0]? =some o) (hrec:isRec o=some d) (hv:recoverD cs=some (v,cs')\/(recoverD cs=none/\v=.nilIface/\cs'=cs))
  (h:wpOpsIn F n P ops (fun e a' w'=>Q e a' cs' w') (List.range' 1 (ops.size-1)) (a.put (some d) v) w):(Code.region id ops false).wpSIn F n P Q a cs w:=by
 intro b k hb hr hFb hroom;unfold isRec at hrec
 split at hrec<;>try(cases hrec;done)
 rename_i as tys d' hop hdst hguard
 split at hrec<;>try(cases hrec;done)
 rename_i has;cases hrec
 have has:as=#[]:=by simpa[Array.isEmpty_iff]using has
 subst has
 have hw:Region.wanted o (yielded ops a.tmps)=true:=by simp[Region.wanted,hguard]
 have hrun:(execOp a.eval o).run P w=.ok .recover w:=by
  simp[execOp,hop,resolve,invoke,go_sem]
 have hsz:0<ops.size:=(Array.getElem?_eq_some_iff.1 h0).1
 have hrange:List.range ops.size=0::List.range' 1 (ops.size-1):=by
  obtain⟨m,hm⟩:∃m,ops.size=m+1:=⟨ops.size-1,by omega⟩
  rw[hm,List.range_eq_range',List.range'_succ,Nat.add_sub_cancel]
 have hlen:cs'.length=cs.length:=by
  rcases hv with hv|⟨_,_,rfl⟩
  ·exact recoverD_length hv
  ·rfl
 obtain⟨e,a',w',hq,harr⟩:=wp_opsIn (P:=P) (F:=F) (n:=n) (ops:=ops) (List.range' 1 (ops.size-1)) _ w h b k cs' (hr.trans hro0.symm) hFb (hlen▸hroom)
 have h1:(lone (b.atR a (.inRegion ops (0::List.range' 1 (ops.size-1))::k)) cs w).fenced P F:=fenced_oper hFb hroom h0 (fun f _=>hF f)
 have hg:=stepGR_op (P:=P) (b:=b) (k:=k) (cs:=cs) (w:=w) (rest:=List.range' 1 (ops.size-1)) h0 hw
 rw[hr,Oper.semAt_none]at hg
 have hfin:∀v,(b.atR a (.inRegion ops (0::List.range' 1 (ops.size-1))::k)).finish v=b.atR (a.put (some d) v) (.inRegion ops (List.range' 1 (ops.size-1))::k):=by
  intro v;rw[Frame.finish_atR,h0];simp only[Option.bind_some,hdst]
 have hk:(b.atR a (.inRegion ops (0::List.range' 1 (ops.size-1))::k)).kind=.deferred:=hb
 have htr:=tryRecover_deferred hk cs
 have hstep:StepsIn (Machine.fenced P F) P (lone (b.atR a (.inRegion ops (0::List.range' 1 (ops.size-1))::k)) cs w) (lone (b.atR (a.put (some d) v) (.inRegion ops (List.range' 1 (ops.size-1))::k)) cs' w):=by
  refine .one h1 (step_lone_go ?_);rw[hg,<-hfin];simp only[Frame.atR,hr]at htr⊢
  rcases hv with hv|⟨hv,rfl,rfl⟩
  ·simp[stepG.apply,hrun,htr,hv]
  ·simp[stepG.apply,hrun,htr,hv]
 rw[<-hrange]at hstep;exact⟨e,a',cs',w',hlen,hq,.of_steps (.head (fenced_calm hFb hroom rfl) stepR_region hstep) harr⟩
theorem F2{f:FuncId} {cf:FZ} (hcf:F0 P f=some cf):∃(fn:Func) (id:Nat) (ops:Array Oper) (rest:Code) (o:Oper) (os:List Oper),P.funcs[f]? =some fn/\fn.body=some (.seq (.region id ops false) rest)/\ops.toList=o::os/\isRec o=some cf.d/\pQ P ops os=some cf.ops/\
  bE true P rest=some cf.code/\l6 fn.ntmps cf.ops=true/\cf.d<fn.ntmps/\cf.code.fits fn.ntmps=true/\fX cf.code=true/\bQ P f=true/\fn.results=#[]/\cf.nt=fn.ntmps:=by
 unfold F0 at hcf
 split at hcf<;>try(cases hcf;done)
 rename_i fn hfn
 split at hcf<;>try(cases hcf;done)
 rename_i id ops rest hbody
 split at hcf<;>try(cases hcf;done)
 rename_i o os hops
 split at hcf<;>try(cases hcf;done)
 rename_i d xs cc h1 h2 h3
 split at hcf<;>try(cases hcf;done)
 rename_i hok;cases hcf;simp only[Bool.and_eq_true,decide_eq_true_eq]at hok;obtain⟨⟨⟨⟨⟨k1,k2⟩,k3⟩,k4⟩,k5⟩,k6⟩:=hok
 exact⟨fn,id,ops,rest,o,os,hfn,hbody,hops,h1,h2,h3,k1,k2,k3,k4,k5,by simpa[Array.isEmpty_iff]using k6,rfl⟩
theorem nY(hm:P.follows .mixedOrders=true) {f:FuncId} {cf:FZ} (hcf:F0 P f=some cf) {rv:AV} {css css':List (List AV)} {args:List (Option AV)} (hrv:L5 rv=true) (hn:args.length<=cf.nt) (hl:css'.length=css.length) (h4:css.length<=4)
  (h:dZ (Pure P) 4 1 cf.ops (y5 (aw (Pure P) cf.code (F1 css')) (5+cf.ops.length)) (fun _ _=>False) ((nP css args).put (some cf.d) (.dat rv none))):GJ P f rv css args css':=by
 obtain⟨fn,ri,ops,rest,o,os,hfn,hbody,hops,hrec,hxs,hcc,hfit,hd,hfits,hpl,hcall,hres,hnt⟩:=F2 hcf;rw[hnt]at hn
 refine⟨hcall,hl,h4,fun w π Bs vs hprot hnd hbx harg=>?_⟩
 have hbl:=hbx.get.1
 obtain⟨hxl,hxs⟩:=qc hxs
 have hosz:ops.size=os.length+1:=by rw[<-Array.length_toList,hops];rfl
 have h0:ops[0]? =some o:=by rw[<-Array.getElem?_toList,hops];rfl
 refine callsDIn_of_wpSIn hfn hbody trivial fun c₀ cs hmode=>?_
 -- what is recovered
 obtain⟨u',hv,hset⟩:∃u',(recoverD (c₀::cs)=some (QU rv,{c₀ with mode:=u'}::cs)\/(recoverD (c₀::cs)=none/\QU rv=.nilIface/\{c₀ with mode:=u'}::cs=c₀::cs))/\settle u'=.returning:=by
  cases rv<;>try(simp[L5,i4]at hrv;done)
  ·rename_i t a
   refine⟨.panicking [{v:=M1 (.iface t a),recovered:=true}],.inl ?_,rfl⟩
   simp only[xg,dz]at hmode;simp[recoverD,hmode,QU]
  ·refine⟨.returning,.inr ⟨?_,rfl,?_⟩,rfl⟩
   ·simp only[xg]at hmode;simp[recoverD,hmode]
   ·simp only[xg]at hmode
    have:({c₀ with mode:=.returning}:Frame)=c₀:=by rw[<-hmode]
    rw[this]
 refine wpSIn_seq ?_
 refine uU (fun _=>trivial) rfl h0 hrec hv ?_
 obtain⟨_,β,τ,π',U,hU,R⟩:=yb (P:=P) (nt:=fn.ntmps) hn h4 hprot hnd hbx harg
 have R1:=R.put (some cf.d) (v:=.dat rv none) (x:=QU rv) (fun t ht=>by cases ht;exact hd) ⟨PX hrv,fun t ht=>by cases ht⟩ trivial
 have hpos:(os.length+1)-1=cf.ops.length:=by omega
 have post:∀(s:S) (a':Act) (w':World),F1 css' .ret s->cN P fn.ntmps (gp.gF w Bs) w π s a' w'->a'.defers=[]->
   bodyPostS P fn c₀ cs (fun e u' w'=>∃v π',e=.returned v/\settle u'=.returning/\rK (gp.gF w Bs) w w'/\(∀b o,π b o->π' b o)/\(∀b o,π' b o->π b o\/w.heap.size<=b)/\(∀b o,π' b o->b<w'.heap.size)/\cg w' π' css' Bs) .ret a' ({c₀ with mode:=u'}::cs) w':=by
  rintro s a' w' hho ⟨_,β,τ,π',U,hU,R'⟩ hdf
  have hB:=R'.BX hbl h4 hl hho
  refine⟨hdf,u',rfl,.tuple #[],?_,.tuple #[],π',rfl,hset,R'.below,R'.dL,fun b o h=>(R'.cj b o h).imp id (fun k=>k.elim id (fun k=>absurd h (ke hB b k o))),R'.dJ,hB⟩
  rw[oB,hres];simp
 have hcosl:((⟨some cf.d,.o (.mv (.k .eH)),none⟩:XO)::cf.ops).length=ops.size:=by simp[hosz];omega
 rw[hosz,hpos]
 have:=qd (P:=P) (r:=none) (m:=0) (base:=4) (T:=fun _=>False) (a0:={tmps:=vs.toArray++Array.replicate (fn.ntmps-vs.toArray.size) undef,defers:=[]}) 1 hcosl
  (fun i o' c hi h1 h2=>?_) (fun i c d hi hdd=>?_) (fun _ _ _ _ _ h=>h) (K:=y5 (aw (Pure P) cf.code (F1 css')) (5+cf.ops.length)) (X:=fun _ _=>False)
  (Q:=fun e a' w'=>Exit.thenS (rest.wpSIn Fence.wide 0 P (bodyPostS P fn c₀ cs (fun e u' w'=>∃v π',e=.returned v/\settle u'=.returning/\rK (gp.gF w Bs) w w'/\(∀b o,π b o->π' b o)/\(∀b o,π' b o->π b o\/w.heap.size<=b)/\(∀b o,π' b o->b<w'.heap.size)/\cg w' π' css' Bs)))
    (bodyPostS P fn c₀ cs (fun e u' w'=>∃v π',e=.returned v/\settle u'=.returning/\rK (gp.gF w Bs) w w'/\(∀b o,π b o->π' b o)/\(∀b o,π' b o->π b o\/w.heap.size<=b)/\(∀b o,π' b o->b<w'.heap.size)/\cg w' π' css' Bs)) e a' ({c₀ with mode:=u'}::cs) w')
  (fun s' a' w' β' τ' π' U' hU' hK hp R'=>?_) (fun _ _ _ _ _ _ _ _ _ h=>h.elim) cf.ops 1 _ (({tmps:=vs.toArray++Array.replicate (fn.ntmps-vs.toArray.size) undef,defers:=[]}:Act).put (some cf.d) (QU rv)) w β τ π' U (Nat.le_refl _) rfl (by omega) (fun n hn=>by have:=hU n hn;simp only[nP]at this;omega)
  (by exact(nN.refl _ _).put (fun _ _ h=>h) _) R1 h
 ·exact this
 ·cases i with
  |zero=>omega
  |succ i=>
   refine hxs i o' c ?_ (by simpa using h2)
   rw[<-Array.getElem?_toList,hops]at h1
   simpa using h1
 ·cases i with
  |zero=>simp at hi;subst hi;cases hdd;exact hd
  |succ i=>exact nu hfit i c d (by simpa using hi) hdd
 ·refine wpSIn_of_wpIn rfl ?_
  have RN:cN P fn.ntmps (gp.gF w Bs) w π {s' with nx:=5+cf.ops.length} a' w':=⟨by show 4<=5+_;omega,β',τ',π',U',fun n hn=>by have:=hU' n hn;show n<5+_;omega,R'.nx _⟩
  refine wpIn_mono (mU (vN hm rest cf.code hcc hpl hfits 0 w (F1 css') _ a' w' RN hK)) ?_
  rintro e a2 w2 ⟨s2,hq,R2,hd2⟩
  have hd2:a2.defers=[]:=hd2.trans hp.1
  cases e with
  |normal=>exact post s2 a2 w2 hq R2 hd2
  |ret=>exact post s2 a2 w2 hq R2 hd2
  |_=>exact hq.elim
end
open Go.RowKit (Below)
def Io:List Oper->Option (Nat×Array Operand×Nat)
 |[m,d]=>match m.op,m.dst,m.guard,d.op,d.dst,d.guard with
  | .makeFunc (.func g) first caps,some t,none,.defer ⟨.value (.tmp t'),as,_⟩,none,none=>if first.isEmpty&&as.isEmpty&&t==t' then some (g,caps,t)else none
  |_,_,_,_,_,_=>none
 |_=>none
structure yc where
 nt:Nat
 res:List eZ
 pre:aX
 g:Nat
 caps:List bl
 t:Nat
 code:aX
def F3(P:Program) (f:FuncId):Option yc:=
 match P.funcs[f]? with
 |some fn=>match fn.body with
  |some (.seq a (.seq (.region _ ops false) rest))=>match Io ops.toList with
   |some (g,caps,t)=>match bE true P a,eV caps,bE true P rest,fn.results.toList.mapM (yZ P)with
    |some ca,some xs,some cc,some rs=>if ca.fits fn.ntmps&&fX ca&&decide (t<fn.ntmps)&&cc.fits fn.ntmps&& !cc.writes.contains t&&bQ P f&&bQ P g then some ⟨fn.ntmps,rs,ca,g,xs,t,cc⟩else none
    |_,_,_,_=>none
   |none=>none
  |_=>none
 |none=>none
def DA(C:bt) (res:List eZ) (r:AV) (fr:Option Nat) (css:List (List AV)) (t g:Nat) (as:List (Option AV)) (bs:List Nat) (rv:AV) (s:S):Prop:=
 lk t s.slots=some (.mM g as bs)/\cz bs=true/\ah (aT s.boxes bs) fun cs=>∃cs',C.d g rv cs as cs'/\AG res r fr css .ret {s with boxes:=cH bs cs' s.boxes}
def DB(C:bt) (res:List eZ) (r:AV) (fr:Option Nat) (css:List (List AV)) (t g:Nat) (as:List (Option AV)) (bs:List Nat):Exit->S->Prop
 | .normal,s| .ret,s=>DA C res r fr css t g as bs .eH s
 | .panic c,s=>∃p,c=dz p/\i4 p=true/\DA C res r fr css t g as bs p s
 |_,_=>False
theorem PY(C:bt) (res:List eZ) (r:AV) (fr:Option Nat) (css:List (List AV)) (t g:Nat) (as:List (Option AV)) (bs:List Nat) (s:S):DB C res r fr css t g as bs .normal s=DA C res r fr css t g as bs .eH s:=rfl
theorem PZ(C:bt) (res:List eZ) (r:AV) (fr:Option Nat) (css:List (List AV)) (t g:Nat) (as:List (Option AV)) (bs:List Nat) (s:S):DB C res r fr css t g as bs .ret s=DA C res r fr css t g as bs .eH s:=rfl
theorem fZ{C:bt} {res:List eZ} {r:AV} {fr:Option Nat} {css:List (List AV)} {t g:Nat} {as:List (Option AV)} {bs:List Nat} {s:S} {p:AV} (hp:i4 p=true) (h:DA C res r fr css t g as bs p s):DB C res r fr css t g as bs (.panic (dz p)) s:=⟨p,rfl,hp,h⟩
def Vp(C:bt) (cf:yc) (r:AV) (fr:Option Nat) (css:List (List AV)) (s:S):Prop:=
 aw C cf.pre (tH fun s1=>ah (cI false s1 cf.caps) fun p=>aw C cf.code (DB C cf.res r fr css cf.t cf.g p.1 p.2) {(s1.put (some cf.t) (.mM cf.g p.1 p.2))with nx:=s1.nx+2}) s
def dK(C:bt) (res:List eZ) (r:AV) (fr:Option Nat) (css:List (List AV)) (g:Nat) (caps:List bl) (t:Nat) (code:aX):S->Prop:=fun s1=>ah (cI false s1 caps) fun p=>aw C code (DB C res r fr css t g p.1 p.2) {(s1.put (some t) (.mM g p.1 p.2))with nx:=s1.nx+2}
def Vq(C:bt) (res:List eZ) (r:AV) (fr:Option Nat) (css:List (List AV)) (g:Nat) (t:Nat) (code:aX) (s:S) (p:List (Option AV)×List Nat):Prop:=aw C code (DB C res r fr css t g p.1 p.2) {(s.put (some t) (.mM g p.1 p.2))with nx:=s.nx+2}
theorem Ug{C:bt} (nt:Nat) (res:List eZ) (pre:aX) (g:Nat) (caps:List bl) (t:Nat) (code:aX) (r:AV) (fr:Option Nat) (css:List (List AV)) (s:S):Vp C ⟨nt,res,pre,g,caps,t,code⟩ r fr css s=aw C pre (tH (dK C res r fr css g caps t code)) s:=rfl
theorem We{C:bt} (res:List eZ) (r:AV) (fr:Option Nat) (css:List (List AV)) (g:Nat) (caps:List bl) (t:Nat) (code:aX) (sl:List (Nat×SV)) (bx:List (Nat×bO)) (lv:List (Nat×Nat)) (nx:Nat):
  dK C res r fr css g caps t code ⟨sl,bx,lv,nx⟩=ah (cI false ⟨sl,bx,lv,nx⟩ caps) (Vq C res r fr css g t code ⟨sl,bx,lv,nx⟩):=rfl
theorem Uh{C:bt} (res:List eZ) (r:AV) (fr:Option Nat) (css:List (List AV)) (g:Nat) (t:Nat) (code:aX) (sl:List (Nat×SV)) (bx:List (Nat×bO)) (lv:List (Nat×Nat)) (nx:Nat) (as:List (Option AV)) (bs:List Nat):
  Vq C res r fr css g t code ⟨sl,bx,lv,nx⟩ (as,bs)=aw C code (DB C res r fr css t g as bs) ⟨(t,.mM g as bs)::sl,bx,lv,nx+2⟩:=rfl
@[congr] theorem Xg {C:bt} (res:List eZ) (r:AV) (fr:Option Nat) (css:List (List AV)) (g:Nat) (caps:List bl) (t:Nat) (code:aX) (s:S):dK C res r fr css g caps t code s=dK C res r fr css g caps t code s:=rfl
@[congr] theorem WI {C:bt} (res:List eZ) (r:AV) (fr:Option Nat) (css:List (List AV)) (g:Nat) (t:Nat) (code:aX) (s:S) {p p':List (Option AV)×List Nat} (h:p=p'):Vq C res r fr css g t code s p=Vq C res r fr css g t code s p':=by rw[h]
theorem ic{C:bt} {cf:yc} {keep:List Nat} {r:AV} {fr:Option Nat} {css:List (List AV)} {s:S} (h:Vp C {cf with code:=(flat keep 0 cf.code).1} r fr css s):Vp C cf r fr css s:=by
 refine gL ?_ h;intro e s ha
 cases e<;>try exact ha
 obtain⟨p,hp,ha⟩:=af ha
 show ah _ _
 rw[hp]
 exact ay (keep:=keep) (i:=0) ha
theorem L7(nt:Nat) (res:List eZ) (pre:aX) (g:Nat) (caps:List bl) (t:Nat) (code:aX) (keep:List Nat):({(⟨nt,res,pre,g,caps,t,code⟩:yc)with code:=(flat keep 0 (⟨nt,res,pre,g,caps,t,code⟩:yc).code).1}:yc)=⟨nt,res,pre,g,caps,t,(flat keep 0 code).1⟩:=rfl
theorem gM{C:bt} {res:List eZ} {r:AV} {fr:Option Nat} {css:List (List AV)} {t g:Nat} {as:List (Option AV)} {bs:List Nat} {rv:AV} {sl:List (Nat×SV)} {bx:List (Nat×bO)} {lv:List (Nat×Nat)} {nx:Nat} {cs cs':List (List AV)}
  (hd:C.d g rv cs as cs') (hl:lk t sl=some (.mM g as bs)) (hn:cz bs=true) (hc:aT bx bs=some cs) (hf:AG res r fr css .ret ⟨sl,cH bs cs' bx,lv,nx⟩):DA C res r fr css t g as bs rv ⟨sl,bx,lv,nx⟩:=
 ⟨hl,hn,by show ah (aT bx bs) _;rw[hc];exact⟨cs',hd,hf⟩⟩
section
variable{P:Program}
theorem F4{f:FuncId} {cf:yc} (hcf:F3 P f=some cf):∃(fn:Func) (ri:Nat) (ops:Array Oper) (a rest:Code) (caps:Array Operand),P.funcs[f]? =some fn/\fn.body=some (.seq a (.seq (.region ri ops false) rest))/\Io ops.toList=some (cf.g,caps,cf.t)/\
  bE true P a=some cf.pre/\eV caps=some cf.caps/\bE true P rest=some cf.code/\fn.results.toList.mapM (yZ P)=some cf.res/\cf.pre.fits fn.ntmps=true/\fX cf.pre=true/\cf.t<fn.ntmps/\cf.code.fits fn.ntmps=true/\¬cf.t∈cf.code.writes/\bQ P f=true/\bQ P cf.g=true/\cf.nt=fn.ntmps:=by
 unfold F3 at hcf
 split at hcf<;>try(cases hcf;done)
 rename_i fn hfn
 split at hcf<;>try(cases hcf;done)
 rename_i a ri ops rest hbody
 split at hcf<;>try(cases hcf;done)
 rename_i g caps t hdef
 split at hcf<;>try(cases hcf;done)
 rename_i ca xs cc rs h1 h2 h3 h4
 split at hcf<;>try(cases hcf;done)
 rename_i hok;cases hcf;simp only[Bool.and_eq_true,decide_eq_true_eq,Bool.not_eq_true']at hok;obtain⟨⟨⟨⟨⟨⟨k1,k2⟩,k3⟩,k4⟩,k5⟩,k6⟩,k7⟩:=hok
 exact⟨fn,ri,ops,a,rest,caps,hfn,hbody,hdef,h1,h2,h3,h4,k1,k2,k3,k4,by simpa using k5,k6,k7,rfl⟩
theorem ie(hm:P.follows .mixedOrders=true) {f:FuncId} {cf:yc} (hcf:F3 P f=some cf) {css css':List (List AV)} {args:List (Option AV)} {r:AV} {fr:Option Nat} (hn:args.length<=cf.nt) (hl:css'.length=css.length) (h4:css.length<=4)
  (h:Vp (Pure P) cf r fr css' (nP css args)):xd P f css args r fr css':=by
 obtain⟨fn,ri,ops,a,rest,caps,hfn,hbody,hdef,hca,hcaps,hcc,hrs,hfita,hpl,ht,hfit,hwr,hcall,hcg,hnt⟩:=F4 hcf;rw[hnt]at hn
 refine⟨hcall,hl,h4,fun w π Bs vs hprot hnd hbx hd=>?_⟩
 have hbl:=hbx.get.1
 have R:=yb (P:=P) (nt:=fn.ntmps) hn h4 hprot hnd hbx hd
 refine callsIn_wide.1 (callsIn_of_wp_marks (n:=0) (F:=Fence.wide) hfn hbody trivial (wpIn_seq (wpIn_mono (mU (vN hm a cf.pre hca hpl hfita 0 w _ _ _ _ R h)) ?_)))
 rintro e a1 w1 ⟨s1,hq,R1,hdf⟩
 have hdf:a1.defers=[]:=hdf
 cases e<;>try exact hq.elim
 obtain⟨p,hp,h⟩:=af hq;clear hq;obtain⟨hx4,β,τ,π1,U,hU,R1⟩:=R1
 -- the closure is made and deferred
 obtain⟨as,bs⟩:=p
 have hsv:=(R1.cI (by simpa[eV]using hcaps) hp).1
 obtain⟨o0,o1,hops,ho0,hd0,hg0,hty,ho1,hd1,hg1⟩:∃o0 o1,ops=#[o0,o1]/\o0.op=.makeFunc (.func cf.g) #[] caps/\o0.dst=some cf.t/\o0.guard=none/\∃tys,o1.op=.defer ⟨.value (.tmp cf.t),#[],tys⟩/\o1.dst=none/\o1.guard=none:=by
  unfold Io at hdef
  split at hdef<;>try(cases hdef;done)
  rename_i o0 o1 hops
  split at hdef<;>try(cases hdef;done)
  rename_i g' first caps' t t' as' tys m1 m2 m3 m4 m5 m6
  split at hdef<;>try(cases hdef;done)
  rename_i hok;simp only[Bool.and_eq_true,beq_iff_eq]at hok;simp only[Option.some.injEq,Prod.mk.injEq]at hdef;obtain⟨e1,e2,e3⟩:=hdef
  have f1:first=#[]:=by simpa[Array.isEmpty_iff]using hok.1.1
  have f2:as'=#[]:=by simpa[Array.isEmpty_iff]using hok.1.2
  subst e1 e2 f1 f2;rw[<-hok.2,e3]at m4;rw[e3]at m2
  exact⟨o0,o1,Array.toList_inj.1 (by simpa using hops),m1,m2,m3,tys,m4,m5,m6⟩
 subst hops
 obtain⟨us,hus⟩:∃us,us=caps.map a1.eval:=⟨_,rfl⟩
 have hr0:(execOp a1.eval o0).run P w1=.ok (.value (.func (.func cf.g) #[] us)) w1:=by simp[execOp,ho0,Instr.makeFunc,hus]
 have R2:=R1.put (some cf.t) (v:=.mM cf.g as bs) (x:=.func (.func cf.g) #[] us) (fun t' ht'=>by cases ht';exact ht) ⟨us,rfl,by rw[hus];simpa using hsv⟩ (fun b hb=>by
  obtain⟨t',_,v',hl',hv'⟩:=gV hp b hb
  exact SV.xu hv' (R1.slots t' _ hl').2)
 have hread:(a1.put (some cf.t) (.func (.func cf.g) #[] us)).tmps[cf.t]? =some (.func (.func cf.g) #[] us):=by
  simp only[Act.put]
  rw[Array.getElem?_setIfInBounds_self_of_lt (by rw[R1.size];exact ht)]
 obtain⟨d,hdd⟩:∃d:Deferred,d={target:=.fn (.func cf.g) us,args:=#[]}:=⟨_,rfl⟩
 have hr1:(execOp (a1.put (some cf.t) (.func (.func cf.g) #[] us)).eval o1).run P w1=.ok (.defer d) w1:=by
  have:(a1.put (some cf.t) (.func (.func cf.g) #[] us)).eval (.tmp cf.t)=.func (.func cf.g) #[] us:=by simp[Act.eval,hread]
  simp only[execOp,ho1,resolve,this,Deferred.ofValue,hdd];simp
 refine wpIn_seq (wpIn_region ?_)
 have w0:Region.wanted o0 (yielded #[o0,o1] a1.tmps)=true:=by simp[Region.wanted,hg0]
 show wpOpsIn _ _ _ _ _ [0,1] _ _
 rw[wpOpsIn_cons];unfold wpOpIn;simp only[List.getElem?_toArray,List.getElem?_cons_zero,w0,if_true]
 refine⟨fun _ _=>trivial,?_⟩
 rw[show Fence.wide.round=none from rfl,Oper.semAt_none,hr0,Oper.uponIn_value,hd0,wpOpsIn_cons]
 unfold wpOpIn
 have w1':Region.wanted o1 (yielded #[o0,o1] (a1.put (some cf.t) (.func (.func cf.g) #[] us)).tmps)=true:=by simp[Region.wanted,hg1]
 simp only[List.getElem?_toArray,List.getElem?_cons_succ,List.getElem?_cons_zero,w1',if_true]
 refine⟨fun _ _=>trivial,?_⟩
 rw[show Fence.wide.round=none from rfl,Oper.semAt_none,hr1,Oper.uponIn_defer,hd1]
 obtain⟨a2,ha2⟩:∃a2:Act,a2={a1.put (some cf.t) (.func (.func cf.g) #[] us)with defers:=[d]}:=⟨_,rfl⟩
 have ha2':({a1.put (some cf.t) (.func (.func cf.g) #[] us)with defers:=d::(a1.put (some cf.t) (.func (.func cf.g) #[] us)).defers}:Act).put none undef=a2:=by
  rw[ha2];show({a1.put (some cf.t) _ with defers:=d::(a1.put (some cf.t) _).defers}:Act)=_
  have:(a1.put (some cf.t) (.func (.func cf.g) #[] us)).defers=[]:=hdf
  rw[this]
 rw[ha2']
 show rest.wpIn _ _ _ _ a2 w1
 have hread2:a2.tmps[cf.t]? =some (.func (.func cf.g) #[] us):=by rw[ha2];exact hread
 have RN2:cN P fn.ntmps (gp.gF w Bs) w π {(s1.put (some cf.t) (.mM cf.g as bs))with nx:=s1.nx+2} a2 w1:=by
  refine cN.Kb (a:=a1.put (some cf.t) (.func (.func cf.g) #[] us)) ⟨by show 4<=s1.nx+2;omega,β,τ,π1,U,fun n hn=>by have:=hU n hn;show n<s1.nx+2;omega,R2.nx _⟩ (by rw[ha2])
 refine wpIn_mono (mU (nO hm rest cf.code hcc hfit _ (fun t=>t=cf.t) a2 (fun t ht'=>by subst ht';exact hwr) none 0 w _ _ _ _ ⟨RN2,fun l h=>by(cases h),⟨[],by rw[ha2];simp,.nil,by simp⟩,fun _ _=>rfl⟩ h)) ?_
 rintro e a' w' ⟨s,hq,R',_,⟨Ds,hm1,hm2,hm3⟩,hk⟩
 have hk:a'.tmps[cf.t]? =some (.func (.func cf.g) #[] us):=(hk cf.t rfl).trans hread2
 have hm1:a'.defers=Ds.map Gs++[d]:=by rw[hm1,ha2]
 -- the closure runs
 have last:∀(rv:AV) (u:FrameMode),u≠.run->xg rv=u->DA (Pure P) cf.res r fr css' cf.t cf.g as bs rv s->∀w',cN P fn.ntmps (gp.gF w Bs) w π s a' w'->
   LeavesInM Fence.wide 0 P fn a'.tmps (fun e w'=>∃v π',e=.returned v/\rK (gp.gF w Bs) w w'/\(∀b o,π b o->π' b o)/\(∀b o,π' b o->π b o\/w.heap.size<=b)/\
    (∀b o,π' b o->b<w'.heap.size)/\cg w' π' css' Bs/\DV w' π' r v/\∀t,fr=some t->zi P w' π' (fun B=>w.heap.size<=B) t v) [d] u w':=by
  rintro rv u hu hmode ⟨hlk,hnb,hq⟩ w' ⟨hx,β',τ',π',U',hU',R'⟩
  obtain⟨cs,hcs,cs',hD,hfin⟩:=af hq
  have hD:GJ P cf.g rv cs as cs':=hD
  obtain⟨_,hl1,_,hD⟩:=hD;obtain⟨⟨x,hx',us',hxe,hcap⟩,_⟩:=R'.slots cf.t _ hlk;rw[hk]at hx';cases hx';cases hxe
  have hnb':=dw hnb
  refine⟨hu,.inr ⟨fun h=>by simp[Fence.wide]at h,.func cf.g,us,cf.g,us,by rw[hdd],?_,fun _ _=>trivial,?_⟩⟩
  ·rw[hdd];simp[invoke,ej hcg]
  refine CallsDIn.mono (by have:=hD w' π' (bs.map β') us.toList R'.dJ (R'.nodup hnb' hcs) (R'.mT hcs) hcap;rw[hmode]at this;exact this) ?_
  rintro e u' w3 ⟨v,π3,rfl,hset,hbel,hp1,hp2,hp3,hbx3⟩
  obtain⟨τ3,_,R3⟩:=R'.qW (id:=s.nx) (fr:=none) (fun hc=>by have:=hU' _ hc;omega) hnb' hcs hl1 hbel hp1 hp2 hp3 hbx3 DV.eH (fun t ht=>by cases ht)
  show LeavesInM _ _ _ _ _ _ [] (settle u') w3
  rw[hset]
  show LeavesIn _ _ _ _ _ _ [] .returning w3
  obtain⟨⟨av,q⟩,hpq,hav,hfr,hho⟩:=af hfin;simp only at hav hfr hho;subst hav;obtain⟨v',hv',hdv,htq⟩:=sS R3 hrs hpq
  have hB:=R3.BX hbl h4 hl hho
  refine⟨v',hv',v',π3,rfl,R3.below,R3.dL,fun b o h=>(R3.cj b o h).imp id (fun k=>k.elim id (fun k=>absurd h (ke hB b k o))),R3.dJ,hB,hdv,fun t ht=>?_⟩
  subst ht;simp only[C2]at hfr
  cases q with
  |none=>exact hfr.elim
  |some q=>
   rw[htq q rfl];exact R3.xO hbl h4 hl hho hfr
 cases e with
 |normal=>show LeavesInM _ _ _ _ _ _ a'.defers _ _;rw[hm1];exact jd (by simp) (last .eH .returning (by simp) rfl hq) Ds w' hm2 hm3 R' (Nat.le_refl _)
 |ret=>show LeavesInM _ _ _ _ _ _ a'.defers _ _;rw[hm1];exact jd (by simp) (last .eH .returning (by simp) rfl hq) Ds w' hm2 hm3 R' (Nat.le_refl _)
 |panic ch=>
  obtain⟨p,rfl,hra,hq⟩:=hq
  show LeavesInM _ _ _ _ _ _ a'.defers _ _;rw[hm1]
  refine jd (by simp) (last p (.panicking (dz p)) (by simp) ?_ hq) Ds w' hm2 hm3 R' (Nat.le_refl _)
  cases p<;>first|rfl|(simp[i4]at hra;done)
 |_=>exact hq.elim
def aE:=And.intro @Ug (And.intro @We (And.intro @Uh (And.intro @L7 (And.intro @PY (And.intro @PZ (And.intro @PU (And.intro @L3 @L4)))))))
theorem DC{f:FuncId} {args:List AV} {r:AV} {fr:Option Nat} (h:xd P f [] (args.map some) r fr []):BB P f args r fr:=by
 obtain⟨h1,_,_,h⟩:=h
 refine⟨h1,fun w π vs hprot hd=>?_⟩
 refine(h w π [] vs hprot List.nodup_nil trivial (oz hd)).mono ?_
 rintro e w' ⟨v,π',rfl,hb,k1,k2,k3,_,k5,k6⟩
 exact⟨v,π',rfl,hb.below (fun _ h=>by cases h),k1,k2,k3,k5,k6⟩
end
section
open Z
def mZ(g0 g1 g2 g3 g4 g5 g6 g7 g8:Nat):cU:=⟨132,[.tmp 8],.seq (.aF [⟨(some 8),.o (.mv (.k (.bool false))),none⟩]) (.join (.seq (.aF [⟨(some 15),.o (.mv (.t 0)),none⟩,⟨(some 16),.o (.jW (.t 15)),none⟩,⟨(some 17),.o (.bin .gtr (.t 16) (.k (.int .i64 60))),none⟩]) (.cond (.t 17) (.seq (.aF [⟨(some 18),.call g0 [],none⟩,⟨(some 8),.o (.mv (.t 18)),none⟩]) .ret) .skip)) (.seq (.aF [⟨(some 19),.o (.mv (.t 0)),none⟩,⟨(some 20),.call g1 [(.t 19)],none⟩,⟨(some 9),.o (.mv (.t 20)),none⟩]) (.join (.seq (.aF [⟨(some 21),.o (.mv (.t 9)),none⟩,⟨(some 22),.JE false (.t 21),none⟩]) (.cond (.t 22) (.seq (.aF [⟨(some 8),.o (.mv (.k (.bool false))),none⟩]) .ret) .skip)) (.seq (.aF [⟨(some 23),.o (.mv (.t 1)),none⟩,⟨(some 24),.call g2 [(.t 23),(.k (.int .i64 8))],none⟩,⟨(some 10),.o (.mv (.t 24)),none⟩]) (.seq (.aF [⟨(some 25),.o (.mv (.t 9)),none⟩,⟨(some 26),.o (.mv (.t 10)),none⟩,⟨(some 27),.o (.mv (.t 2)),none⟩,⟨(some 28),.o (.mv (.t 3)),none⟩,⟨(some 29),.aK g3 [(.t 25),(.t 26),(.t 27),(.t 28)],none⟩,⟨(some 11),.o (.mv (.t 29)),none⟩]) (.seq (.aF [⟨(some 30),.o (.mv (.t 9)),none⟩,⟨(some 31),.aK g4 [(.t 30)],none⟩,⟨(some 12),.o (.alloc [(.int .i64 0),(.int .i64 0)]),none⟩,⟨none,.o (.st (.t 12) (.t 31) 2),none⟩]) (.join (.seq (.aF [⟨(some 32),.o (.fa (.t 12) 0),none⟩,⟨(some 33),.o (.ld (.t 32) none),none⟩,⟨(some 34),.o (.bin .eql (.t 33) (.k (.int .i64 0))),none⟩]) (.cond (.t 34) (.seq (.aF [⟨(some 35),.o (.mv (.t 11)),none⟩,⟨(some 36),.o (.mv (.t 2)),none⟩,⟨(some 37),.o (.bin .geq (.t 35) (.t 36)),none⟩,⟨(some 38),.o (.mv (.t 37)),none⟩,⟨(some 39),.o (.mv (.t 11)),(some (38,true))⟩,⟨(some 40),.o (.mv (.t 3)),(some (38,true))⟩,⟨(some 41),.o (.bin .leq (.t 39) (.t 40)),(some (38,true))⟩,⟨(some 42),.o (.pick (.t 38) (.t 41) (.k (.bool false))),none⟩,⟨(some 43),.o (.mv (.t 42)),none⟩,⟨(some 44),.o (.mv (.t 9)),(some (43,true))⟩,⟨(some 45),.aK g5 [(.t 44)],(some (43,true))⟩,⟨(some 46),.o (.mv (.t 10)),(some (43,true))⟩,⟨(some 47),.o (.bin .eql (.t 45) (.t 46)),(some (43,true))⟩,⟨(some 48),.o (.pick (.t 43) (.t 47) (.k (.bool false))),none⟩,⟨(some 49),.o (.mv (.t 48)),none⟩,⟨(some 50),.o (.mv (.t 0)),(some (49,true))⟩,⟨(some 51),.o (.jW (.t 50)),(some (49,true))⟩,⟨(some 52),.o (.mv (.t 10)),(some (49,true))⟩,⟨(some 53),.o (.bin .geq (.t 51) (.t 52)),(some (49,true))⟩,⟨(some 54),.o (.pick (.t 49) (.t 53) (.k (.bool false))),none⟩,⟨(some 55),.o (.mv (.t 54)),none⟩,⟨(some 56),.call g0 [],(some (55,true))⟩,⟨(some 57),.o (.pick (.t 55) (.t 56) (.k (.bool false))),none⟩,⟨(some 8),.o (.mv (.t 57)),none⟩]) .ret) .skip)) (.seq (.aF [⟨(some 58),.o (.fa (.t 12) 0),none⟩,⟨(some 59),.o (.ld (.t 58) none),none⟩,⟨(some 60),.o (.bin .eql (.t 59) (.k (.int .i64 2))),none⟩,⟨(some 61),.o (.mv (.t 60)),none⟩,⟨(some 62),.o (.fa (.t 12) 1),(some (61,true))⟩,⟨(some 63),.o (.ld (.t 62) none),(some (61,true))⟩,⟨(some 64),.o (.mv (.t 0)),(some (61,true))⟩,⟨(some 65),.o (.jW (.t 64)),(some (61,true))⟩,⟨(some 66),.o (.bin .eql (.t 63) (.t 65)),(some (61,true))⟩,⟨(some 67),.o (.pick (.t 61) (.t 66) (.k (.bool false))),none⟩,⟨(some 68),.o (.mv (.t 67)),none⟩,⟨(some 69),.o (.mv (.t 0)),(some (68,true))⟩,⟨(some 70),.o (.jW (.t 69)),(some (68,true))⟩,⟨(some 71),.o (.mv (.t 10)),(some (68,true))⟩,⟨(some 72),.o (.bin .lss (.t 70) (.t 71)),(some (68,true))⟩,⟨(some 73),.o (.pick (.t 68) (.t 72) (.k (.bool false))),none⟩,⟨(some 74),.o (.mv (.t 73)),none⟩,⟨(some 75),.o (.fa (.t 12) 0),(some (74,false))⟩,⟨(some 76),.o (.ld (.t 75) none),(some (74,false))⟩,⟨(some 77),.o (.bin .eql (.t 76) (.k (.int .i64 4))),(some (74,false))⟩,⟨(some 78),.o (.mv (.t 77)),(some (74,false))⟩,⟨(some 79),.o (.fa (.t 12) 1),(some (78,true))⟩,⟨(some 80),.o (.ld (.t 79) none),(some (78,true))⟩,⟨(some 81),.o (.bin .eql (.t 80) (.k (.int .i64 0))),(some (78,true))⟩,⟨(some 82),.o (.pick (.t 78) (.t 81) (.k (.bool false))),(some (74,false))⟩,⟨(some 83),.o (.mv (.t 82)),(some (74,false))⟩,⟨(some 84),.o (.mv (.t 0)),(some (83,true))⟩,⟨(some 85),.o (.jW (.t 84)),(some (83,true))⟩,⟨(some 86),.o (.mv (.t 10)),(some (83,true))⟩,⟨(some 87),.o (.bin .geq (.t 85) (.t 86)),(some (83,true))⟩,⟨(some 88),.o (.pick (.t 83) (.t 87) (.k (.bool false))),(some (74,false))⟩,⟨(some 89),.o (.pick (.t 74) (.k (.bool true)) (.t 88)),none⟩,⟨(some 13),.o (.mv (.t 89)),none⟩]) (.seq (.aF [⟨(some 90),.o (.mv (.t 11)),none⟩,⟨(some 91),.o (.bin .eql (.t 90) (.k (.int .i64 0))),none⟩,⟨(some 92),.o (.mv (.t 91)),none⟩,⟨(some 93),.o (.mv (.t 9)),(some (92,true))⟩,⟨(some 94),.aK g3 [(.t 93),(.k (.int .i64 1)),(.k (.int .i64 0)),(.k (.int .i64 255))],(some (92,true))⟩,⟨(some 95),.o (.bin .eql (.t 94) (.k (.int .i64 0))),(some (92,true))⟩,⟨(some 96),.o (.pick (.t 92) (.t 95) (.k (.bool false))),none⟩,⟨(some 97),.o (.mv (.t 96)),none⟩,⟨(some 98),.o (.mv (.t 9)),(some (97,true))⟩,⟨(some 99),.aK g6 [(.t 98)],(some (97,true))⟩,⟨(some 100),.o (.bin .eql (.t 99) (.k (.float .f64 0))),(some (97,true))⟩,⟨(some 101),.o (.pick (.t 97) (.t 100) (.k (.bool false))),none⟩,⟨(some 102),.o (.mv (.t 101)),none⟩,⟨(some 103),.o (.mv (.t 9)),(some (102,true))⟩,⟨(some 104),.aK g7 [(.t 103)],(some (102,true))⟩,⟨(some 105),.o (.un .not (.t 104)),(some (102,true))⟩,⟨(some 106),.o (.pick (.t 102) (.t 105) (.k (.bool false))),none⟩,⟨(some 107),.o (.mv (.t 106)),none⟩,⟨(some 108),.o (.mv (.t 9)),(some (107,true))⟩,⟨(some 109),.aK g5 [(.t 108)],(some (107,true))⟩,⟨(some 110),.o (.bin .eql (.t 109) (.k (.int .i64 0))),(some (107,true))⟩,⟨(some 111),.o (.pick (.t 107) (.t 110) (.k (.bool false))),none⟩,⟨(some 112),.o (.mv (.t 111)),none⟩,⟨(some 113),.o (.mv (.t 9)),(some (112,true))⟩,⟨(some 114),.aK g8 [(.t 113)],(some (112,true))⟩,⟨(some 115),.o (.mv (.t 0)),(some (112,true))⟩,⟨(some 116),.o (.jW (.t 115)),(some (112,true))⟩,⟨(some 117),.o (.bin .eql (.t 114) (.t 116)),(some (112,true))⟩,⟨(some 118),.o (.pick (.t 112) (.t 117) (.k (.bool false))),none⟩,⟨(some 14),.o (.mv (.t 118)),none⟩]) (.seq (.uC [⟨(some 119),.mv (.t 13),none⟩,⟨(some 120),.mv (.t 119),none⟩,⟨(some 121),.mv (.t 14),(some (120,true))⟩,⟨(some 122),.pick (.t 120) (.t 121) (.k (.bool false)),none⟩,⟨(some 123),.mv (.t 122),none⟩,⟨(some 124),.mv (.t 9),(some (123,true))⟩,⟨(some 125),.aK g4 [(.t 124)],(some (123,true))⟩,⟨(some 126),.ld (.t 12) (some 2),(some (123,true))⟩,⟨(some 127),.eqc [.i,.i] false (.t 125) (.t 126),(some (123,true))⟩,⟨(some 128),.pick (.t 123) (.t 127) (.k (.bool false)),none⟩,⟨(some 129),.mv (.t 128),none⟩,⟨(some 130),.call g0 [],(some (129,true))⟩,⟨(some 131),.pick (.t 129) (.t 130) (.k (.bool false)),none⟩,⟨(some 8),.mv (.t 131),none⟩] [(6,7)]) .ret))))))))))⟩
def mB(g0 g1 g2 g3 g4 g5 g6 g7 g8 g9 g10 g11:Nat):cU:=⟨114,[.tmp 4],.seq (.aF [⟨(some 4),.o (.mv (.k (.bool false))),none⟩]) (.join (.seq (.aF [⟨(some 8),.o (.mv (.t 0)),none⟩,⟨(some 9),.o (.jW (.t 8)),none⟩,⟨(some 10),.o (.bin .gtr (.t 9) (.k (.int .i64 200))),none⟩,⟨(some 11),.o (.mv (.t 10)),none⟩,⟨(some 12),.o (.mv (.t 1)),(some (11,false))⟩,⟨(some 13),.o (.jW (.t 12)),(some (11,false))⟩,⟨(some 14),.o (.bin .gtr (.t 13) (.k (.int .i64 40))),(some (11,false))⟩,⟨(some 15),.o (.pick (.t 11) (.k (.bool true)) (.t 14)),none⟩]) (.cond (.t 15) (.seq (.aF [⟨(some 16),.call g0 [],none⟩,⟨(some 4),.o (.mv (.t 16)),none⟩]) .ret) .skip)) (.seq (.aF [⟨(some 17),.o (.mv (.t 0)),none⟩,⟨(some 18),.call g1 [(.t 17)],none⟩,⟨(some 5),.o (.mv (.t 18)),none⟩]) (.seq (.aF [⟨(some 19),.o (.mv (.t 0)),none⟩,⟨(some 20),.o (.build [.bI,(.int .i64 0),(.int .i64 0),(.int .i64 0)] [(0,1,(.t 19))]),none⟩,⟨(some 21),.o (.box (.t 20)),none⟩,⟨(some 6),.o (.mv (.t 21)),none⟩]) (.join (.seq (.aF [⟨(some 22),.o (.mv (.t 5)),none⟩,⟨(some 23),.JE false (.t 22),none⟩]) (.cond (.t 23) (.seq (.aF [⟨(some 4),.o (.mv (.k (.bool false))),none⟩]) .ret) .skip)) (.join (.seq (.aF [⟨(some 7),.o (.mv (.k (.int .i64 0))),none⟩]) (.block 0 (.loop (.join (.seq (.aF [⟨(some 24),.o (.mv (.t 7)),none⟩,⟨(some 25),.o (.mv (.t 1)),none⟩,⟨(some 26),.o (.jW (.t 25)),none⟩,⟨(some 27),.o (.bin .lss (.t 24) (.t 26)),none⟩]) (.cond (.t 27) .skip (.exit 0))) (.join (.block 1 (.join (.seq (.aF [⟨(some 30),.o (.mv (.t 1)),none⟩,⟨(some 31),.o (.mv (.t 7)),none⟩,⟨(some 32),.o (.wk (.t 30) (.t 31) 4),none⟩,⟨(some 33),.o (.fa (.t 32) 0),none⟩,⟨(some 34),.o (.ld (.t 33) none),none⟩]) (.block 2 (.seq (.aF [⟨(some 41),.o (.bin .eql (.t 34) (.k (.int .i64 1))),none⟩,⟨(some 40),.o (.mv (.t 41)),none⟩]) (.cond (.t 40) (.seq (.uC [⟨(some 42),.mv (.t 5),none⟩,⟨(some 43),.mv (.t 1),none⟩,⟨(some 44),.mv (.t 7),none⟩,⟨(some 45),.wk (.t 43) (.t 44) 4,none⟩,⟨(some 46),.fa (.t 45) 1,none⟩,⟨(some 47),.ld (.t 46) none,none⟩,⟨(some 48),.mv (.t 1),none⟩,⟨(some 49),.mv (.t 7),none⟩,⟨(some 50),.wk (.t 48) (.t 49) 4,none⟩,⟨(some 51),.fa (.t 50) 2,none⟩,⟨(some 52),.ld (.t 51) none,none⟩,⟨(some 53),.mv (.t 1),none⟩,⟨(some 54),.mv (.t 7),none⟩,⟨(some 55),.wk (.t 53) (.t 54) 4,none⟩,⟨(some 56),.fa (.t 55) 3,none⟩,⟨(some 57),.ld (.t 56) none,none⟩,⟨(some 58),.aK g2 [(.t 42),(.t 47),(.t 52),(.t 57)],none⟩,⟨(some 59),.mv (.t 6),none⟩,⟨(some 60),.mv (.t 1),none⟩,⟨(some 61),.mv (.t 7),none⟩,⟨(some 62),.wk (.t 60) (.t 61) 4,none⟩,⟨(some 63),.fa (.t 62) 1,none⟩,⟨(some 64),.ld (.t 63) none,none⟩,⟨(some 65),.mv (.t 1),none⟩,⟨(some 66),.mv (.t 7),none⟩,⟨(some 67),.wk (.t 65) (.t 66) 4,none⟩,⟨(some 68),.fa (.t 67) 2,none⟩,⟨(some 69),.ld (.t 68) none,none⟩,⟨(some 70),.mv (.t 1),none⟩,⟨(some 71),.mv (.t 7),none⟩,⟨(some 72),.wk (.t 70) (.t 71) 4,none⟩,⟨(some 73),.fa (.t 72) 3,none⟩,⟨(some 74),.ld (.t 73) none,none⟩,⟨(some 75),.aK g3 [(.t 59),(.t 64),(.t 69),(.t 74)],none⟩,⟨(some 76),.bin .neq (.t 58) (.t 75),none⟩] [(16,22),(16,27),(16,32)]) (.cond (.t 76) (.seq (.aF [⟨(some 4),.o (.mv (.k (.bool false))),none⟩]) .ret) .skip)) (.seq (.aF [⟨(some 78),.o (.bin .eql (.t 34) (.k (.int .i64 2))),none⟩,⟨(some 77),.o (.mv (.t 78)),none⟩]) (.cond (.t 77) (.seq (.aF [⟨(some 79),.o (.mv (.t 5)),none⟩,⟨(some 80),.aK g4 [(.t 79)],none⟩,⟨(some 81),.o (.mv (.t 6)),none⟩,⟨(some 82),.aK g5 [(.t 81)],none⟩,⟨(some 83),.call g6 [(.t 80),(.t 82)],none⟩,⟨(some 84),.o (.un .not (.t 83)),none⟩]) (.cond (.t 84) (.seq (.aF [⟨(some 4),.o (.mv (.k (.bool false))),none⟩]) .ret) .skip)) (.seq (.aF [⟨(some 35),.o (.mv (.t 5)),none⟩,⟨(some 36),.aK g7 [(.t 35)],none⟩,⟨(some 37),.o (.mv (.t 6)),none⟩,⟨(some 38),.aK g8 [(.t 37)],none⟩,⟨(some 39),.o (.bb true (.t 36) (.t 38)),none⟩]) (.cond (.t 39) (.seq (.aF [⟨(some 4),.o (.mv (.k (.bool false))),none⟩]) .ret) .skip)))))))) (.seq (.uC [⟨(some 85),.mv (.t 5),none⟩,⟨(some 86),.aK g9 [(.t 85)],none⟩,⟨(some 87),.mv (.t 6),none⟩,⟨(some 88),.nc (.t 87),none⟩,⟨(some 89),.fa (.t 88) 1,none⟩,⟨(some 90),.ld (.t 89) none,none⟩,⟨(some 91),.bin .neq (.t 86) (.t 90),none⟩,⟨(some 92),.mv (.t 91),none⟩,⟨(some 93),.mv (.t 5),(some (92,false))⟩,⟨(some 94),.aK g10 [(.t 93)],(some (92,false))⟩,⟨(some 95),.mv (.t 0),(some (92,false))⟩,⟨(some 96),.jW (.t 95),(some (92,false))⟩,⟨(some 97),.mv (.t 6),(some (92,false))⟩,⟨(some 98),.nc (.t 97),(some (92,false))⟩,⟨(some 99),.fa (.t 98) 1,(some (92,false))⟩,⟨(some 100),.ld (.t 99) none,(some (92,false))⟩,⟨(some 101),.bin .sub (.t 96) (.t 100),(some (92,false))⟩,⟨(some 102),.bin .neq (.t 94) (.t 101),(some (92,false))⟩,⟨(some 103),.pick (.t 92) (.k (.bool true)) (.t 102),none⟩,⟨(some 104),.mv (.t 103),none⟩,⟨(some 105),.mv (.t 5),(some (104,false))⟩,⟨(some 106),.aK g11 [(.t 105)],(some (104,false))⟩,⟨(some 107),.mv (.t 6),(some (104,false))⟩,⟨(some 108),.nc (.t 107),(some (104,false))⟩,⟨(some 109),.fa (.t 108) 2,(some (104,false))⟩,⟨(some 110),.ld (.t 109) (some 2),(some (104,false))⟩,⟨(some 111),.eqc [.i,.i] true (.t 106) (.t 110),(some (104,false))⟩,⟨(some 112),.pick (.t 104) (.k (.bool true)) (.t 111),none⟩] [(1,5),(1,21),(1,25),(5,9),(5,21),(9,15),(15,21),(21,25)]) (.cond (.t 112) (.seq (.aF [⟨(some 4),.o (.mv (.k (.bool false))),none⟩]) .ret) .skip)))) (.aF [⟨(some 28),.o (.mv (.t 7)),none⟩,⟨(some 29),.o (.bin .add (.t 28) (.k (.int .i64 1))),none⟩,⟨(some 7),.o (.mv (.t 29)),none⟩])))))) (.seq (.aF [⟨(some 113),.call g0 [],none⟩,⟨(some 4),.o (.mv (.t 113)),none⟩]) .ret))))))⟩
def qA(g0 g1 g2 g3 g4:Nat):cU:=⟨21,[.tmp 0],.seq (.aF [⟨(some 0),.o (.mv (.k (.bool false))),none⟩]) (.seq (.aF [⟨(some 2),.o (.gA g0 1 [(.k (.int .u8 1)),(.k (.int .u8 2))]),none⟩,⟨(some 3),.call g1 [(.t 2)],none⟩,⟨(some 1),.o (.mv (.t 3)),none⟩]) (.seq (.aF [⟨(some 4),.o (.mv (.t 1)),none⟩,⟨(some 5),.JE true (.t 4),none⟩,⟨(some 6),.o (.mv (.t 5)),none⟩,⟨(some 7),.o (.mv (.t 1)),(some (6,true))⟩,⟨(some 8),.aK g2 [(.t 7),(.k (.int .i64 2)),(.k (.int .i64 0)),(.k (.int .i64 300))],(some (6,true))⟩,⟨(some 9),.o (.bin .eql (.t 8) (.k (.int .i64 258))),(some (6,true))⟩,⟨(some 10),.o (.pick (.t 6) (.t 9) (.k (.bool false))),none⟩,⟨(some 11),.o (.mv (.t 10)),none⟩,⟨(some 12),.o (.mv (.t 1)),(some (11,true))⟩,⟨(some 13),.aK g3 [(.t 12)],(some (11,true))⟩,⟨(some 14),.o (.bin .eql (.t 13) (.k (.int .i64 2))),(some (11,true))⟩,⟨(some 15),.o (.pick (.t 11) (.t 14) (.k (.bool false))),none⟩,⟨(some 16),.o (.mv (.t 15)),none⟩,⟨(some 17),.call g4 [(.k .bI),(.k (.int .i64 2)),(.k (.int .i64 258))],(some (16,true))⟩,⟨(some 18),.o (.jW (.t 17)),(some (16,true))⟩,⟨(some 19),.o (.bin .eql (.t 18) (.k (.int .i64 2))),(some (16,true))⟩,⟨(some 20),.o (.pick (.t 16) (.t 19) (.k (.bool false))),none⟩,⟨(some 0),.o (.mv (.t 20)),none⟩]) .ret))⟩
def qB(g0:Nat):cU:=⟨37,[.tmp 6],.seq (.aF [⟨(some 6),.o (.mv (.k .bI)),none⟩]) (.seq (.aF [⟨(some 9),.o (.mv (.t 1)),none⟩,⟨(some 10),.o (.mm true [(.t 9),(.k (.int .i64 0))]),none⟩,⟨(some 11),.o (.mm false [(.t 10),(.k (.int .i64 8))]),none⟩,⟨(some 1),.o (.mv (.t 11)),none⟩]) (.seq (.aF [⟨(some 12),.o (.mv (.t 0)),none⟩,⟨(some 13),.o (.jW (.t 12)),none⟩,⟨(some 14),.o (.mv (.t 0)),none⟩,⟨(some 15),.o (.jW (.t 14)),none⟩,⟨(some 16),.o (.mv (.t 1)),none⟩,⟨(some 17),.o (.bin .add (.t 15) (.t 16)),none⟩,⟨(some 18),.Qy g0 1 (.t 13) (.t 17),none⟩,⟨(some 7),.o (.mv (.t 18)),none⟩]) (.seq (.aF [⟨(some 19),.o (.mv (.t 7)),none⟩,⟨(some 20),.o (.mv (.t 0)),none⟩,⟨(some 21),.Qz g0 (.t 19) (.t 20),none⟩]) (.join (.seq (.aF [⟨(some 22),.o (.mv (.t 1)),none⟩,⟨(some 23),.o (.bin .sub (.t 22) (.k (.int .i64 1))),none⟩,⟨(some 8),.o (.mv (.t 23)),none⟩]) (.block 0 (.loop (.join (.seq (.aF [⟨(some 24),.o (.mv (.t 8)),none⟩,⟨(some 25),.o (.bin .geq (.t 24) (.k (.int .i64 0))),none⟩]) (.cond (.t 25) .skip (.exit 0))) (.join (.block 1 (.aF [⟨(some 28),.o (.mv (.t 7)),none⟩,⟨(some 29),.o (.mv (.t 2)),none⟩,⟨(some 30),.o (.mv (.t 8)),none⟩,⟨(some 31),.o (.bin .mul (.k (.int .i64 8)) (.t 30)),none⟩,⟨(some 32),.o (.bin .shr (.t 29) (.t 31)),none⟩,⟨(some 33),.o (.nk .u8 (.t 32)),none⟩,⟨(some 34),.o (.gA g0 1 [(.t 33)]),none⟩,⟨(some 35),.o (.app g0 1 1 (.t 28) (.t 34)),none⟩,⟨(some 7),.o (.mv (.t 35)),none⟩])) (.aF [⟨(some 26),.o (.mv (.t 8)),none⟩,⟨(some 27),.o (.bin .sub (.t 26) (.k (.int .i64 1))),none⟩,⟨(some 8),.o (.mv (.t 27)),none⟩])))))) (.seq (.aF [⟨(some 36),.o (.mv (.t 7)),none⟩,⟨(some 6),.o (.mv (.t 36)),none⟩]) .ret)))))⟩
def nZ(g0:Nat):cU:=⟨10,[.tmp 4],r [V 4 .bI] (r [M 5 0,M 6 1,o 7 (.xt .Bt (t 6)),o 8 (.nk .i64 (t 7)),o 9 (.call g0 [t 5,k (i 8),t 8]),M 4 9] y)⟩
def mC:cU:=⟨26,[.tmp 4],r [V 4 (F)] (j (r [M 6 0,o 7 (h 6),M 8 1,o 9 (h 8),o 10 (b .neq 7 9)] (c 10 (r [V 4 (F)] y) z)) (j (r [V 5 (i 0)] (u 0 (.loop (j (r [M 11 5,M 12 0,o 13 (h 12),o 14 (b .lss 11 13)] (c 14 z (.exit 0))) (j (u 1 (r [M 17 0,M 18 5,o 19 (a 17 18 1),o 20 (l 19),M 21 1,M 22 5,o 23 (a 21 22 1),o 24 (l 23),o 25 (b .neq 20 24)] (c 25 (r [V 4 (F)] y) z))) (R [M 15 5,o 16 (bb .add 15 (i 1)),M 5 16])))))) (r [V 4 (T)] y)))⟩
def vO(g0:Nat):cU:=⟨7,[.tmp 2],r [V 2 .lF] (r [M 3 0,o 4 (.call g0 [t 3]),o 5 (.build [.bI,i 0,i 0,i 0] [(0,1,t 4)]),o 6 (w 5),M 2 6] y)⟩
def gw(g0 g1 g2:Nat):yc:=⟨40,[.cell 8 none],.aF [⟨(some 8),.o (.alloc [(.int .i64 0)]),none⟩],g0,[(.t 8)],9,.seq (.aF [⟨(some 10),.o (.mv (.t 1)),none⟩,⟨(some 11),.o (.mm true [(.t 10),(.k (.int .i64 0))]),none⟩,⟨(some 12),.o (.mm false [(.t 11),(.k (.int .i64 7))]),none⟩,⟨(some 1),.o (.mv (.t 12)),none⟩]) (.seq (.aF [⟨(some 13),.o (.mv (.t 0)),none⟩,⟨(some 14),.o (.mv (.t 1)),none⟩,⟨(some 15),.aK g1 [(.t 13),(.t 14)],none⟩,⟨(some 16),.o (.nk .i64 (.t 15)),none⟩,⟨none,.o (.st (.t 8) (.t 16) 1),none⟩]) (.join (.seq (.aF [⟨(some 17),.o (.ld (.t 8) none),none⟩,⟨(some 18),.o (.mv (.t 2)),none⟩,⟨(some 19),.o (.bin .lss (.t 17) (.t 18)),none⟩,⟨(some 20),.o (.mv (.t 19)),none⟩,⟨(some 21),.o (.ld (.t 8) none),(some (20,false))⟩,⟨(some 22),.o (.mv (.t 3)),(some (20,false))⟩,⟨(some 23),.o (.bin .gtr (.t 21) (.t 22)),(some (20,false))⟩,⟨(some 24),.o (.pick (.t 20) (.k (.bool true)) (.t 23)),none⟩]) (.cond (.t 24) (.aF [⟨(some 25),.o (.mv (.t 0)),none⟩,⟨(some 26),.o (.mv (.t 0)),none⟩,⟨(some 27),.o (.nc (.t 26)),none⟩,⟨(some 28),.o (.fa (.t 27) 1),none⟩,⟨(some 29),.o (.ld (.t 28) none),none⟩,⟨(some 30),.aK g2 [(.t 25),(.k (.int .i64 4)),(.t 29)],none⟩]) .skip)) (.seq (.aF [⟨(some 31),.o (.mv (.t 0)),none⟩,⟨(some 32),.o (.nc (.t 31)),none⟩,⟨(some 33),.o (.fa (.t 32) 1),none⟩,⟨(some 34),.o (.ld (.t 33) none),none⟩,⟨(some 35),.o (.mv (.t 1)),none⟩,⟨(some 36),.o (.bin .add (.t 34) (.t 35)),none⟩,⟨(some 37),.o (.nc (.t 31)),none⟩,⟨(some 38),.o (.fa (.t 37) 1),none⟩,⟨none,.o (.st (.t 38) (.t 36) 1),none⟩]) (.seq (.aF [⟨(some 39),.o (.ld (.t 8) none),none⟩,⟨none,.o (.st (.t 8) (.t 39) 1),none⟩]) .ret))))⟩
def kG:cU:=⟨7,[.cell 2 (some 2)],r [o 2 (.alloc [i 0,i 0])] (r [M 3 0,o 4 (.nc (t 3)),o 5 (f 4 2),o 6 (L 5 2),n (s 2 6 2)] y)⟩
def ng:cU:=⟨7,[.tmp 2],r [V 2 (i 0)] (r [M 3 0,o 4 (.nc (t 3)),o 5 (f 4 1),o 6 (l 5),M 2 6] y)⟩
def ig(g0 g1:Nat):yc:=⟨15,[.cell 2 none],.aF [⟨(some 2),.o (.alloc [(.float .f64 0)]),none⟩],g0,[(.t 2)],3,.seq (.aF [⟨(some 4),.o (.mv (.t 0)),none⟩,⟨(some 5),.aK g1 [(.t 4),(.k (.int .i64 8))],none⟩,⟨(some 6),.o (.xt .ffrom (.t 5)),none⟩,⟨none,.o (.st (.t 2) (.t 6) 1),none⟩]) (.seq (.aF [⟨(some 7),.o (.mv (.t 0)),none⟩,⟨(some 8),.o (.nc (.t 7)),none⟩,⟨(some 9),.o (.fa (.t 8) 1),none⟩,⟨(some 10),.o (.ld (.t 9) none),none⟩,⟨(some 11),.o (.bin .add (.t 10) (.k (.int .i64 8))),none⟩,⟨(some 12),.o (.nc (.t 7)),none⟩,⟨(some 13),.o (.fa (.t 12) 1),none⟩,⟨none,.o (.st (.t 13) (.t 11) 1),none⟩]) (.seq (.aF [⟨(some 14),.o (.ld (.t 2) none),none⟩,⟨none,.o (.st (.t 2) (.t 14) 1),none⟩]) .ret))⟩
def lq(g0:Nat):cU:=⟨6,[.tmp 2],r [V 2 (F)] (r [M 3 0,o 4 (.aK g0 [t 3,k (i 1),k (i 0),k (i 1)]),o 5 (bb .eql 4 (i 1)),M 2 5] y)⟩
def lz:cU:=⟨13,[.tmp 2],r [V 2 (i 0)] (r [M 3 0,o 4 (.nc (t 3)),o 5 (f 4 0),o 6 (l 5),o 7 (h 6),M 8 0,o 9 (.nc (t 8)),o 10 (f 9 1),o 11 (l 10),o 12 (b .sub 7 11),M 2 12] y)⟩
def dG(g0:Nat):cU:=⟨8,[.tmp 2],r [V 2 .bI] (j (r [M 3 0,o 4 (.Mw false (t 3))] (c 4 (r [V 2 .bI] y) z)) (r [o 5 (.gA g0 1 []),M 6 0,o 7 (.app g0 1 1 (t 5) (t 6)),M 2 7] y))⟩
def ij(g0:Nat):FZ:=⟨9,4,[⟨(some 5),.Mx g0 (.agg [(.int .i64 0),(.int .i64 0)]) (.t 4),none⟩,⟨(some 3),.o (.mv (.t 5)),none⟩,⟨(some 6),.o (.ext (.t 3) 0),none⟩,⟨(some 7),.o (.ext (.t 3) 1),none⟩,⟨(some 1),.o (.alloc [(.int .i64 0),(.int .i64 0)]),none⟩,⟨none,.o (.st (.t 1) (.t 6) 2),none⟩,⟨(some 2),.o (.mv (.t 7)),none⟩],.seq (.aF [⟨(some 8),.o (.mv (.t 2)),none⟩]) (.cond (.t 8) (.aF [⟨none,.o (.st (.t 0) (.k (.int .i64 0)) 1),none⟩]) .skip)⟩
def iq(g0:Nat):cU:=⟨23,[.tmp 4],.seq (.aF [⟨(some 4),.o (.mv (.k (.int .u64 0))),none⟩]) (.seq (.aF [⟨(some 5),.o (.mv (.k (.int .u64 0))),none⟩]) (.join (.seq (.aF [⟨(some 8),.o (.mv (.t 0)),none⟩,⟨(some 9),.o (.mv (.t 1)),none⟩,⟨(some 10),.aK g0 [(.t 8),(.t 9)],none⟩,⟨(some 11),.o (.jW (.t 10)),none⟩,⟨(some 12),.o (.mv (.k (.int .i64 0))),none⟩]) (.block 0 (.loop (.seq (.aF [⟨(some 13),.o (.bin .lss (.t 12) (.t 11)),none⟩]) (.join (.cond (.t 13) .skip (.exit 0)) (.join (.block 1 (.seq (.aF [⟨(some 14),.o (.wk (.t 10) (.t 12) 1),none⟩,⟨(some 15),.o (.ld (.t 14) none),none⟩,⟨(some 7),.o (.mv (.t 15)),none⟩]) (.aF [⟨(some 16),.o (.mv (.t 5)),none⟩,⟨(some 17),.o (.bin .shl (.t 16) (.k (.int .u64 8))),none⟩,⟨(some 18),.o (.mv (.t 7)),none⟩,⟨(some 19),.o (.nk .u64 (.t 18)),none⟩,⟨(some 20),.o (.bin .or (.t 17) (.t 19)),none⟩,⟨(some 5),.o (.mv (.t 20)),none⟩]))) (.aF [⟨(some 21),.o (.bin .add (.t 12) (.k (.int .i64 1))),none⟩,⟨(some 12),.o (.mv (.t 21)),none⟩]))))))) (.seq (.aF [⟨(some 22),.o (.mv (.t 5)),none⟩,⟨(some 4),.o (.mv (.t 22)),none⟩]) .ret)))⟩
def kH(g0:Nat):cU:=⟨23,[],.join (.seq (.aF [⟨(some 6),.o (.mv (.t 0)),none⟩,⟨(some 7),.o (.nc (.t 6)),none⟩,⟨(some 8),.o (.fa (.t 7) 2),none⟩,⟨(some 9),.o (.fa (.t 8) 0),none⟩,⟨(some 10),.o (.ld (.t 9) none),none⟩,⟨(some 11),.o (.bin .eql (.t 10) (.k (.int .i64 0))),none⟩]) (.cond (.t 11) (.aF [⟨(some 12),.o (.mv (.t 0)),none⟩,⟨(some 13),.o (.mv (.t 1)),none⟩,⟨(some 14),.o (.mv (.t 2)),none⟩,⟨(some 15),.o (.build [(.int .i64 0),(.int .i64 0)] [(0,1,(.t 13)),(1,1,(.t 14))]),none⟩,⟨(some 16),.o (.nc (.t 12)),none⟩,⟨(some 17),.o (.fa (.t 16) 2),none⟩,⟨none,.o (.st (.t 17) (.t 15) 2),none⟩]) .skip)) (.aF [⟨(some 18),.o (.mv (.t 0)),none⟩,⟨(some 19),.o (.nc (.t 18)),none⟩,⟨(some 20),.o (.fa (.t 19) 2),none⟩,⟨(some 21),.o (.ld (.t 20) (some 2)),none⟩,⟨(some 22),.Gn g0 (.t 21),none⟩,⟨none,.Gm (.t 22),none⟩])⟩
def gx(g0:Nat):FZ:=⟨9,4,[⟨(some 5),.Mx g0 (.agg [(.int .i64 0),(.int .i64 0)]) (.t 4),none⟩,⟨(some 3),.o (.mv (.t 5)),none⟩,⟨(some 6),.o (.ext (.t 3) 0),none⟩,⟨(some 7),.o (.ext (.t 3) 1),none⟩,⟨(some 1),.o (.alloc [(.int .i64 0),(.int .i64 0)]),none⟩,⟨none,.o (.st (.t 1) (.t 6) 2),none⟩,⟨(some 2),.o (.mv (.t 7)),none⟩],.seq (.aF [⟨(some 8),.o (.mv (.t 2)),none⟩]) (.cond (.t 8) (.aF [⟨none,.o (.st (.t 0) (.k (.float .f64 0)) 1),none⟩]) .skip)⟩
def iU(g0 g1:Nat):cU:=⟨39,[.tmp 4],.seq (.aF [⟨(some 4),.o (.mv (.k .bI)),none⟩]) (.join (.seq (.aF [⟨(some 5),.o (.mv (.t 0)),none⟩,⟨(some 6),.o (.nc (.t 5)),none⟩,⟨(some 7),.o (.fa (.t 6) 2),none⟩,⟨(some 8),.o (.fa (.t 7) 0),none⟩,⟨(some 9),.o (.ld (.t 8) none),none⟩,⟨(some 10),.o (.bin .neq (.t 9) (.k (.int .i64 0))),none⟩,⟨(some 11),.o (.mv (.t 10)),none⟩,⟨(some 12),.o (.mv (.t 0)),(some (11,false))⟩,⟨(some 13),.aK g0 [(.t 12)],(some (11,false))⟩,⟨(some 14),.o (.mv (.t 1)),(some (11,false))⟩,⟨(some 15),.o (.bin .lss (.t 13) (.t 14)),(some (11,false))⟩,⟨(some 16),.o (.pick (.t 11) (.k (.bool true)) (.t 15)),none⟩]) (.cond (.t 16) (.aF [⟨(some 17),.o (.mv (.t 0)),none⟩,⟨(some 18),.o (.mv (.t 0)),none⟩,⟨(some 19),.o (.nc (.t 18)),none⟩,⟨(some 20),.o (.fa (.t 19) 0),none⟩,⟨(some 21),.o (.ld (.t 20) none),none⟩,⟨(some 22),.o (.jW (.t 21)),none⟩,⟨(some 23),.aK g1 [(.t 17),(.k (.int .i64 2)),(.t 22)],none⟩]) .skip)) (.seq (.zf [⟨(some 24),.mv (.t 0),none⟩,⟨(some 25),.nc (.t 24),none⟩,⟨(some 26),.fa (.t 25) 0,none⟩,⟨(some 27),.ld (.t 26) none,none⟩,⟨(some 28),.mv (.t 0),none⟩,⟨(some 29),.nc (.t 28),none⟩,⟨(some 30),.fa (.t 29) 1,none⟩,⟨(some 31),.ld (.t 30) none,none⟩,⟨(some 32),.mv (.t 0),none⟩,⟨(some 33),.nc (.t 32),none⟩,⟨(some 34),.fa (.t 33) 1,none⟩,⟨(some 35),.ld (.t 34) none,none⟩,⟨(some 36),.mv (.t 1),none⟩,⟨(some 37),.bin .add (.t 35) (.t 36),none⟩,⟨(some 38),.JD 1 (.t 27) (some (.t 31)) (some (.t 37)),none⟩,⟨(some 4),.mv (.t 38),none⟩]) .ret))⟩
end
def gP(n:Int):List AV:=[.int .u8 n]
structure aY where
 b:Option (List Int)
 fm:Int
 code:Int
 Ip:Int
def aY.cells(r:aY):List AV:=[aJ gP r.b,I r.fm,I r.code,I r.Ip]
def aY.len(r:aY):Int:=((r.b.getD []).length:Int)
def aY.Ok(r:aY):Prop:=0<=r.fm/\r.fm<=r.len/\r.len<=1000000
def aY.fault(r:aY):AV:=.agg [I r.code,I r.Ip]
def aY.fail(r:aY) (c a:Int):aY:=if r.code=0 then{r with code:=c,Ip:=a}else r
def up(e:Nat) (r:aY):AV:=.iface e r.fault
def aY.part(r:aY) (n:Int):List Int:=((r.b.getD []).take (r.fm+n).toNat).drop r.fm.toNat
def je(v c:Int):Int:=Jy .u64 (IntKind.u64.wrap (v*2^min 8 IntKind.u64.bits)) (IntKind.u64.wrap c)
def ff(l:List Int):Int:=l.foldl je 0
def eW(r:aY) (size lo hi:Int):Int×aY:=
 let k:=kU size 0 7
 if ¬(r.code=0/\k<=r.len-r.fm)then(0,r.fail 2 r.len)else
 let v:=IntKind.i64.wrap (ff (r.part k))
 if v<lo\/hi<v then(0,r.fail 4 r.fm)else(v,{r with fm:=r.fm+k})
def gG(r:aY):Nat×aY:=
 if ¬(r.code=0/\8<=r.len-r.fm)then(0,r.fail 2 r.len)else((ff (r.part 8)).toNat,{r with fm:=r.fm+8})
def y8(r:aY):Bool×aY:=((eW r 1 0 1).1==1,(eW r 1 0 1).2)
def uV.Spec(C:bt) (e f:Nat):Prop:=∀(r:aY) (c a:Int),C.q f [r.cells] [none,some (I c),some (I a)] (up e (r.fail c a)) [(r.fail c a).cells]
def vP.Spec(C:bt) (f:Nat):Prop:=∀r:aY,r.Ok->C.p f [r.cells] [none] (I (r.len-r.fm)) none [r.cells]
def L8.Spec(C:bt) (f:Nat):Prop:=∀r:aY,C.p f [r.cells] [none] (I r.fm) none [r.cells]
def th.Spec(C:bt) (f:Nat):Prop:=∀r:aY,C.p f [r.cells] [none] r.fault none [r.cells]
def Ci.Spec(C:bt) (e f:Nat):Prop:=
 (∀(r:aY) (n:Int),r.Ok->0<=n->n<=8->(r.code=0/\n<=r.len-r.fm)->C.p f [r.cells] [none,some (I n)] (aJ gP (r.b.map fun _=>r.part n)) none [r.cells])/\
 ∀(r:aY) (n:Int),r.Ok->¬(r.code=0/\n<=r.len-r.fm)->C.q f [r.cells] [none,some (I n)] (up e (r.fail 2 r.len)) [(r.fail 2 r.len).cells]
def uW.Spec(C:bt) (e f:Nat):Prop:=
 (∀(r:aY) (n:Int),r.Ok->0<=n->n<=8->(r.code=0/\n<=r.len-r.fm)->C.p f [r.cells] [none,some (I n)] (.int .u64 (ff (r.part n))) none [r.cells])/\
 ∀(r:aY) (n:Int),r.Ok->¬(r.code=0/\n<=r.len-r.fm)->C.q f [r.cells] [none,some (I n)] (up e (r.fail 2 r.len)) [(r.fail 2 r.len).cells]
def Cj.Spec(C:bt) (e f:Nat):Prop:=(∀n:Int,C.d f .eH [[I n]] [none] [[I n]])/\∀(r:aY) (n:Int),C.d f (up e r) [[I n]] [none] [[I 0]]
def Ck.Spec(C:bt) (e f:Nat):Prop:=(∀n:Nat,C.d f .eH [[Fl n]] [none] [[Fl n]])/\∀(r:aY) (n:Nat),C.d f (up e r) [[Fl n]] [none] [[Fl 0]]
def AX.Spec(C:bt) (f:Nat):Prop:=∀(r:aY) (size lo hi:Int),r.Ok->C.p f [r.cells] [none,some (I size),some (I lo),some (I hi)] (I (eW r size lo hi).1) none [(eW r size lo hi).2.cells]
def tj.Spec(C:bt) (f:Nat):Prop:=∀r:aY,r.Ok->C.p f [r.cells] [none] (Fl (gG r).1) none [(gG r).2.cells]
def yd.Spec(C:bt) (f:Nat):Prop:=∀r:aY,r.Ok->C.p f [r.cells] [none] (B (y8 r).1) none [(y8 r).2.cells]
theorem P1(r:aY):((r.b.getD []).length:Int)=r.len:=rfl
theorem lA{n:Int} (h1:-1000000000<=n) (h2:n<=1000000000):IntKind.i64.wrap n=n:=by
 simp only[IntKind.wrap,IntKind.bits,IntKind.signed];simp;omega
theorem Iq{r:aY} {n:Int} (hr:r.Ok) (h0:0<=n) (hn:n<=r.len-r.fm):((r.part n).length:Int)=n:=by
 obtain⟨h1,h2,h3⟩:=hr;simp only[aY.len]at h2 h3 hn;simp[aY.part];omega
theorem F5(l:List Int) (i:Nat) (x:Int) (h:l[i]? =some x):ff (l.take (i+1))=je (ff (l.take i)) x:=by
 rw[List.take_add_one,h];simp[ff]
section
variable{P:Program} (hm:P.follows .mixedOrders=true) {f:Nat}
include hm
theorem L8.ok(hc:dY P f=some ng):L8.Spec (Pure P) f:=by
 intro r
 refine fK hm hc (by show 1<=7;decide) rfl (by simp) (ay (keep:=[]) (i:=0) ?_)
 try simp only[I,B,D,RX,aB,aC,aE,↓KW,↓aD,seval,ng,Z.H,aY.cells]
theorem th.ok(hc:dY P f=some kG):th.Spec (Pure P) f:=by
 intro r
 refine fK hm hc (by show 1<=7;decide) rfl (by simp) (ay (keep:=[]) (i:=0) ?_)
 try simp only[I,B,D,RX,aB,aC,aE,↓KW,↓aD,seval,kG,Z.H,aY.cells,aY.fault]
theorem vP.ok(hc:dY P f=some lz):vP.Spec (Pure P) f:=by
 intro r hr;obtain⟨h1,h2,h3⟩:=hr
 refine fK hm hc (by show 1<=13;decide) rfl (by simp) (ay (keep:=[]) (i:=0) ?_)
 try simp only[I,B,D,RX,aB,aC,aE,↓KW,↓aD,seval,lz,Z.H,aY.cells,P1]
 rw[lA (by omega) (by omega)]
theorem uV.ok{e:Nat} (hc:gB true P f=some (kH e)):uV.Spec (Pure P) e f:=by
 intro r c a
 refine qz hm hc (by show 3<=23;decide) rfl (by simp) (ay (keep:=[]) (i:=0) ?_)
 try simp only[I,B,D,RX,aB,aC,aE,↓KW,↓aD,seval,kH,Z.H,aY.cells]
 refine ax (fun h=>?_) (fun h=>?_)<;>try simp only[I,B,D,RX,aB,aC,aE,↓KW,↓aD,seval,h]
 ·have h:r.code=0:=by simpa using h
  refine⟨?_,?_⟩
  ·simp[up,aY.fail,h,aY.fault]
  ·simp[fJ,bY,aY.fail,h]
 ·have h:¬r.code=0:=by simpa using h
  refine⟨?_,?_⟩
  ·simp[up,aY.fail,h,aY.fault]
  ·simp[fJ,bY,aY.fail,h]
theorem Ci.ok{e fL fF:Nat} (hc:gB true P f=some (iU fL fF)) (hL:vP.Spec (Pure P) fL) (hF:uV.Spec (Pure P) e fF):Ci.Spec (Pure P) e f:=by
 refine⟨fun r n hr h0 h8 hn=>?_,fun r n hr hn=>?_⟩
 ·obtain⟨hn1,hn2⟩:=hn
  obtain⟨b,q,c,a⟩:=r;simp only at hn1;subst hn1
  have hr':=hr
  obtain⟨h1,h2,h3⟩:=hr';simp only[aY.len]at h1 h2 h3 hn2
  have hw:=lA (n:=q+n) (by omega) (by omega)
  refine fK hm hc (by show 2<=39;decide) rfl (by simp) (ay (keep:=[]) (i:=0) ?_)
  try simp only[I,B,D,RX,aB,aC,aE,↓KW,↓aD,seval,iU,Z.H,aY.cells]
  refine⟨rfl,aq (hL ⟨b,q,0,a⟩ hr) ?_⟩;try simp only[I,B,D,RX,aB,aC,aE,↓KW,↓aD,seval,aY.cells]
  try simp only[I,B,D,RX,aB,aC,aE,↓KW,↓aD,seval,aY.len]
  refine ax (fun h=>?_) (fun h=>?_)<;>try simp only[I,B,D,RX,aB,aC,aE,↓KW,↓aD,seval,h]
  ·exfalso;have:=of_decide_eq_true h;omega
  ·try simp only[I,B,D,RX,aB,aC,aE,↓KW,↓aD,seval,hw]
   refine⟨⟨h1,by omega,by omega⟩,fun _ _=>rfl,?_⟩
   cases b<;>simp[C5,aJ,aY.part,List.map_drop,List.map_take]
 ·have fin:∀{s:S},fJ s.boxes 0 [(r.fail 2 r.len).cells]->L2 (up e (r.fail 2 r.len)) [(r.fail 2 r.len).cells] (.panic (dz (up e (r.fail 2 r.len)))) s:=fun h=>⟨rfl,h⟩
  refine qz hm hc (by show 2<=39;decide) rfl (by simp) (ay (keep:=[]) (i:=0) ?_)
  try simp only[I,B,D,RX,aB,aC,aE,↓KW,↓aD,seval,iU,Z.H,aY.cells]
  refine bz (fun h=>?_) (fun h=>?_)
  ·try simp only[I,B,D,RX,aB,aC,aE,↓KW,↓aD,seval,h]
   refine⟨rfl,aA (hF r 2 r.len) ?_⟩;try simp only[I,B,D,RX,aB,aC,aE,↓KW,↓aD,seval,aY.cells]
  ·try simp only[I,B,D,RX,aB,aC,aE,↓KW,↓aD,seval,h]
   refine⟨rfl,aq (hL r hr) ?_⟩;try simp only[I,B,D,RX,aB,aC,aE,↓KW,↓aD,seval,aY.cells,h]
   refine ax (fun h2=>?_) (fun h2=>?_)<;>try simp only[I,B,D,RX,aB,aC,aE,↓KW,↓aD,seval,h2]
   ·refine⟨rfl,aA (hF r 2 r.len) ?_⟩
    try simp only[I,B,D,RX,aB,aC,aE,↓KW,↓aD,seval,aY.cells]
   ·exfalso
    simp at h h2;exact hn ⟨h,h2⟩
theorem uW.ok{e fN:Nat} (hc:gB true P f=some (iq fN)) (hN:Ci.Spec (Pure P) e fN):uW.Spec (Pure P) e f:=by
 refine⟨fun r n hr h0 h8 hn=>?_,fun r n hr hn=>?_⟩
 ·have hl:=Iq hr h0 hn.2
  have hbd:(r.b.map fun _=>r.part n).getD []=r.part n:=by unfold aY.part;cases r.b<;>simp
  obtain⟨L,hL⟩:∃L,L=r.part n:=⟨_,rfl⟩
  refine fK hm hc (by show 2<=23;decide) rfl (by simp) (ay (keep:=[]) (i:=0) ?_)
  try simp only[I,B,D,RX,aB,aC,aE,↓KW,↓aD,seval,iq,Z.H,aY.cells]
  refine⟨rfl,aq (hN.1 r n hr h0 h8 hn) ?_⟩;try simp only[I,B,D,RX,aB,aC,aE,↓KW,↓aD,seval,aY.cells]
  obtain⟨O,hO⟩:∃O,O=(r.b.map fun _=>r.part n):=⟨_,rfl⟩
  rw[<-hO]at hbd⊢;rw[<-hL]at hbd hl⊢;try simp only[I,B,D,RX,aB,aC,aE,↓KW,↓aD,seval,hbd]
  refine aP (fun k:Nat=>(⟨[(12,.dat (I k) none),(11,.dat (I L.length) none),(10,.dat (aJ gP O) none),(5,.dat (.int .u64 (ff (L.take k))) none)],[(0,⟨r.cells,[]⟩)],[],400⟩:S)) (fun k=>L.length-k) (fun k=>k<=L.length) ?_ 0 (by omega) ?_
  ·intro k hk A back
   try simp only[I,B,D,RX,aB,aC,aE,↓KW,↓aD,seval,aY.cells]
   refine ax (fun h=>?_) (fun h=>?_)<;>try simp only[I,B,D,RX,aB,aC,aE,↓KW,↓aD,seval,h]
   ·have hk2:k<L.length:=by have:=of_decide_eq_true h;omega
    obtain⟨x,hx⟩:∃x,L[k]? =some x:=⟨L[k],by simp[hk2]⟩
    have hw:=aN (k:=k) (by have:=hr.2.2;omega)
    refine⟨by rw[hbd];omega,?_⟩
    try simp only[I,B,D,RX,aB,aC,aE,↓KW,↓aD,seval,hbd,hx,gP]
    refine back (k+1) _ (by omega) (by omega) (ai (by decide) ?_ ?_ ?_ ?_)<;>simp[LX,I,B,D,hx,F5 L k x hx,hw,aY.cells]
    rfl
   ·have:k=L.length:=by have:=of_decide_eq_false h;omega
    subst this;try simp only[I,B,D,RX,aB,aC,aE,↓KW,↓aD,seval,List.take_length]
  ·refine ai (by decide) ?_ ?_ ?_ ?_<;>simp[LX,I,B,D,aY.cells,ff]
 ·refine qz hm hc (by show 2<=23;decide) rfl (by simp) (ay (keep:=[]) (i:=0) ?_)
  try simp only[I,B,D,RX,aB,aC,aE,↓KW,↓aD,seval,iq,Z.H,aY.cells]
  refine⟨rfl,aA (hN.2 r n hr hn) ?_⟩;try simp only[I,B,D,RX,aB,aC,aE,↓KW,↓aD,seval,aY.cells]
theorem Cj.ok{e:Nat} (hc:F0 P f=some (ij e)):Cj.Spec (Pure P) e f:=by
 refine⟨fun n=>?_,fun r n=>?_⟩
 ·refine nY hm hc rfl (by show 1<=9;decide) rfl (by simp) ?_
  try simp only[I,B,D,RX,aB,aC,aE,↓KW,↓aD,seval,ij,Z.H]
 ·refine nY hm hc rfl (by show 1<=9;decide) rfl (by simp) ?_
  try simp only[I,B,D,RX,aB,aC,aE,↓KW,↓aD,seval,ij,Z.H,up,aY.fault]
theorem Ck.ok{e:Nat} (hc:F0 P f=some (gx e)):Ck.Spec (Pure P) e f:=by
 refine⟨fun n=>?_,fun r n=>?_⟩
 ·refine nY hm hc rfl (by show 1<=9;decide) rfl (by simp) ?_
  try simp only[I,B,D,RX,aB,aC,aE,↓KW,↓aD,seval,gx,Z.H]
 ·refine nY hm hc rfl (by show 1<=9;decide) rfl (by simp) ?_
  try simp only[I,B,D,RX,aB,aC,aE,↓KW,↓aD,seval,gx,Z.H,up,aY.fault]
theorem AX.ok{e f1 fW fF:Nat} (hc:F3 P f=some (gw f1 fW fF)) (h1:Cj.Spec (Pure P) e f1) (hW:uW.Spec (Pure P) e fW) (hF:uV.Spec (Pure P) e fF):AX.Spec (Pure P) f:=by
 intro r size lo hi hr
 have hm7:(if 7<(if 0>size then 0 else size)then 7 else(if 0>size then 0 else size))=kU size 0 7:=by
  unfold kU;split<;>split<;>(try split)<;>omega
 obtain⟨k,hk⟩:∃k,k=kU size 0 7:=⟨_,rfl⟩
 have hk0:0<=k/\k<=7:=by rw[hk];unfold kU;split<;>(try split)<;>omega
 rw[<-hk]at hm7
 by_cases hn:r.code=0/\k<=r.len-r.fm
 ·obtain⟨v,hv⟩:∃v,v=IntKind.i64.wrap (ff (r.part k)):=⟨_,rfl⟩
  have hsum:IntKind.i64.wrap (r.fm+k)=r.fm+k:=by obtain⟨g1,g2,g3⟩:=hr;exact lA (by omega) (by omega)
  by_cases hb:v<lo\/hi<v
  ·have hR:eW r size lo hi=(0,r.fail 4 r.fm):=by simp[eW,<-hk,<-hv,hn,hb]
   rw[hR]
   refine ie hm hc (by show 4<=40;decide) rfl (by simp) (ic (keep:=[]) ?_)
   try simp only[I,B,D,RX,aB,aC,aE,↓KW,↓aD,seval,gw,Z.H,aY.cells,hm7]
   refine⟨rfl,aq (hW.1 r k hr hk0.1 (by omega) hn) ?_⟩
   try simp only[I,B,D,RX,aB,aC,aE,↓KW,↓aD,seval,aY.cells,<-hv]
   refine bz (fun h=>?_) (fun h=>?_)
   ·try simp only[I,B,D,RX,aB,aC,aE,↓KW,↓aD,seval,h]
    refine⟨rfl,aA (hF r 4 r.fm) ?_⟩;try simp only[I,B,D,RX,aB,aC,aE,↓KW,↓aD,seval,aY.cells]
    refine fZ rfl (gM (h1.2 _ _) rfl rfl rfl ?_);try simp only[I,B,D,RX,aB,aC,aE,↓KW,↓aD,seval,aY.cells]
   ·try simp only[I,B,D,RX,aB,aC,aE,↓KW,↓aD,seval,h]
    have h2:decide (v>hi)=true:=by
     have:=of_decide_eq_false h;simp;omega
    refine ax (fun h3=>?_) (fun h3=>?_)<;>try simp only[I,B,D,RX,aB,aC,aE,↓KW,↓aD,seval,h3]
    ·refine⟨rfl,aA (hF r 4 r.fm) ?_⟩
     try simp only[I,B,D,RX,aB,aC,aE,↓KW,↓aD,seval,aY.cells]
     refine fZ rfl (gM (h1.2 _ _) rfl rfl rfl ?_);try simp only[I,B,D,RX,aB,aC,aE,↓KW,↓aD,seval,aY.cells]
    ·exfalso;have:=of_decide_eq_false h;have:=of_decide_eq_false h3;omega
  ·have hR:eW r size lo hi=(v,{r with fm:=r.fm+k}):=by simp[eW,<-hk,<-hv,hn,hb]
   rw[hR]
   refine ie hm hc (by show 4<=40;decide) rfl (by simp) (ic (keep:=[]) ?_)
   try simp only[I,B,D,RX,aB,aC,aE,↓KW,↓aD,seval,gw,Z.H,aY.cells,hm7]
   refine⟨rfl,aq (hW.1 r k hr hk0.1 (by omega) hn) ?_⟩
   try simp only[I,B,D,RX,aB,aC,aE,↓KW,↓aD,seval,aY.cells,<-hv]
   refine bz (fun h=>?_) (fun h=>?_)
   ·exfalso;have:=of_decide_eq_true h;omega
   ·try simp only[I,B,D,RX,aB,aC,aE,↓KW,↓aD,seval,h]
    refine ax (fun h3=>?_) (fun h3=>?_)<;>try simp only[I,B,D,RX,aB,aC,aE,↓KW,↓aD,seval,h3]
    ·exfalso;have:=of_decide_eq_true h3;omega
    ·try simp only[I,B,D,RX,aB,aC,aE,↓KW,↓aD,seval,hsum]
     refine gM (h1.1 _) rfl rfl rfl ?_;try simp only[I,B,D,RX,aB,aC,aE,↓KW,↓aD,seval,aY.cells]
 ·have hR:eW r size lo hi=(0,r.fail 2 r.len):=by simp[eW,<-hk,hn]
  rw[hR]
  refine ie hm hc (by show 4<=40;decide) rfl (by simp) (ic (keep:=[]) ?_)
  try simp only[I,B,D,RX,aB,aC,aE,↓KW,↓aD,seval,gw,Z.H,aY.cells,hm7]
  refine⟨rfl,aA (hW.2 r k hr hn) ?_⟩;try simp only[I,B,D,RX,aB,aC,aE,↓KW,↓aD,seval,aY.cells]
  refine fZ rfl (gM (h1.2 _ _) rfl rfl rfl ?_);try simp only[I,B,D,RX,aB,aC,aE,↓KW,↓aD,seval,aY.cells]
theorem tj.ok{e f1 fW:Nat} (hc:F3 P f=some (ig f1 fW)) (h1:Ck.Spec (Pure P) e f1) (hW:uW.Spec (Pure P) e fW):tj.Spec (Pure P) f:=by
 intro r hr
 by_cases hn:r.code=0/\8<=r.len-r.fm
 ·have hsum:IntKind.i64.wrap (r.fm+8)=r.fm+8:=by obtain⟨g1,g2,g3⟩:=hr;exact lA (by omega) (by omega)
  have hR:gG r=((ff (r.part 8)).toNat,{r with fm:=r.fm+8}):=by simp[gG,hn]
  rw[hR]
  refine ie hm hc (by show 1<=15;decide) rfl (by simp) (ic (keep:=[]) ?_)
  try simp only[I,B,D,RX,aB,aC,aE,↓KW,↓aD,seval,ig,Z.H,aY.cells]
  refine⟨rfl,aq (hW.1 r 8 hr (by omega) (by omega) hn) ?_⟩
  try simp only[I,B,D,RX,aB,aC,aE,↓KW,↓aD,seval,aY.cells,hsum]
  refine gM (h1.1 _) rfl rfl rfl ?_;try simp only[I,B,D,RX,aB,aC,aE,↓KW,↓aD,seval,aY.cells]
 ·have hR:gG r=(0,r.fail 2 r.len):=by simp[gG,hn]
  rw[hR]
  refine ie hm hc (by show 1<=15;decide) rfl (by simp) (ic (keep:=[]) ?_)
  try simp only[I,B,D,RX,aB,aC,aE,↓KW,↓aD,seval,ig,Z.H,aY.cells]
  refine⟨rfl,aA (hW.2 r 8 hr hn) ?_⟩;try simp only[I,B,D,RX,aB,aC,aE,↓KW,↓aD,seval,aY.cells]
  refine fZ rfl (gM (h1.2 _ _) rfl rfl rfl ?_);try simp only[I,B,D,RX,aB,aC,aE,↓KW,↓aD,seval,aY.cells]
theorem yd.ok{fN:Nat} (hc:dY P f=some (lq fN)) (hN:AX.Spec (Pure P) fN):yd.Spec (Pure P) f:=by
 intro r hr
 refine fK hm hc (by show 1<=6;decide) rfl (by simp) (ay (keep:=[]) (i:=0) ?_)
 try simp only[I,B,D,RX,aB,aC,aE,↓KW,↓aD,seval,lq,Z.H,aY.cells]
 refine⟨rfl,bg (hN r 1 0 1 hr) ?_⟩;try simp only[I,B,D,RX,aB,aC,aE,↓KW,↓aD,seval,aY.cells]
 exact⟨rfl,rfl⟩
end
def ye.Spec(C:bt) (f:Nat):Prop:=∀b:Option (List Int),(b.getD []).length<=1000000->C.c f [aJ gP b] (aJ gP b) none
def Cl.Spec(C:bt) (f:Nat):Prop:=∀b:Option (List Int),(b.getD []).length<=1000000->C.n f [aJ gP b] (aY.cells ⟨b,0,0,0⟩)
def mD(n:Int) (k:Nat):Int:=IntKind.u8.wrap (n.fdiv (2^(8*k)))
def mJ(n:Int):Nat->List Int
 |0=>[]
 |k+1=>mD n k::mJ n k
def DD(l:List Int) (size n:Int):List Int:=l++mJ n (kU size 0 8).toNat
theorem Ui{n:Int} (h1:0<=n) (h2:n<=1000000000):IntKind.u64.wrap n=n:=by
 simp only[IntKind.wrap,IntKind.bits,IntKind.signed];simp;omega
theorem eP(n:Int):∀k,(mJ n k).length=k
 |0=>rfl
 |k+1=>by simp[mJ,eP n k]
section
variable{P:Program} (hm:P.follows .mixedOrders=true) {f:Nat}
include hm
theorem ye.ok{e:Nat} (hc:dY P f=some (dG e)):ye.Spec (Pure P) f:=by
 intro b hb
 cases b with
 |none=>
  refine aH hm hc (by show 1<=8;decide) (ay (keep:=[]) (i:=0) ?_)
  try simp only[I,B,D,RX,aB,aC,aE,↓KW,↓aD,seval,dG,Z.H,aJ]
 |some l=>
  refine aH hm hc (by show 1<=8;decide) (ay (keep:=[]) (i:=0) ?_)
  try simp only[I,B,D,RX,aB,aC,aE,↓KW,↓aD,seval,dG,Z.H,aJ]
  refine⟨by simp at hb;omega,fun _ _=>rfl⟩
theorem Cl.ok{fC:Nat} (hc:dY P f=some (vO fC)) (hC:ye.Spec (Pure P) fC):Cl.Spec (Pure P) f:=by
 intro b hb
 refine Im hm hc (by show 1<=7;decide) (ay (keep:=[]) (i:=0) ?_)
 try simp only[I,B,D,RX,aB,aC,aE,↓KW,↓aD,seval,vO,Z.H,List.map_cons,List.map_nil]
 refine aj (hC b hb) ?_;try simp only[I,B,D,RX,aB,aC,aE,↓KW,↓aD,seval,aY.cells]
 cases b with
 |none=>
  try simp only[I,B,D,RX,aB,aC,aE,↓KW,↓aD,seval,aJ]
  exact⟨by decide,rfl⟩
 |some l=>
  try simp only[I,B,D,RX,aB,aC,aE,↓KW,↓aD,seval,aJ]
  exact⟨by decide,rfl⟩
def DE.Spec(C:bt) (f:Nat):Prop:=∀(b:Option (List Int)) (size n:Int),(b.getD []).length<=1000000->C.c f [aJ gP b,I size,I n] (.sl ((DD (b.getD []) size n).map gP)) none
theorem DE.ok{e:Nat} (hc:gB true P f=some (qB e)):DE.Spec (Pure P) f:=by
 intro b size n hb
 have hm8:(if 8<(if 0>size then 0 else size)then 8 else(if 0>size then 0 else size))=kU size 0 8:=by
  unfold kU;split<;>split<;>(try split)<;>omega
 obtain⟨K,hK,hK8⟩:∃K:Nat,kU size 0 8=(K:Int)/\K<=8:=⟨(kU size 0 8).toNat,by unfold kU;split<;>(try split)<;>omega,by unfold kU;split<;>(try split)<;>omega⟩
 have hpl:DD (b.getD []) size n=b.getD []++mJ n K:=by simp[DD,hK]
 rw[hpl];rw[hK]at hm8
 obtain⟨l,hl⟩:∃l,l=b.getD []:=⟨_,rfl⟩
 have hsum:IntKind.i64.wrap ((l.length:Int)+K)=((l.length+K:Nat):Int):=by rw[lA (by omega) (by rw[hl];omega)];simp
 rw[<-hl]at hb⊢
 refine aH hm hc (by show 3<=37;decide) (ay (keep:=[]) (i:=0) ?_)
 try simp only[I,B,D,RX,aB,aC,aE,↓KW,↓aD,seval,qB,Z.H,hm8,<-hl,hsum]
 refine⟨⟨by omega,by omega,by omega⟩,fun _ _=>rfl,?_⟩
 refine aP (fun x:Nat×List Int=>(⟨[(8,.dat (I ((x.1:Int)-1)) none),(7,.dat (.sl ((l++x.2).map gP)) (some 0)),(2,.dat (I n) none)],[],[(0,e)],400⟩:S)) (fun x=>x.1) (fun x=>x.1<=K/\x.2++mJ n x.1=mJ n K) ?_ (K,[]) ⟨by omega,rfl⟩ ?_
 ·intro x hx A back
  obtain⟨j,G⟩:=x
  have hj:j<=K:=hx.1
  have hD:G++mJ n j=mJ n K:=hx.2
  clear hx
  have hdl:G.length+j=K:=by have:=congrArg List.length hD;simpa[eP]using this
  try simp only[I,B,D,RX,aB,aC,aE,↓KW,↓aD,seval]
  refine ax (fun h=>?_) (fun h=>?_)<;>try simp only[I,B,D,RX,aB,aC,aE,↓KW,↓aD,seval,h]
  ·obtain⟨m,rfl⟩:∃m,j=m+1:=⟨j-1,by have:=of_decide_eq_true h;omega⟩
   have e1:((m+1:Nat):Int)-1=(m:Int):=by omega
   have e2:IntKind.i64.wrap (8*(m:Int))=8*(m:Int):=lA (by omega) (by omega)
   have e3:(8*(m:Int)).toNat=8*m:=by omega
   have e4:IntKind.i64.wrap ((m:Int)-1)=(m:Int)-1:=lA (by omega) (by omega)
   have hmin:min (8*(m:Int)).toNat IntKind.i64.bits=8*m:=by
    show min (8*(m:Int)).toNat 64=8*m
    omega
   try simp only[I,B,D,RX,aB,aC,aE,↓KW,↓aD,seval,e1,e2]
   refine⟨by omega,by first|omega|(simp;omega),fun _ _=>rfl,?_⟩
   refine back (m,G++[mD n m]) _ ⟨by show m<=K;omega,by show G++[mD n m]++mJ n m=_;rw[<-hD];simp[mJ]⟩ (by show m<m+1;omega) ?_
   refine ai (by decide) ?_ ?_ ?_ ?_<;>simp[LX,I,B,D,e4,hmin,mD,gP]
  ·have:j=0:=by have:=of_decide_eq_false h;omega
   subst this;try simp only[I,B,D,RX,aB,aC,aE,↓KW,↓aD,seval]
   have hD:G++[]=mJ n K:=hD
   rw[List.append_nil]at hD;rw[hD]
 ·have e4:IntKind.i64.wrap ((K:Int)-1)=(K:Int)-1:=lA (by omega) (by omega)
  refine ai (by decide) ?_ ?_ ?_ ?_<;>simp[LX,I,B,D,e4]
def Cm.Spec(C:bt) (f:Nat):Prop:=∀(b:Option (List Int)) (x:Nat),(b.getD []).length<=1000000->C.c f [aJ gP b,Fl x] (.sl ((DD (b.getD []) 8 (IntKind.i64.wrap x)).map gP)) none
theorem Cm.ok{fP:Nat} (hc:dY P f=some (nZ fP)) (hP:DE.Spec (Pure P) fP):Cm.Spec (Pure P) f:=by
 intro b x hb
 refine aH hm hc (by show 2<=10;decide) (ay (keep:=[]) (i:=0) ?_)
 try simp only[I,B,D,RX,aB,aC,aE,↓KW,↓aD,seval,nZ,Z.H,JB]
 refine aj (hP b 8 _ hb) ?_;try simp only[I,B,D,RX,aB,aC,aE,↓KW,↓aD,seval]
def zK.Spec(C:bt) (f:Nat):Prop:=∀a b:Option (List Int),(a.getD []).length<=1000000000->C.c f [aJ gP a,aJ gP b] (B ((a.getD [])==(b.getD []))) none
theorem zK.ok(hc:dY P f=some mC):zK.Spec (Pure P) f:=by
 intro a b ha
 obtain⟨l,hl⟩:∃l,l=a.getD []:=⟨_,rfl⟩
 obtain⟨m,hm'⟩:∃m,m=b.getD []:=⟨_,rfl⟩
 rw[<-hl]at ha⊢;rw[<-hm']
 refine aH hm hc (by show 2<=26;decide) (ay (keep:=[]) (i:=0) ?_)
 try simp only[I,B,D,RX,aB,aC,aE,↓KW,↓aD,seval,mC,Z.H,<-hl,<-hm']
 refine ax (fun h=>?_) (fun h=>?_)<;>try simp only[I,B,D,RX,aB,aC,aE,↓KW,↓aD,seval,h]
 ·have h:¬l.length=m.length:=by simp only[bne_iff_ne,ne_eq]at h;omega
  have:(l==m)=false:=by rw[beq_eq_false_iff_ne];intro e;exact h (by rw[e])
  simp[this]
 ·have h:l.length=m.length:=by simp at h;omega
  refine aP (fun i:Nat=>(⟨[(5,.dat (I i) none),(0,.dat (aJ gP a) none),(1,.dat (aJ gP b) none)],[],[],400⟩:S)) (fun i=>l.length-i) (fun i=>i<=l.length/\l.take i=m.take i) ?_ 0 ⟨by omega,rfl⟩ ?_
  ·intro i hi A back
   obtain⟨hi,ht⟩:=hi;try simp only[I,B,D,RX,aB,aC,aE,↓KW,↓aD,seval,<-hl,<-hm']
   refine ax (fun h2=>?_) (fun h2=>?_)<;>try simp only[I,B,D,RX,aB,aC,aE,↓KW,↓aD,seval,h2]
   ·have h3:i<l.length:=by have:=of_decide_eq_true h2;omega
    obtain⟨x,hx⟩:∃x,l[i]? =some x:=⟨l[i],by simp[h3]⟩
    obtain⟨y,hy⟩:∃y,m[i]? =some y:=⟨m[i]'(by omega),by simp[show i<m.length by omega]⟩
    have hw:=aN (k:=i) (by omega)
    refine⟨⟨by omega,by first|omega|(rw[<-hl];omega)⟩,?_⟩
    try simp only[I,B,D,RX,aB,aC,aE,↓KW,↓aD,seval,<-hl,<-hm',hx,gP]
    refine⟨⟨by omega,by first|omega|(rw[<-hm'];omega)⟩,?_⟩
    try simp only[I,B,D,RX,aB,aC,aE,↓KW,↓aD,seval,<-hl,<-hm',hy,gP]
    refine ax (fun h4=>?_) (fun h4=>?_)<;>try simp only[I,B,D,RX,aB,aC,aE,↓KW,↓aD,seval,h4]
    ·have hne:¬x=y:=by simpa using h4
     have:(l==m)=false:=by rw[beq_eq_false_iff_ne];intro e;rw[e]at hx;rw[hx]at hy;exact hne (Option.some.inj hy)
     rw[this]
    ·have hxy:x=y:=by simpa using h4
     refine back (i+1) _ ⟨by omega,by rw[List.take_add_one,List.take_add_one,ht,hx,hy,hxy]⟩ (by omega) ?_
     refine ai (by decide) ?_ ?_ ?_ ?_<;>simp[LX,I,B,D,hw]
   ·have:i=l.length:=by have:=of_decide_eq_false h2;omega
    have:(l==m)=true:=by rw[beq_iff_eq];rw[this,List.take_length,h,List.take_length]at ht;exact ht
    rw[this]
  ·refine ai (by decide) ?_ ?_ ?_ ?_<;>simp[LX,I,B,D]
end
section
variable{P:Program} (hm:P.follows .mixedOrders=true) {f:Nat}
include hm
def Wf.Spec(C:bt) (f:Nat):Prop:=∀(r:aY) (size lo hi:Int),r.Ok->C.p f [r.cells] [none,some (I size),some (I lo),some (I hi)] (I (eW r size lo hi).1) none [(eW r size lo hi).2.cells]
def P2.Spec(C:bt) (f:Nat):Prop:=∀r:aY,r.Ok->C.p f [r.cells] [none] (Fl (gG r).1) none [(gG r).2.cells]
def Uj.Spec(C:bt) (f:Nat):Prop:=∀r:aY,r.Ok->C.p f [r.cells] [none] (B (y8 r).1) none [(y8 r).2.cells]
end
theorem AY{r:aY} (h:r.Ok) (c a:Int):(r.fail c a).Ok/\(r.fail c a).b=r.b:=by
 unfold aY.fail;split
 ·exact⟨h,rfl⟩
 ·exact⟨h,rfl⟩
theorem Wg(n:Int):0<=kU n 0 7/\kU n 0 7<=7:=by unfold kU;split<;>(try split)<;>omega
theorem wG{r:aY} (h:r.Ok) (size lo hi:Int):(eW r size lo hi).2.Ok/\(eW r size lo hi).2.b=r.b:=by
 have hk:=Wg size
 unfold eW;simp only;split
 ·exact AY h _ _
 ·rename_i hn
  split
  ·exact AY h _ _
  ·obtain⟨h1,h2,h3⟩:=h
   refine⟨⟨?_,?_,h3⟩,rfl⟩
   ·show 0<=r.fm+_;omega
   ·show r.fm+_<=r.len;simp at hn;omega
theorem uj{r:aY} (h:r.Ok):(gG r).2.Ok/\(gG r).2.b=r.b:=by
 unfold gG;split
 ·exact AY h _ _
 ·rename_i hn
  obtain⟨h1,h2,h3⟩:=h;refine⟨⟨?_,?_,h3⟩,rfl⟩
  ·show 0<=r.fm+_;omega
  ·show r.fm+_<=r.len;simp at hn;omega
theorem ED{r:aY} (h:r.Ok):(y8 r).2.Ok/\(y8 r).2.b=r.b:=wG h 1 0 1
theorem DG{b:Option (List Int)} (h:(b.getD []).length<=1000000):(aY.mk b 0 0 0).Ok:=⟨by simp,by simp[aY.len],by simp only[aY.len];omega⟩
theorem Uk{α:Type} (f:α->List AV) (b:Option (List α)) (off:Nat) (ps:List (Nat×List AV)):En off 1 (some (aJ f b)) (some ps)=some ((off,[aJ f b])::ps):=by cases b<;>rfl
theorem rB(a b:Int):cO [.i,.i] [.int .i64 a,.int .i64 b] [.int .i64 a,.int .i64 b]=some true:=by simp[cO,sC]
def wH.Spec(C:bt) (f:Nat):Prop:=C.c f [] (B true) none
section
variable{P:Program} (hm:P.follows .mixedOrders=true) {f:Nat}
include hm
theorem wH.ok{e fN fU fA fP:Nat} (hc:gB true P f=some (qA e fN fU fA fP)) (hN:Cl.Spec (Pure P) fN) (hU:AX.Spec (Pure P) fU) (hA:L8.Spec (Pure P) fA) (hP:DE.Spec (Pure P) fP):wH.Spec (Pure P) f:=by
 have hn:eW ⟨some [1,2],0,0,0⟩ 2 0 300=(258,⟨some [1,2],2,0,0⟩):=by rfl
 have h1:=hU ⟨some [1,2],0,0,0⟩ 2 0 300 (DG (by simp))
 rw[hn]at h1
 refine aH hm hc (by show 0<=21;decide) (ay (keep:=[]) (i:=0) ?_)
 try simp only[I,B,D,RX,aB,aC,aE,↓KW,↓aD,seval,qA,Z.H]
 refine jy (hN (some [1,2]) (by simp)) ?_
 try simp only[I,B,D,RX,aB,aC,aE,↓KW,↓aD,seval,aY.cells]
 refine⟨rfl,aq (h1) ?_⟩;try simp only[I,B,D,RX,aB,aC,aE,↓KW,↓aD,seval,aY.cells]
 refine⟨rfl,aq (hA ⟨some [1,2],2,0,0⟩) ?_⟩;try simp only[I,B,D,RX,aB,aC,aE,↓KW,↓aD,seval,aY.cells]
 refine cA (hP none 2 258 (by simp)) ?_
 try simp only[I,B,D,RX,aB,aC,aE,↓KW,↓aD,seval]
 rfl
structure WJ where
 kind:Int
 size:Int
 low:Int
 high:Int
def Ul(d:WJ):List AV:=[I d.kind,I d.size,I d.low,I d.high]
def zL.Spec(C:bt) (f:Nat):Prop:=∀(b:Option (List Int)) (l:Option (List WJ)),C.c f [aJ gP b,aJ Ul l] (B true) none
theorem zL.ok{fW fN f1 f2 f3 f4 fA f5 f6 f7 f8 f9:Nat} (hc:gB true P f=some (mB fW fN f1 f2 f3 f4 fA f5 f6 f7 f8 f9)) (hW:wH.Spec (Pure P) fW) (hN:Cl.Spec (Pure P) fN)
  (h1:AX.Spec (Pure P) f1) (h2:Wf.Spec (Pure P) f2) (h3:tj.Spec (Pure P) f3) (h4:P2.Spec (Pure P) f4) (hA:Pe.Spec (Pure P) fA) (h5:yd.Spec (Pure P) f5) (h6:Uj.Spec (Pure P) f6) (h7:L8.Spec (Pure P) f7) (h8:vP.Spec (Pure P) f8) (h9:th.Spec (Pure P) f9):zL.Spec (Pure P) f:=by
 intro b l
 refine aH hm hc (by show 2<=114;decide) (ay (keep:=[]) (i:=0) ?_)
 try simp only[I,B,D,RX,aB,aC,aE,↓KW,↓aD,seval,mB,Z.H]
 refine bz (fun h=>?_) (fun h=>?_)
 ·try simp only[I,B,D,RX,aB,aC,aE,↓KW,↓aD,seval,h]
  refine cA (hW) ?_;try simp only[I,B,D,RX,aB,aC,aE,↓KW,↓aD,seval]
 ·try simp only[I,B,D,RX,aB,aC,aE,↓KW,↓aD,seval,h]
  refine ax (fun h'=>?_) (fun h'=>?_)<;>try simp only[I,B,D,RX,aB,aC,aE,↓KW,↓aD,seval,h']
  ·refine cA (hW) ?_
   try simp only[I,B,D,RX,aB,aC,aE,↓KW,↓aD,seval]
  ·have hb:(b.getD []).length<=200:=by have:=of_decide_eq_false h;omega
   have hl:(l.getD []).length<=40:=by have:=of_decide_eq_false h';omega
   obtain⟨L,hL⟩:∃L,L=l.getD []:=⟨_,rfl⟩
   rw[<-hL]at hl
   refine jy (hN b (by omega)) ?_
   try simp only[I,B,D,RX,aB,aC,aE,↓KW,↓aD,seval,aY.cells,Uk]
   refine aP (fun x:Nat×aY=>(⟨[(7,.dat (I x.1) none),(0,.dat (aJ gP b) none),(1,.dat (aJ Ul l) none),(5,.ptr 14 0),(6,.ptr 18 0)],[(18,⟨x.2.cells,[]⟩),(14,⟨x.2.cells,[]⟩)],[],400⟩:S)) (fun x=>L.length-x.1) (fun x=>x.1<=L.length/\x.2.Ok/\x.2.b=b) ?_ (0,⟨b,0,0,0⟩) ⟨by omega,DG (by omega),rfl⟩ ?_
   ·intro x hx A back
    obtain⟨i,r⟩:=x
    have hi:i<=L.length:=hx.1
    have hr:r.Ok:=hx.2.1
    have hrb:r.b=b:=hx.2.2
    clear hx;try simp only[I,B,D,RX,aB,aC,aE,↓KW,↓aD,seval,<-hL]
    refine ax (fun h10=>?_) (fun h10=>?_)<;>try simp only[I,B,D,RX,aB,aC,aE,↓KW,↓aD,seval,h10]
    ·have hi2:i<L.length:=by have:=of_decide_eq_true h10;omega
     obtain⟨d,hd⟩:∃d,L[i]? =some d:=⟨L[i],by simp[hi2]⟩
     have hb0:0<=(i:Int):=by omega
     have hb1:(i:Int)<(L.length:Int):=by omega
     have hw:=aN (k:=i) (by omega)
     try simp only[I,B,D,RX,aB,aC,aE,↓KW,↓aD,seval,hb0,hb1,<-hL,hd,Ul]
     refine ax (fun h11=>?_) (fun h11=>?_)<;>try simp only[I,B,D,RX,aB,aC,aE,↓KW,↓aD,seval,h11]
     ·obtain⟨r2,hr2e⟩:∃r2,r2=(eW r d.size d.low d.high).2:=⟨_,rfl⟩
      have hr2:r2.Ok:=by rw[hr2e];exact(wG hr _ _ _).1
      have hrb2:r2.b=b:=by rw[hr2e,(wG hr _ _ _).2,hrb]
      refine BZ rfl ?_;try simp only[I,B,D,RX,aB,aC,aE,↓KW,↓aD,seval,hb0,hb1,<-hL,hd,Ul]
      refine⟨rfl,bg (h1 r d.size d.low d.high hr) ?_⟩;try simp only[I,B,D,RX,aB,aC,aE,↓KW,↓aD,seval,hb0,hb1,<-hL,hd,Ul,<-hr2e]
      refine⟨rfl,bg (h2 r d.size d.low d.high hr) ?_⟩;try simp only[I,B,D,RX,aB,aC,aE,↓KW,↓aD,seval,bne_self_eq_false,<-hr2e]
      have hw2:IntKind.i64.wrap (((b.getD []).length:Int)-r2.fm)=r2.len-r2.fm:=by
       have e:((b.getD []).length:Int)=r2.len:=by rw[<-hrb2];rfl
       obtain⟨k1,k2,k3⟩:=hr2
       rw[e];exact lA (by omega) (by omega)
      refine HC [1,9,21] rfl ?_;try simp only[I,B,D,RX,aB,aC,aE,↓KW,↓aD,seval,aY.cells]
      refine⟨rfl,jJ (h7 r2) ?_⟩;try simp only[I,B,D,RX,aB,aC,aE,↓KW,↓aD,seval,aY.cells,bne_self_eq_false]
      refine⟨rfl,jJ (h8 r2 hr2) ?_⟩;try simp only[I,B,D,RX,aB,aC,aE,↓KW,↓aD,seval,aY.cells,bne_self_eq_false,hw2]
      refine⟨rfl,jJ (h9 r2) ?_⟩;try simp only[I,B,D,RX,aB,aC,aE,↓KW,↓aD,seval,aY.cells,aY.fault,bne_self_eq_false,hw2,rB]
      refine back (i+1,r2) _ ⟨by show i+1<=L.length;omega,hr2,hrb2⟩ (by show L.length-(i+1)<L.length-i;omega) ?_
      refine ai (by decide) ?_ ?_ ?_ ?_<;>simp[LX,I,B,D,hw,aY.cells]
     ·try simp only[I,B,D,RX,aB,aC,aE,↓KW,↓aD,seval]
      refine ax (fun h12=>?_) (fun h12=>?_)<;>try simp only[I,B,D,RX,aB,aC,aE,↓KW,↓aD,seval,h12]
      ·obtain⟨r2,hr2e⟩:∃r2,r2=(gG r).2:=⟨_,rfl⟩
       have hr2:r2.Ok:=by rw[hr2e];exact(uj hr).1
       have hrb2:r2.b=b:=by rw[hr2e,(uj hr).2,hrb]
       refine⟨rfl,aq (h3 r hr) ?_⟩;try simp only[I,B,D,RX,aB,aC,aE,↓KW,↓aD,seval,<-hr2e]
       refine⟨rfl,aq (h4 r hr) ?_⟩;try simp only[I,B,D,RX,aB,aC,aE,↓KW,↓aD,seval,<-hr2e]
       refine cA (hA _ _) ?_;try simp only[I,B,D,RX,aB,aC,aE,↓KW,↓aD,seval,Dz,<-hr2e]
       have hw2:IntKind.i64.wrap (((b.getD []).length:Int)-r2.fm)=r2.len-r2.fm:=by
        have e:((b.getD []).length:Int)=r2.len:=by rw[<-hrb2];rfl
        obtain⟨k1,k2,k3⟩:=hr2
        rw[e];exact lA (by omega) (by omega)
       refine HC [1,9,21] rfl ?_;try simp only[I,B,D,RX,aB,aC,aE,↓KW,↓aD,seval,aY.cells]
       refine⟨rfl,jJ (h7 r2) ?_⟩;try simp only[I,B,D,RX,aB,aC,aE,↓KW,↓aD,seval,aY.cells,bne_self_eq_false]
       refine⟨rfl,jJ (h8 r2 hr2) ?_⟩;try simp only[I,B,D,RX,aB,aC,aE,↓KW,↓aD,seval,aY.cells,bne_self_eq_false,hw2]
       refine⟨rfl,jJ (h9 r2) ?_⟩;try simp only[I,B,D,RX,aB,aC,aE,↓KW,↓aD,seval,aY.cells,aY.fault,bne_self_eq_false,hw2,rB]
       refine back (i+1,r2) _ ⟨by show i+1<=L.length;omega,hr2,hrb2⟩ (by show L.length-(i+1)<L.length-i;omega) ?_
       refine ai (by decide) ?_ ?_ ?_ ?_<;>simp[LX,I,B,D,hw,aY.cells]
      ·obtain⟨r2,hr2e⟩:∃r2,r2=(y8 r).2:=⟨_,rfl⟩
       have hr2:r2.Ok:=by rw[hr2e];exact(ED hr).1
       have hrb2:r2.b=b:=by rw[hr2e,(ED hr).2,hrb]
       refine⟨rfl,aq (h5 r hr) ?_⟩;try simp only[I,B,D,RX,aB,aC,aE,↓KW,↓aD,seval,<-hr2e]
       refine⟨rfl,aq (h6 r hr) ?_⟩;try simp only[I,B,D,RX,aB,aC,aE,↓KW,↓aD,seval,<-hr2e,bne_self_eq_false]
       have hw2:IntKind.i64.wrap (((b.getD []).length:Int)-r2.fm)=r2.len-r2.fm:=by
        have e:((b.getD []).length:Int)=r2.len:=by rw[<-hrb2];rfl
        obtain⟨k1,k2,k3⟩:=hr2
        rw[e];exact lA (by omega) (by omega)
       refine HC [1,9,21] rfl ?_;try simp only[I,B,D,RX,aB,aC,aE,↓KW,↓aD,seval,aY.cells]
       refine⟨rfl,jJ (h7 r2) ?_⟩;try simp only[I,B,D,RX,aB,aC,aE,↓KW,↓aD,seval,aY.cells,bne_self_eq_false]
       refine⟨rfl,jJ (h8 r2 hr2) ?_⟩;try simp only[I,B,D,RX,aB,aC,aE,↓KW,↓aD,seval,aY.cells,bne_self_eq_false,hw2]
       refine⟨rfl,jJ (h9 r2) ?_⟩;try simp only[I,B,D,RX,aB,aC,aE,↓KW,↓aD,seval,aY.cells,aY.fault,bne_self_eq_false,hw2,rB]
       refine back (i+1,r2) _ ⟨by show i+1<=L.length;omega,hr2,hrb2⟩ (by show L.length-(i+1)<L.length-i;omega) ?_
       refine ai (by decide) ?_ ?_ ?_ ?_<;>simp[LX,I,B,D,hw,aY.cells]
    ·refine cA (hW) ?_
     try simp only[I,B,D,RX,aB,aC,aE,↓KW,↓aD,seval]
   ·refine ai (by decide) ?_ ?_ ?_ ?_<;>simp[LX,I,B,D,aY.cells]
end
end Go.Eng
