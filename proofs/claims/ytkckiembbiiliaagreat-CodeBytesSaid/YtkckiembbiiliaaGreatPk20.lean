/- The engine and the library,part 20 of 21: what the proofs of this seat need of them. -/
import Derived.Test.YtkckiembbiiliaaGreatPk19
set_option linter.unnecessarySimpa false
set_option linter.unusedSimpArgs false
set_option linter.unusedVariables false
set_option linter.defProp false
set_option maxRecDepth 10000
set_option maxHeartbeats 4000000
namespace Go.Eng
open Go
theorem Aa(l:List Int):0<=ki l/\ki l<=2147483647:=by
 rcases List.eq_nil_or_concat l with rfl|⟨l',x,rfl⟩
 ·exact⟨by decide,by decide⟩
 ·rw[ki,List.concat_eq_append,List.foldl_append];exact ng _
theorem DZ(t:Tb) (p:Int):0<=qa t p/\qa t p<=2147483647:=by
 unfold qa;split
 ·exact Aa _
 ·exact⟨by decide,by decide⟩
theorem D0(t:Tb) (p:Int):0<=lX t p/\lX t p<=2147483647:=by
 unfold lX;split
 ·exact DZ _ _
 ·exact Aa _
theorem xI(t:Tb):∀k,0<=kD t k/\kD t k<=2147483647
 |0=>⟨by simp[kD],by simp[kD]⟩
 |k+1=>by
  have:=xI t k
  have h2:=D0 t k
  rw[kD];split<;>omega
theorem Ab(l:Option (List Int)) (G:Nat) (hG:G<=8):∀g,g<=G->∀gr∈(bD l G g).1,∀x∈gr.a.getD []++gr.b.getD [],0<=x/\x<8
 |0,_,gr,h=>by simp[bD]at h
 |g+1,hg,gr,h=>by
  obtain⟨gr',m,h1,h2,h3,h4⟩:=E6 l G hG (g:=g) (by omega)
  rw[h2]at h
  rcases List.mem_append.1 h with h|h
  ·exact Ab l G hG g (by omega) gr h
  ·rw[List.mem_singleton]at h;subst h
   intro x hx;rw[h4,dY,List.mem_map]at hx;obtain⟨j,hj,rfl⟩:=hx
   have:=sE l G (g+1)
   have:=List.mem_range.1 hj
   omega
theorem Cw:∀(k i:Nat),k<=8->i<8->(uk k).getD i 0=if i<k then 1 else 0
 |0,i,_,hi=>by rw[uk,List.getD_eq_getElem?_getD,List.getElem?_replicate,if_pos hi,if_neg (by omega)];rfl
 |k+1,i,hk,hi=>by
  have ih:=Cw k i (by omega) hi
  rw[uk,List.getD_eq_getElem?_getD,List.getElem?_set]
  by_cases e:k=i
  ·subst e
   rw[if_pos rfl,if_pos (by rw[kn];omega),if_pos (by omega)];rfl
  ·rw[if_neg e,<-List.getD_eq_getElem?_getD,ih]
   by_cases h2:i<k
   ·rw[if_pos h2,if_pos (by omega)]
   ·rw[if_neg h2,if_neg (by omega)]
theorem Xy(l:Option (List Int)):∃q:Nat,∀p,p<8->NB (bu l) p=if q<nT l/\p=q then 2 else if p<nT l then 1 else 0:=by
 have r:=aS l 174 (n:=((bU l).2:Int)+1) (by omega) (by have:=wJ l;omega)
 refine⟨(bV l 174 (((bU l).2:Int)+1)).toNat,fun p hp=>?_⟩
 have hn:=(lN l).2
 have e:(bu l).bp=if bV l 174 (((bU l).2:Int)+1)<((bU l).2:Int)then(uk (bU l).2).set (bV l 174 (((bU l).2:Int)+1)).toNat 2 else uk (bU l).2:=rfl
 have hnT:nT l=(bU l).2:=rfl
 rw[NB,e,hnT];rw[hnT]at hn;generalize(bU l).2=n at*;generalize bV l 174 ((n:Int)+1)=q at*;split
 ·rename_i hq
  rw[List.getD_eq_getElem?_getD,List.getElem?_set]
  by_cases e2:q.toNat=p
  ·rw[if_pos e2,if_pos (by rw[kn];omega),if_pos ⟨by omega,e2.symm⟩];rfl
  ·have:¬(q.toNat<n/\p=q.toNat):=fun h=>e2 h.2.symm
   rw[if_neg e2,<-List.getD_eq_getElem?_getD,Cw _ _ hn hp];simp only[this,if_false]
 ·rename_i hq
  have:¬(q.toNat<n/\p=q.toNat):=by omega
  rw[Cw _ _ hn hp];simp only[this,if_false]
theorem ND{t:Tb} {l:Option (List Int)}:∀p,∀x∈gD t l p,Can x:=by
 have step:∀(p q:Nat) (c:List Int),(∀x∈c,Can x)->∀x∈gC t l p q c,Can x:=by
  intro p q c h x hx;unfold gC at hx;split at hx
  ·rcases List.mem_or_eq_of_mem_set hx with hx|rfl
   ·rcases List.mem_or_eq_of_mem_set hx with hx|rfl
    ·exact h x hx
    ·exact wR _ _
   ·exact wR _ _
  ·exact h x hx
 have row:∀(p q:Nat) (c:List Int),(∀x∈c,Can x)->∀x∈jF t l p q c,Can x:=by
  intro p q
  induction q with
  |zero=>intro c h;exact h
  |succ q ih=>intro c h;exact step p q _ (ih c h)
 intro p
 induction p with
 |zero=>
  intro x hx;rw[gD]at hx
  have:=List.eq_of_mem_replicate hx
  subst this;exact⟨by decide,by decide⟩
 |succ p ih=>exact row p p _ ih
theorem wS{x:Int} (h:Can x):wI 255 x=true:=by
 simp only[wI,Bool.and_eq_true,decide_eq_true_eq]
 exact⟨h.1,by have:=h.2;omega⟩
theorem D1{x:Ph} (h:KB x):rG x=true:=by
 obtain⟨a1,a2,a3,a4,a5,a6,a7,a8,a9,_⟩:=h;simp only[rG,List.all_cons,List.all_nil,Bool.and_true,wI,Bool.and_eq_true,decide_eq_true_eq];omega
structure KC (n:Nat) (d:fy):Prop where
 phase:0<=d.phase/\d.phase<n
 may:lvl d.on=true/\lvl d.off=true/\eJ d.delay=true/\eJ d.extend=true
 most:0<=d.maxOn/\d.maxOn<=80/\0<=d.iF/\d.iF<=360
 order:Jj d.off d.on=false
theorem NF(l:Option (List Int)) (i:Int) {n:Nat} (hn:1<=n) (h8:n<=8):KC n (jL l i n):=by
 have r0:=aS l i (n:=(n:Int)) (by omega) (by omega)
 have r1:=aS l (cv (i+1)) (n:=4) (by decide) (by decide)
 have r2:=aS l (cv (i+2)) (n:=3) (by decide) (by decide)
 have r3:=aS l (cv (i+3)) (n:=4) (by decide) (by decide)
 have r4:=aS l (cv (i+4)) (n:=6) (by decide) (by decide)
 have r6:=aS l (cv (i+6)) (n:=60) (by decide) (by decide)
 have r7:=aS l (cv (i+7)) (n:=300) (by decide) (by decide)
 obtain⟨a,ha⟩:∃m:Nat,bV l (cv (i+1)) 4=m:=⟨(bV l (cv (i+1)) 4).toNat,by omega⟩
 obtain⟨b,hb⟩:∃m:Nat,bV l (cv (i+2)) 3=m:=⟨(bV l (cv (i+2)) 3).toNat,by omega⟩
 obtain⟨c,hc⟩:∃m:Nat,bV l (cv (i+3)) 4=m:=⟨(bV l (cv (i+3)) 4).toNat,by omega⟩
 obtain⟨d,hd⟩:∃m:Nat,bV l (cv (i+4)) 6=m:=⟨(bV l (cv (i+4)) 6).toNat,by omega⟩
 have k1:∀a:Nat,a<4->lvl (xB a)=true:=by decide+kernel
 have k2:∀a:Nat,a<4->∀b:Nat,b<3->lvl (wD a b)=true/\Jj (wD a b) (xB a)=false:=by decide+kernel
 have k3:∀c:Nat,c<6->eJ (A8 c)=true:=by decide+kernel
 have e6:=gT (n:=20+bV l (cv (i+6)) 60) (by omega) (by omega)
 have e7:=gT (n:=60+bV l (cv (i+7)) 300) (by omega) (by omega)
 refine⟨r0,⟨?_,?_,?_,?_⟩,?_,?_⟩
 ·show lvl (xB _)=true;rw[ha];exact k1 a (by omega)
 ·show lvl (wD _ _)=true;rw[ha,hb];exact(k2 a (by omega) b (by omega)).1
 ·show eJ (A8 _)=true;rw[hc];exact k3 c (by omega)
 ·show eJ (A8 _)=true;rw[hd];exact k3 d (by omega)
 ·simp only[jL,e6,e7]
  split<;>split<;>omega
 ·show Jj (wD _ _) (xB _)=false;rw[ha,hb];exact(k2 a (by omega) b (by omega)).2
theorem VT(l:Option (List Int)):((bu l).az.getD []).length<=8/\∀d∈(bu l).az.getD [],KC (nT l) d:=by
 have e:(bu l).az=bf (l7 l (bU l).2 (bV l 175 9) (bV l 175 9).toNat):=rfl
 have r:=aS l 175 (n:=9) (by decide) (by decide)
 rw[e,cO]
 refine⟨by rw[wK];omega,fun d hd=>?_⟩
 rw[l7,List.mem_map]at hd;obtain⟨k,_,rfl⟩:=hd;exact NF _ _ (lN l).1 (lN l).2
theorem KD{p:Nat} (hp:p<8) (i:Nat):tb (N6 [(p:Int)]) i=decide (i=p):=by
 rw[Od]
 by_cases h:i=p
 ·subst h;simp[hp]
 ·have:¬(i:Int)=(p:Int):=by omega
  simp[h,this]
theorem Ac(t:Tb) {p q:Nat} (hp:p<8) (hq:q<8) (i:Nat):tb (l5 t p q) i=(decide (i=p)||(gw t p q&&decide (i=q))):=by
 unfold l5;cases gw t p q
 ·rw[if_neg (by simp),KD hp];simp
 ·rw[if_pos rfl,Kk hq,KD hp]
  by_cases h8:i<8
  ·simp[h8]
  ·have h1:¬i=p:=by omega
   have h2:¬i=q:=by omega
   simp[h8,h1,h2]
theorem Hu(t:Tb) (p q:Int):Can (l5 t p q):=by
 unfold l5;split
 ·exact wR _ _
 ·exact F7 _
theorem yb:∀n:Nat,n<9->1<=n->∀i:Nat,i<64->tb (cv (cv (1*2^min (IntKind.u64.wrap (n:Int)).toNat 64)-1)) i=decide (i<n):=by decide+kernel
def VU(t:Tb) (n:Nat) (s:Int):Prop:=Can s/\(∀i,i<8->tb s i=true->i<n)/\∀i j,i<8->j<8->tb s i=true->tb s j=true->i≠j->gw t i j=true
theorem vO{t t':Tb} (hg:t.groups=t'.groups) {n p q:Nat} (h8:n<=8) (hp:p<n) (hq:q<n):VU t n (l5 t' p q)/\l5 t' p q≠0:=by
 have hb:=Cv hg
 refine⟨⟨Hu _ _ _,fun i hi h=>?_,fun i j hi hj h1 h2 hne=>?_⟩,fun e=>?_⟩
 ·rw[Ac t' (by omega) (by omega)]at h
  simp only[Bool.or_eq_true,Bool.and_eq_true,decide_eq_true_eq]at h;omega
 ·rw[Ac t' (by omega) (by omega)]at h1 h2
  simp only[Bool.or_eq_true,Bool.and_eq_true,decide_eq_true_eq]at h1 h2;rw[hb]
  rcases h1 with rfl|⟨hb1,rfl⟩
  ·rcases h2 with rfl|⟨hb2,rfl⟩
   ·exact absurd rfl hne
   ·exact hb2
  ·rcases h2 with rfl|⟨hb2,rfl⟩
   ·rw[E5];exact hb1
   ·exact absurd rfl hne
 ·have:=Ac t' (p:=p) (q:=q) (by omega) (by omega) p
  rw[e,x3]at this;simp at this
theorem KE(t:Tb) (n:Nat):VU t n 0:=⟨⟨by decide,by decide⟩,(fun i _ h=>by rw[x3]at h;cases h),(fun i j _ _ h=>by rw[x3]at h;cases h)⟩
structure KH (t:Tb) (n:Nat) (r:Rl):Prop where
 bars:Can r.bars/\∀i,i<64->tb r.bars i=true->i<n/\tb r.iq i=false
 clear:VU t n r.clear
 iq:VU t n r.iq/\r.iq≠0
 exit:VU t n r.exit/\r.exit≠0
 hold:(1<=r.hold/\r.hold<=10/\r.clear≠0)\/(r.hold=0/\r.clear=0)
 Yl:0<=r.delay/\r.delay<=3/\1<=r.green/\r.green<=6/\0<=r.ke/\r.ke<=5/\1<=r.stay/\r.stay<=15
 most:r.most=0\/(r.stay<=r.most/\r.most<=44)
 limit:r.delay<r.limit/\r.limit<=10004
theorem NG{t t':Tb} (hg:t.groups=t'.groups) (l:Option (List Int)) (i:Int) {n:Nat} (hn:1<=n) (h8:n<=8):KH t n (od t' l i n):=by
 have nat:∀j:Int,∃m:Nat,bV l j (n:Int)=m/\m<n:=fun j=>by
  have:=aS l j (n:=(n:Int)) (by omega) (by omega)
  exact⟨(bV l j n).toNat,by omega,by omega⟩
 obtain⟨a0,e0,k0⟩:=nat i
 obtain⟨a1,e1,k1⟩:=nat (cv (i+1))
 obtain⟨a2,e2,k2⟩:=nat (cv (i+2))
 obtain⟨a3,e3,k3⟩:=nat (cv (i+3))
 obtain⟨a5,e5,k5⟩:=nat (cv (i+5))
 have en:cv ((n:Int)+1)=(n:Int)+1:=gT (by omega) (by omega)
 have r4:=aS l (cv (i+4)) (n:=(n:Int)+1) (by omega) (by omega)
 have r6:=aS l (cv (i+6)) (n:=10) (by decide) (by decide)
 have r7:=aS l (cv (i+7)) (n:=256) (by decide) (by decide)
 have r8:=aS l (cv (i+8)) (n:=4) (by decide) (by decide)
 have r9:=aS l (cv (i+9)) (n:=6) (by decide) (by decide)
 have ra:=aS l (cv (i+10)) (n:=6) (by decide) (by decide)
 have rb:=aS l (cv (i+11)) (n:=15) (by decide) (by decide)
 have rd:=aS l (cv (i+13)) (n:=30) (by decide) (by decide)
 have re:=aS l (cv (i+14)) (n:=3) (by decide) (by decide)
 have w6:=gT (n:=1+bV l (cv (i+6)) 10) (by omega) (by omega)
 have w9:=gT (n:=1+bV l (cv (i+9)) 6) (by omega) (by omega)
 have wb:=gT (n:=1+bV l (cv (i+11)) 15) (by omega) (by omega)
 have wd:=gT (n:=1+bV l (cv (i+11)) 15+bV l (cv (i+13)) 30) (by omega) (by omega)
 have w8:=gT (n:=bV l (cv (i+8)) 4+1) (by omega) (by omega)
 have hlim:∃v:Int,[10000,400,20].getD (bV l (cv (i+14)) 3).toNat 0=v/\20<=v/\v<=10000:=by
  have:(bV l (cv (i+14)) 3).toNat=0\/(bV l (cv (i+14)) 3).toNat=1\/(bV l (cv (i+14)) 3).toNat=2:=by omega
  rcases this with h|h|h<;>rw[h]
  ·exact⟨10000,rfl,by decide,by decide⟩
  ·exact⟨400,rfl,by decide,by decide⟩
  ·exact⟨20,rfl,by decide,by decide⟩
 obtain⟨v,hv,v1,v2⟩:=hlim
 have wl:=gT (n:=bV l (cv (i+8)) 4+1+v) (by omega) (by omega)
 have td:=vO hg h8 k0 k1
 have te:=vO hg h8 k2 k3
 refine⟨?_,?_,?_,?_,?_,?_,?_,?_⟩<;>simp only[od,e0,e1,e2,e3,e5,en,w6,w9,wb,wd,w8,hv,wl]
 ·have hbits:∀j,j<64->tb (nM .i64 (nZ .i64 (bV l (cv (i+7)) 256) (cv (cv (1*2^min (IntKind.u64.wrap (n:Int)).toNat 64)-1))) (l5 t' a0 a1)) j=true->j<n/\tb (l5 t' a0 a1) j=false:=by
   intro j hj h
   rw[Bb _ _ _ hj,ES,yb n (by omega) hn j hj]at h
   simp only[Bool.and_eq_true,Bool.not_eq_true',decide_eq_true_eq]at h;exact⟨h.1.2,h.2⟩
  refine⟨?_,hbits⟩
  have e:nM .i64 (nZ .i64 (bV l (cv (i+7)) 256) (cv (cv (1*2^min (IntKind.u64.wrap (n:Int)).toNat 64)-1))) (l5 t' a0 a1)=IntKind.i64.wrap ((bv (nZ .i64 (bV l (cv (i+7)) 256) (cv (cv (1*2^min (IntKind.u64.wrap (n:Int)).toNat 64)-1)))&&& ~~~bv (l5 t' a0 a1)).toNat:Int):=rfl
  rw[e]
  refine zY fun j h1 h2=>?_
  have h3:=Bb (nZ .i64 (bV l (cv (i+7)) 256) (cv (cv (1*2^min (IntKind.u64.wrap (n:Int)).toNat 64)-1))) (l5 t' a0 a1) j h2
  have h4:=yb n (by omega) hn j h2
  have h5:¬j<n:=by omega
  have h6:=ES (bV l (cv (i+7)) 256) (cv (cv (1*2^min (IntKind.u64.wrap (n:Int)).toNat 64)-1)) j
  rw[h4]at h6;simp only[h5,decide_false,Bool.and_false]at h6;simp only[tb]at h6;rw[BitVec.getLsbD_and,h6];rfl
 ·split
  ·rename_i hp
   obtain⟨p,hpn⟩:∃p:Nat,bV l (cv (i+4)) ((n:Int)+1)=p:=⟨(bV l (cv (i+4)) ((n:Int)+1)).toNat,by omega⟩
   rw[hpn]at hp⊢
   exact(vO hg h8 (by omega) k5).1
  ·exact KE _ _
 ·exact td
 ·exact te
 ·split
  ·rename_i hp
   obtain⟨p,hpn⟩:∃p:Nat,bV l (cv (i+4)) ((n:Int)+1)=p:=⟨(bV l (cv (i+4)) ((n:Int)+1)).toNat,by omega⟩
   rw[hpn]at hp⊢
   exact .inl ⟨by omega,by omega,(vO hg h8 (by omega) k5).2⟩
  ·exact .inr ⟨rfl,rfl⟩
 ·omega
 ·split
  ·right;omega
  ·left;rfl
 ·omega
theorem RC(l:Option (List Int)):((bu l).aR.getD []).length<=2/\∀r∈(bu l).aR.getD [],KH (bu l) (nT l) r:=by
 have e:(bu l).aR=bf (fm {cV with groups:=some (bU l).1} l (bU l).2 ((bV l 176 4).tmod 3) ((bV l 176 4).tmod 3).toNat):=rfl
 have h:=Int.tmod_lt_of_pos (bV l 176 4) (b:=3) (by decide)
 rw[e,cO]
 refine⟨by rw[uo];omega,fun d hd=>?_⟩
 rw[fm,List.mem_map]at hd;obtain⟨k,_,rfl⟩:=hd;exact NG rfl _ _ (lN l).1 (lN l).2
theorem RD(l:Option (List Int)):((bu l).aX.getD []).length<=2/\∀b∈(bu l).aX.getD [],(Can b.set/\b.set≠0/\∀i,i<64->tb b.set i=true->i<nT l)/\1<=b.lock/\b.lock<=30:=by
 have e:(bu l).aX=bf (l9 l (bU l).2 (bV l 177 3) (bV l 177 3).toNat):=rfl
 have r:=aS l 177 (n:=3) (by decide) (by decide)
 rw[e,cO]
 refine⟨by rw[sF];omega,fun b hb=>?_⟩
 rw[l9,List.mem_map]at hb;obtain⟨k,_,rfl⟩:=hb
 have hnT:nT l=(bU l).2:=rfl
 have hn:=lN l
 rw[hnT]at hn⊢;generalize(bU l).2=n at*;generalize bV l 177 3-(k:Int)=i
 have r1:=aS l (331+2*i) (n:=30) (by decide) (by decide)
 have w1:=gT (n:=1+bV l (331+2*i) 30) (by omega) (by omega)
 have r0:=aS l (330+2*i) (n:=256) (by decide) (by decide)
 generalize hx:nZ .i64 (bV l (330+2*i) 256) (cv (cv (1*2^min (IntKind.u64.wrap (n:Int)).toNat 64)-1))=x
 have hbits:∀j,j<64->tb x j=true->j<n:=by
  intro j hj h
  rw[<-hx,ES,yb n (by omega) hn.1 j hj]at h
  simp only[Bool.and_eq_true,decide_eq_true_eq]at h;exact h.2
 have hcan:Can x:=by
  have e:x=IntKind.i64.wrap ((bv (bV l (330+2*i) 256)&&&bv (cv (cv (1*2^min (IntKind.u64.wrap (n:Int)).toNat 64)-1))).toNat:Int):=hx.symm
  rw[e]
  refine zY fun j h1 h2=>?_
  have h4:=yb n (by omega) hn.1 j h2
  have h5:¬j<n:=by omega
  simp only[h5,decide_false,tb]at h4;rw[BitVec.getLsbD_and,h4,Bool.and_false]
 refine⟨?_,?_⟩
 ·simp only[Ba,hx]
  split
  ·exact⟨hcan,by omega,hbits⟩
  ·refine⟨⟨by decide,by decide⟩,by decide,fun j hj h=>?_⟩
   have:∀j,j<64->tb 1 j=decide (j=0):=by decide+kernel
   rw[this j hj]at h
   have:=of_decide_eq_true h;omega
 ·simp only[Ba,w1];omega
theorem VV(l:Option (List Int)):oU (bu l)=true:=by
 have hln:=(uq l).ln
 have hG:=pO l
 obtain⟨d1,d2⟩:=VT l;obtain⟨r1,r2⟩:=RC l;obtain⟨b1,b2⟩:=RD l
 have hn:=lN l
 have m1:(bu l).phases.all rG=true:=by
  rw[List.all_eq_true];intro x hx
  obtain⟨i,hi⟩:=List.mem_iff_getElem?.1 hx
  have h8:i<8:=by have:=(List.getElem?_eq_some_iff.1 hi).1;rw[hln.phases]at this;exact this
  have e:=hln.Rh h8
  rw[hi]at e
  have e:=Option.some.inj e
  rw[e,Yk l h8];split
  ·exact D1 (NC _ _)
  ·decide
 have m2:(decide ((((bu l).groups.getD []).length:Int)<=4)&&((bu l).groups.getD []).all nU)=true:=by
  have e:(bu l).groups.getD []=(bD l (dQ l) (dQ l)).1:=rfl
  have h1:(((bD l (dQ l) (dQ l)).1).length:Int)<=4:=by rw[pL];omega
  rw[e,Bool.and_eq_true,decide_eq_true_eq]
  refine⟨h1,List.all_eq_true.2 fun g hg=>?_⟩
  have hs:=pN l (dQ l) (dQ l) g hg
  have he:=Ab l (dQ l) (by omega) (dQ l) (Nat.le_refl _) g hg
  have hw:∀x∈g.a.getD []++g.b.getD [],wI 7 x=true:=fun x hx=>by
   have:=he x hx
   simp only[wI,Bool.and_eq_true,decide_eq_true_eq];omega
  simp only[nU,lU,Bool.and_eq_true,decide_eq_true_eq,List.all_eq_true,List.all_cons,List.all_nil,Bool.and_true]
  exact⟨⟨by omega,fun x hx=>hw x (List.mem_append_left _ hx)⟩,by omega,fun x hx=>hw x (List.mem_append_right _ hx)⟩
 have m3:(bu l).conflict.all (wI 255)=true:=List.all_eq_true.2 fun x hx=>wS (ND _ x hx)
 have m4:(decide ((((bu l).az.getD []).length:Int)<=16)&&((bu l).az.getD []).all gF)=true:=by
  rw[Bool.and_eq_true,decide_eq_true_eq]
  refine⟨by omega,List.all_eq_true.2 fun d hd=>?_⟩
  obtain⟨g1,⟨g2,g3,g4,g5⟩,g6,_⟩:=d2 d hd;simp only[gF,g2,g3,g4,g5,List.all_cons,List.all_nil,Bool.and_true,Bool.true_and,wI,Bool.and_eq_true,decide_eq_true_eq];omega
 have m5:(decide ((((bu l).aR.getD []).length:Int)<=4)&&((bu l).aR.getD []).all tG)=true:=by
  rw[Bool.and_eq_true,decide_eq_true_eq]
  refine⟨by omega,List.all_eq_true.2 fun d hd=>?_⟩
  obtain⟨g1,g2,g3,g4,g5,g6,g7,g8⟩:=r2 d hd
  have k1:=wS g1.1
  have k2:=wS g2.1
  have k3:=wS g3.1.1
  have k4:=wS g4.1.1
  simp only[tG,k1,k2,k3,k4,List.all_cons,List.all_nil,Bool.and_true,Bool.true_and];simp only[wI,Bool.and_eq_true,decide_eq_true_eq];omega
 have m6:(decide ((((bu l).aX.getD []).length:Int)<=4)&&((bu l).aX.getD []).all tH)=true:=by
  rw[Bool.and_eq_true,decide_eq_true_eq]
  refine⟨by omega,List.all_eq_true.2 fun d hd=>?_⟩
  obtain⟨⟨g1,_⟩,g2⟩:=b2 d hd
  have k1:=wS g1
  simp only[tH,k1,List.all_cons,List.all_nil,Bool.and_true,Bool.true_and];simp only[wI,Bool.and_eq_true,decide_eq_true_eq];omega
 have m7:[(bu l).extend,(bu l).cU,(bu l).start,(bu l).revert,(bu l).least].all (wI 9999)=true:=by
  have q1:=aS l 178 (n:=12) (by decide) (by decide)
  have q2:=aS l 179 (n:=40) (by decide) (by decide)
  have q3:=aS l 180 (n:=8) (by decide) (by decide)
  have q4:=aS l 181 (n:=8) (by decide) (by decide)
  have q5:=aS l 182 (n:=12) (by decide) (by decide)
  have f1:(bu l).extend=bV l 178 12:=rfl
  have f2:(bu l).cU=bV l 179 40:=rfl
  have f3:(bu l).start=bV l 180 8:=rfl
  have f4:(bu l).revert=bV l 181 8:=rfl
  have f5:(bu l).least=bV l 182 12:=rfl
  rw[f1,f2,f3,f4,f5];simp only[List.all_cons,List.all_nil,Bool.and_true,wI,Bool.and_eq_true,decide_eq_true_eq];omega
 have m8:(bu l).bp.all (wI 2)=true:=by
  obtain⟨q,hq⟩:=Xy l;rw[List.all_eq_true];intro x hx
  obtain⟨i,hi⟩:=List.mem_iff_getElem?.1 hx
  have h8:i<8:=by have:=(List.getElem?_eq_some_iff.1 hi).1;rw[hln.bp]at this;exact this
  have e:NB (bu l) i=x:=by rw[NB,List.getD_eq_getElem?_getD,hi];rfl
  rw[<-e,hq i h8];split
  ·decide
  ·split<;>decide
 have m9:[(bu l).dw,(bu l).share].all (wI 2147483647)=true:=by
  have q1:=aS l 183 (n:=4) (by decide) (by decide)
  have f1:(bu l).share=bV l 183 4:=rfl
  have f2:0<=(bu l).dw/\(bu l).dw<=2147483647:=by
   have e:(bu l).dw=if(fm {cV with groups:=some (bU l).1} l (bU l).2 ((bV l 176 4).tmod 3) ((bV l 176 4).tmod 3).toNat)=[]then 0 else kD (bB l) (bU l).2:=rfl
   rw[e];split
   ·exact⟨by decide,by decide⟩
   ·exact xI _ _
  rw[f1];simp only[List.all_cons,List.all_nil,Bool.and_true,wI,Bool.and_eq_true,decide_eq_true_eq];omega
 rw[oU,m1,m2,m3,m4,m5,m6,m7,m8,m9];rfl
theorem KI{t:Tb} (h:t.Ln) (hm:oU t=true):(iY t).length<=973:=by
 simp only[oU,Bool.and_eq_true,List.all_eq_true,decide_eq_true_eq]at hm;obtain⟨⟨⟨⟨⟨⟨⟨⟨_,hg1,hg2⟩,_⟩,hd1,_⟩,hr1,_⟩,hb1,_⟩,_⟩,_⟩,_⟩:=hm
 have f1:=eS (e:=sY.e) (z:=22) (l:=t.phases) (fun x _=>by rw[vI];omega) t.phases.length
 have f2:=eS (e:=uu.e) (z:=18) (l:=t.groups.getD []) (fun x hx=>vM (hg2 x hx)) (t.groups.getD []).length
 have f3:=eS (e:=j0.e) (z:=37) (l:=t.az.getD []) (fun x _=>by rw[rP];omega) (t.az.getD []).length
 have f4:=eS (e:=uA.e) (z:=20) (l:=t.aR.getD []) (fun x _=>by rw[vJ];omega) (t.aR.getD []).length
 have f5:=eS (e:=uv.e) (z:=3) (l:=t.aX.getD []) (fun x _=>by rw[vK];omega) (t.aX.getD []).length
 rw[List.take_length]at f1 f2 f3 f4 f5;rw[h.phases]at f1;unfold iY;rw[Kz h];simp only[List.length_append,aP,List.length_cons,List.length_nil,h.conflict,h.bp];omega
theorem D2(b:List Int):(mg b).length=b.length+2:=by unfold mg;rw[List.length_append,dA]
theorem F9(t:Tb):3<=(iY t).length:=by unfold iY;simp
theorem NH{a b:List Int} (h1:qd a) (h2:qd b):qd (a++b):=fun x hx=>(List.mem_append.1 hx).elim (h1 x) (h2 x)
theorem KJ{b:List Int} (h:qd b):qd (mg b):=NH h (x7 _ _)
def r3(l:List Int):bk:=⟨some l,3,0,0⟩
theorem VW{l:List Int} (h3:3<=l.length) (h:l.length<=2048):(r3 l).Ok:=⟨by show(0:Int)<=3;omega,by show(3:Int)<=(l.length:Int);omega,by show(l.length:Int)<=1000000;omega⟩
theorem NI(l:List Int):(r3 l).rest'=l.drop 3:=rfl
theorem KK{t:Tb} (h:t.Ln) (hm:oU t=true):t.Ok:=by
 simp only[oU,Bool.and_eq_true,List.all_eq_true,decide_eq_true_eq]at hm;obtain⟨⟨⟨⟨⟨⟨⟨⟨_,hg1,hg2⟩,_⟩,hd1,_⟩,hr1,_⟩,hb1,_⟩,_⟩,_⟩,_⟩:=hm
 exact⟨h.phases,h.conflict,h.bp,by omega,fun g hg=>by have:=wQ (hg2 g hg);omega,by omega,by omega,by omega⟩
theorem KL{l:List Int} (hB:qd l) {t:Tb} {a:Int} (h:kC l=(t,0,a)):ot.v t/\l=mg (iY t):=by
 unfold kC at h
 by_cases h1:l.length>2048
 ·rw[if_pos h1]at h;simp at h
 rw[if_neg h1]at h
 by_cases h2:l.length<3
 ·rw[if_pos h2]at h;simp at h
 rw[if_neg h2]at h
 by_cases h3:l.take 3≠[88,66,1]
 ·rw[if_pos h3]at h;simp at h
 rw[if_neg h3]at h;simp only[]at h
 by_cases h4:(oY.m (ot.m ⟨some l,3,0,0⟩).2).2.code≠0
 ·rw[if_pos h4]at h
  simp only[Prod.mk.injEq]at h;exact absurd h.2.1 h4
 rw[if_neg h4]at h
 have h4:=Classical.not_not.1 h4
 by_cases h5:(oY.m (ot.m ⟨some l,3,0,0⟩).2).1≠((jR 0xffff#16 (l.take (ot.m ⟨some l,3,0,0⟩).2.eM.toNat)).toNat:Int)
 ·rw[if_pos h5]at h;simp at h
 rw[if_neg h5]at h
 have h5:=Classical.not_not.1 h5
 by_cases h6:(oY.m (ot.m ⟨some l,3,0,0⟩).2).2.eM<(l.length:Int)
 ·rw[if_pos h6]at h;simp at h
 rw[if_neg h6]at h
 have h3:=Classical.not_not.1 h3
 have hok:(r3 l).Ok:=VW (by omega) (by omega)
 have ht:(ot.m (r3 l)).1=t:=by simp only[Prod.mk.injEq]at h;exact h.1
 have hc1:(ot.m (r3 l)).2.code=0:=by
  by_cases hc:(ot.m (r3 l)).2.code=0
  ·exact hc
  ·exfalso
   have:=oY.stay _ hc
   change (oY.m (ot.m (r3 l)).2).2.code=0 at h4
   rw[this]at h4;exact hc h4
 obtain⟨v1,tl1,e1,g1⟩:=ot.wrote (r3 l) hok hB rfl hc1
 have hok1:=ot.ok (r3 l) hok
 have hb1:(ot.m (r3 l)).2.qd:=by unfold bk.qd;rw[ot.keep];exact hB
 obtain⟨v2,tl2,e2,g2⟩:=oY.wrote (ot.m (r3 l)).2 hok1 hb1 hc1 h4
 rw[ht]at v1 e1 g1
 have hr1:(ot.m (r3 l)).2.rest'=tl1:=by rw[g1];exact x4 hok e1
 rw[hr1]at e2
 have hl:l=iY t++tl1:=by
  have:l=l.take 3++l.drop 3:=(List.take_append_drop 3 l).symm
  rw[NI]at e1;rw[h3,e1]at this;rw[this];unfold iY;simp
 have hat1:(ot.m (r3 l)).2.eM=((iY t).length:Int):=by
  rw[g1]
  show(3:Int)+((ot.e t).length:Int)=_
  unfold iY;simp;omega
 have htl2:tl2=[]:=by
  have hg:(oY.m (ot.m (r3 l)).2).2.eM=((iY t).length:Int)+2:=by
   rw[g2];show(ot.m (r3 l)).2.eM+((gn _ 2).length:Int)=_;rw[dA,hat1];rfl
  change ¬(oY.m (ot.m (r3 l)).2).2.eM<(l.length:Int)at h6
  rw[hg,hl,e2]at h6
  have hbl:(oY.e (oY.m (ot.m (r3 l)).2).1).length=2:=dA _ 2
  simp only[List.length_append,hbl]at h6;refine List.length_eq_zero_iff.1 ?_;omega
 refine⟨v1,?_⟩
 have hs5:(oY.m (ot.m (r3 l)).2).1=((jR 0xffff#16 (iY t)).toNat:Int):=by
  have:(oY.m (ot.m (r3 l)).2).1=((jR 0xffff#16 (l.take (ot.m (r3 l)).2.eM.toNat)).toNat:Int):=h5
  rw[this,hat1,Int.toNat_natCast];rw[hl,List.take_left]
 rw[hs5,htl2,List.append_nil]at e2;rw[hl,e2];rfl
theorem RE{l:List Int} (hB:qd l):(kC l).1.Ok/\(kC l).1.Ln:=by
 by_cases hc:(kC l).2.1=0
 ·obtain⟨v,_⟩:=KL hB (t:=(kC l).1) (a:=(kC l).2.2) (by rw[<-hc])
  obtain⟨a,b,c⟩:=J3 v;exact⟨KK a c,a⟩
 ·have:(kC l).1=cV:=by
   unfold kC at hc⊢;simp only[]at hc⊢;split
   ·rfl
   ·split
    ·rfl
    ·split
     ·rfl
     ·split
      ·rfl
      ·split
       ·rfl
       ·split
        ·rfl
        ·exfalso;simp_all
  rw[this];exact⟨RB,⟨rfl,rfl,rfl⟩⟩
def vP.Spec(C:bw) (f:Nat):Prop:=C.c f [] (B true) none
theorem Hv{v n:Int} (hn:0<n) (h2:n<100000):0<=place v n/\place v n<n:=by
 have h3:=Int.tmod_lt_of_pos v hn
 have h4:-n<v.tmod n:=by have:=Int.lt_tmod_of_pos v hn;omega
 simp only[place];split
 ·rw[gT (by omega) (by omega)];omega
 ·omega
theorem RF:cV.Fw:=fun d hd=>by cases hd
theorem Ga(t:Tb) (c a:Int):lM (t,c,a)=.qf [.agg t.cells,.agg [I c,I a]]:=rfl
section
variable{P:Program} (hm:P.follows .mixedOrders=true) {f:Nat}
include hm
theorem vP.ok{fD fE:Nat} (hc:de P f=some (rK fD fE)) (hD:sN.Spec (Pure P) fD) (hE:sP.Spec (Pure P) fE):vP.Spec (Pure P) f:=by
 have z3:bG=cV.cells:=rfl
 have z0:cV.cells.length=131:=rfl
 have z1:bF cV.cells 0 (some 131)=some (.agg cV.cells):=rfl
 have z2:setCells cV.cells 0 cV.cells=cV.cells:=dP rfl
 have z4:∀x y u v:AV,setCells [u,v] 0 [x,y]=[x,y]:=fun _ _ _ _=>rfl
 have y3:∀x y:AV,bF [x,y] 0 (some 2)=some (.agg [x,y]):=fun _ _=>rfl
 have cD:=hD none (by simp) (fun x hx=>by cases hx)
 have d0:kC []=(cV,2,0):=by decide
 rw[Option.getD_none,d0,Ga]at cD
 have cE:=hE cV ⟨rfl,rfl,rfl⟩ RF
 have m0:oU cV=true:=by decide
 unfold E3 at cE;rw[if_pos m0]at cE
 have hge:=F9 cV
 have hsl:=D2 (iY cV)
 obtain⟨L,hL⟩:∃L,L=mg (iY cV):=⟨_,rfl⟩
 have hL0:L[0]? =some 88:=by rw[hL];rfl
 rw[<-hL]at hsl cE
 have hb:(0:Int)<(L.length:Int):=by omega
 have hb3:decide ((L.length:Int)>3)=true:=by simp;omega
 refine aB hm hc (by show 0<=37;decide) (ax (keep:=[]) (i:=0) ?_)
 try simp only[I,B,D,RY,↓KW,seval,rK,Z.H,z3,z0,z1,z2]
 refine ai cD ?_;try simp only[I,B,D,RY,↓KW,seval,z3,z0,z1,z2,z4,y3]
 refine ai cE ?_
 have xf:(true !=false)=true:=rfl
 try simp only[I,B,D,RY,↓KW,seval,z3,z0,z1,z2,z4,y3,Option.getD_some,hb,hb3,hL0,dD,xf]
 all_goals rfl
end
section
open Z
def nw(g0 g1 g2 g3 g4 g5 g6 g7 g8 g9:Nat):dc:=⟨100,[.tmp 6],.seq (.aT [⟨(some 6),.o (.mv (.k (.bool false))),none⟩]) (.seq (.aT [⟨(some 16),.o (.mv (.t 0)),none⟩,⟨(some 17),.call g0 [(.t 16)],none⟩,⟨(some 18),.call g1 [(.t 17)],none⟩,⟨(some 7),.o (.mv (.t 18)),none⟩]) (.join (.seq (.aT [⟨(some 8),.o (.mv (.k (.int .i64 0))),none⟩]) (.block 0 (.loop (.join (.seq (.aT [⟨(some 19),.o (.mv (.t 8)),none⟩,⟨(some 20),.o (.mv (.t 1)),none⟩,⟨(some 21),.o (.uB (.t 20)),none⟩,⟨(some 22),.o (.bin .lss (.t 19) (.t 21)),none⟩,⟨(some 23),.o (.mv (.t 22)),none⟩,⟨(some 24),.o (.mv (.t 8)),(some (23,true))⟩,⟨(some 25),.o (.mv (.t 2)),(some (23,true))⟩,⟨(some 26),.o (.uB (.t 25)),(some (23,true))⟩,⟨(some 27),.o (.bin .lss (.t 24) (.t 26)),(some (23,true))⟩,⟨(some 28),.o (.pick (.t 23) (.t 27) (.k (.bool false))),none⟩,⟨(some 29),.o (.mv (.t 28)),none⟩,⟨(some 30),.o (.mv (.t 8)),(some (29,true))⟩,⟨(some 31),.o (.bin .lss (.t 30) (.k (.int .i64 4))),(some (29,true))⟩,⟨(some 32),.o (.pick (.t 29) (.t 31) (.k (.bool false))),none⟩]) (.cond (.t 32) .skip (.exit 0))) (.join (.block 1 (.seq (.aT [⟨(some 35),.o (.mv (.t 1)),none⟩,⟨(some 36),.o (.mv (.t 8)),none⟩,⟨(some 37),.o (.CC (.t 35) (.t 36) 1),none⟩,⟨(some 38),.o (.ld (.t 37) none),none⟩,⟨(some 39),.o (.mv (.t 7)),none⟩,⟨(some 40),.o (.uB (.t 39)),none⟩,⟨(some 41),.call g2 [(.t 38),(.t 40)],none⟩,⟨(some 9),.o (.mv (.t 41)),none⟩]) (.Bv [⟨(some 42),.mv (.t 7),none⟩,⟨(some 43),.mv (.t 9),none⟩,⟨(some 44),.mv (.t 7),none⟩,⟨(some 45),.mv (.t 9),none⟩,⟨(some 46),.CC (.t 44) (.t 45) 1,none⟩,⟨(some 47),.ld (.t 46) none,none⟩,⟨(some 48),.mv (.t 2),none⟩,⟨(some 49),.mv (.t 8),none⟩,⟨(some 50),.CC (.t 48) (.t 49) 1,none⟩,⟨(some 51),.ld (.t 50) none,none⟩,⟨(some 52),.bin .xor (.t 47) (.t 51),none⟩,⟨(some 53),.CC (.t 42) (.t 43) 1,none⟩,⟨none,.st (.t 53) (.t 52) 1,none⟩]))) (.aT [⟨(some 33),.o (.mv (.t 8)),none⟩,⟨(some 34),.o (.bin .add (.t 33) (.k (.int .i64 1))),none⟩,⟨(some 8),.o (.mv (.t 34)),none⟩])))))) (.seq (.aT [⟨(some 54),.o (.mv (.t 7)),none⟩,⟨(some 55),.call g3 [(.t 54)],none⟩,⟨(some 7),.o (.mv (.t 55)),none⟩]) (.seq (.aT [⟨(some 57),.o (.mv (.t 7)),none⟩,⟨(some 58),.call g4 [(.t 57)],none⟩,⟨(some 56),.o (.mv (.t 58)),none⟩,⟨(some 59),.o (.ext (.t 56) 0),none⟩,⟨(some 60),.o (.ext (.t 56) 1),none⟩,⟨(some 10),.o (.alloc bG),none⟩,⟨(some 11),.o (.alloc [(.int .i64 0),(.int .i64 0)]),none⟩,⟨none,.o (.st (.t 10) (.t 59) 131),none⟩,⟨none,.o (.st (.t 11) (.t 60) 2),none⟩]) (.seq (.aT [⟨(some 62),.o (.mv (.t 7)),none⟩,⟨(some 63),.call g5 [(.t 62)],none⟩,⟨(some 61),.o (.mv (.t 63)),none⟩,⟨(some 64),.o (.ext (.t 61) 0),none⟩,⟨(some 65),.o (.ext (.t 61) 1),none⟩,⟨(some 12),.o (.alloc bG),none⟩,⟨(some 13),.o (.alloc [(.int .i64 0),(.int .i64 0)]),none⟩,⟨none,.o (.st (.t 12) (.t 64) 131),none⟩,⟨none,.o (.st (.t 13) (.t 65) 2),none⟩]) (.join (.seq (.aT [⟨(some 66),.o (.fa (.t 11) 0),none⟩,⟨(some 67),.o (.ld (.t 66) none),none⟩,⟨(some 68),.o (.bin .neq (.t 67) (.k (.int .i64 0))),none⟩]) (.cond (.t 68) (.seq (.aT [⟨(some 69),.o (.ld (.t 11) (some 2)),none⟩,⟨(some 70),.o (.ld (.t 13) (some 2)),none⟩,⟨(some 71),.o (.eqc [.i,.i] false (.t 69) (.t 70)),none⟩,⟨(some 72),.o (.mv (.t 71)),none⟩,⟨(some 73),.call g6 [],(some (72,true))⟩,⟨(some 74),.o (.pick (.t 72) (.t 73) (.k (.bool false))),none⟩,⟨(some 6),.o (.mv (.t 74)),none⟩]) .ret) .skip)) (.seq (.aT [⟨(some 76),.o (.ld (.t 10) (some 131)),none⟩,⟨(some 77),.call g7 [(.t 76)],none⟩,⟨(some 75),.o (.mv (.t 77)),none⟩,⟨(some 78),.o (.ext (.t 75) 0),none⟩,⟨(some 79),.o (.ext (.t 75) 1),none⟩,⟨(some 14),.o (.mv (.t 78)),none⟩,⟨(some 15),.o (.mv (.t 79)),none⟩]) (.seq (.aT [⟨(some 80),.o (.fa (.t 13) 0),none⟩,⟨(some 81),.o (.ld (.t 80) none),none⟩,⟨(some 82),.o (.bin .eql (.t 81) (.k (.int .i64 0))),none⟩,⟨(some 83),.o (.mv (.t 82)),none⟩,⟨(some 84),.o (.ld (.t 10) (some 131)),(some (83,true))⟩,⟨(some 85),.o (.ld (.t 12) (some 131)),(some (83,true))⟩,⟨(some 86),.call g8 [(.t 84),(.t 85)],(some (83,true))⟩,⟨(some 87),.o (.pick (.t 83) (.t 86) (.k (.bool false))),none⟩,⟨(some 88),.o (.mv (.t 87)),none⟩,⟨(some 89),.o (.mv (.t 15)),(some (88,true))⟩,⟨(some 90),.o (.bin .eql (.t 89) (.k (.int .i64 0))),(some (88,true))⟩,⟨(some 91),.o (.pick (.t 88) (.t 90) (.k (.bool false))),none⟩,⟨(some 92),.o (.mv (.t 91)),none⟩,⟨(some 93),.o (.mv (.t 7)),(some (92,true))⟩,⟨(some 94),.o (.mv (.t 14)),(some (92,true))⟩,⟨(some 95),.call g9 [(.t 93),(.t 94)],(some (92,true))⟩,⟨(some 96),.o (.pick (.t 92) (.t 95) (.k (.bool false))),none⟩,⟨(some 97),.o (.mv (.t 96)),none⟩,⟨(some 98),.call g6 [],(some (97,true))⟩,⟨(some 99),.o (.pick (.t 97) (.t 98) (.k (.bool false))),none⟩,⟨(some 6),.o (.mv (.t 99)),none⟩]) .ret))))))))⟩
end
def D3.Spec(C:bw) (e f:Nat):Prop:=∀(b:Option (List Int)) (size n:Int),1<=size->(b.getD []).length<=1000000->C.c f [aD dD b,I size,I n] (.sl ((sX (b.getD []) size n).map dD)) (some e)
def KM.Spec(C:bw) (f:Nat):Prop:=∀b:Bool,C.c f [B b] (I (qj b)) none
def Bm.Spec(C:bw) (f:Nat):Prop:=∀(k:Nat) (b:Option (List Int)) (o:Option (List Int)) (l:List Int),1<=k->k<=8->o.getD []=l->l.length<=1000->(b.getD []).length<=5000->C.c f [aD dD b,I k,aD aA o] (aD dD (jd b (bg k l))) none
def Ad.Spec(C:bw) (e f:Nat):Prop:=∀(k:Nat) (b:Option (List Int)) (l:List Int),1<=k->k<=8->l≠[]->l.length<=1000->(b.getD []).length<=5000->C.c f [aD dD b,I k,aD aA (some l)] (.sl ((b.getD []++bg k l).map dD)) (some e)
section
variable{P:Program} (hm:P.follows .mixedOrders=true) {f:Nat}
include hm
theorem KM.ok(hc:de P f=some pU):KM.Spec (Pure P) f:=by
 intro b
 cases b with
 |true=>
  refine aB hm hc (by show 1<=4;decide) (ax (keep:=[]) (i:=0) ?_)
  try simp only[I,B,D,RX,↓KW,seval,pU,Z.H]
  all_goals rfl
 |false=>
  refine aB hm hc (by show 1<=4;decide) (ax (keep:=[]) (i:=0) ?_)
  try simp only[I,B,D,RX,↓KW,seval,pU,Z.H]
  all_goals rfl
theorem D3.ok{e fC:Nat} (hc:de P f=some (kj e fC)) (hC:Cut.Spec (Pure P) fC):D3.Spec (Pure P) e f:=by
 intro b size n h1 hb
 obtain⟨K,hK,hK8,hK1⟩:∃K:Nat,jb size 0 8=(K:Int)/\K<=8/\1<=K:=⟨(jb size 0 8).toNat,by unfold jb;split<;>(try split)<;>omega,by unfold jb;split<;>(try split)<;>omega,by unfold jb;split<;>(try split)<;>omega⟩
 have hpl:sX (b.getD []) size n=b.getD []++gn n K:=by simp[sX,hK]
 rw[hpl]
 obtain⟨l,hl⟩:∃l,l=b.getD []:=⟨_,rfl⟩
 rw[<-hl]at hb⊢
 refine aB hm hc (by show 3<=28;decide) (ax (keep:=[]) (i:=0) ?_)
 try simp only[I,B,D,RX,aK,aL,aN,↓KW,↓aM,seval,kj,Z.H,<-hl]
 refine⟨by omega,fun _ _=>rfl,?_⟩
 have e4:IntKind.i64.wrap ((K:Int)-1)=(K:Int)-1:=eO (by omega) (by omega)
 by_cases hl0:l=[]
 ·subst hl0
  rw[if_pos (show List.map dD []=[]from rfl)]
  refine ai (hC _ _ _) ?_;try simp only[I,B,D,RX,aK,aL,aN,↓KW,↓aM,seval,hK,e4]
  refine aH (fun x:Nat×List Int=>(⟨[(8,.dat (I ((x.1:Int)-1)) none),(7,bQ dD (x.2) 0),(2,.dat (I n) none)],[],bq (x.2) 0 e,400⟩:S)) (fun x=>x.1) (fun x=>x.1<=K/\x.2++gn n x.1=gn n K) ?_ (K,[]) ⟨by omega,rfl⟩ ?_
  ·intro x hx A back
   obtain⟨j,G⟩:=x
   have hj:j<=K:=hx.1
   have hD:G++gn n j=gn n K:=hx.2
   clear hx
   have hdl:G.length+j=K:=by have:=congrArg List.length hD;simpa[dA]using this
   by_cases hG:G=[]
   ·try simp only[I,B,D,RX,aK,aL,aN,↓KW,↓aM,seval,bQ,bq,hG]
    refine aq (fun h=>?_) (fun h=>?_)<;>try simp only[I,B,D,RX,aK,aL,aN,↓KW,↓aM,seval,h]
    ·obtain⟨m,rfl⟩:∃m,j=m+1:=⟨j-1,by have:=of_decide_eq_true h;omega⟩
     have e1:((m+1:Nat):Int)-1=(m:Int):=by omega
     have e2:IntKind.i64.wrap (8*(m:Int))=8*(m:Int):=eO (by omega) (by omega)
     have e5:IntKind.i64.wrap ((m:Int)-1)=(m:Int)-1:=eO (by omega) (by omega)
     have e6:IntKind.u64.wrap (8*(m:Int))=8*(m:Int):=vv (by omega) (by omega)
     have hmin:min (8*(m:Int)).toNat IntKind.i64.bits=8*m:=by
      show min (8*(m:Int)).toNat 64=8*m
      omega
     try simp only[I,B,D,RX,aK,aL,aN,↓KW,↓aM,seval,e1,e2,e6]
     refine⟨by omega,?_⟩
     try simp only[I,B,D,RX,aK,aL,aN,↓KW,↓aM,seval]
     refine back (m,G++[ep n m]) _ ⟨by show m<=K;omega,by show G++[ep n m]++gn n m=_;rw[<-hD];simp[gn]⟩ (by show m<m+1;omega) ?_
     refine ah (by decide) ?_ ?_ ?_ ?_<;>simp[LX,I,B,D,e5,hmin,ep,dD,bQ,bq,hG]
    ·have:j=0:=by have:=of_decide_eq_false h;omega
     subst this;exfalso;simp at hG hdl
     first|(rw[hG]at hdl;simp at hdl;omega)|(rw[hG.2]at hdl;simp at hdl;omega)
   ·try simp only[I,B,D,RX,aK,aL,aN,↓KW,↓aM,seval,bQ,bq,hG]
    refine aq (fun h=>?_) (fun h=>?_)<;>try simp only[I,B,D,RX,aK,aL,aN,↓KW,↓aM,seval,h]
    ·obtain⟨m,rfl⟩:∃m,j=m+1:=⟨j-1,by have:=of_decide_eq_true h;omega⟩
     have e1:((m+1:Nat):Int)-1=(m:Int):=by omega
     have e2:IntKind.i64.wrap (8*(m:Int))=8*(m:Int):=eO (by omega) (by omega)
     have e5:IntKind.i64.wrap ((m:Int)-1)=(m:Int)-1:=eO (by omega) (by omega)
     have e6:IntKind.u64.wrap (8*(m:Int))=8*(m:Int):=vv (by omega) (by omega)
     have hmin:min (8*(m:Int)).toNat IntKind.i64.bits=8*m:=by
      show min (8*(m:Int)).toNat 64=8*m
      omega
     try simp only[I,B,D,RX,aK,aL,aN,↓KW,↓aM,seval,e1,e2,e6]
     refine⟨by omega,by first|omega|(simp;omega),fun _ _=>rfl,?_⟩
     refine back (m,G++[ep n m]) _ ⟨by show m<=K;omega,by show G++[ep n m]++gn n m=_;rw[<-hD];simp[gn]⟩ (by show m<m+1;omega) ?_
     refine ah (by decide) ?_ ?_ ?_ ?_<;>simp[LX,I,B,D,e5,hmin,ep,dD,bQ,bq]
    ·have:j=0:=by have:=of_decide_eq_false h;omega
     subst this;try simp only[I,B,D,RX,aK,aL,aN,↓KW,↓aM,seval]
     have hD:G++[]=gn n K:=hD
     rw[List.append_nil]at hD;subst hD
     all_goals rfl
  ·refine ah (by decide) ?_ ?_ ?_ ?_<;>simp[LX,I,B,D,e4,bQ,bq]
 ·have:¬List.map dD l=[]:=by simpa using hl0
  rw[if_neg this];refine ai (hC _ _ _) ?_;try simp only[I,B,D,RX,aK,aL,aN,↓KW,↓aM,seval,hK,e4]
  refine aH (fun x:Nat×List Int=>(⟨[(8,.dat (I ((x.1:Int)-1)) none),(7,bQ dD (l++x.2) 0),(2,.dat (I n) none)],[],bq (l++x.2) 0 e,400⟩:S)) (fun x=>x.1) (fun x=>x.1<=K/\x.2++gn n x.1=gn n K) ?_ (K,[]) ⟨by omega,rfl⟩ ?_
  ·intro x hx A back
   obtain⟨j,G⟩:=x
   have hj:j<=K:=hx.1
   have hD:G++gn n j=gn n K:=hx.2
   clear hx
   have hdl:G.length+j=K:=by have:=congrArg List.length hD;simpa[dA]using this
   by_cases hG:l++G=[]
   ·try simp only[I,B,D,RX,aK,aL,aN,↓KW,↓aM,seval,bQ,bq,hG]
    refine aq (fun h=>?_) (fun h=>?_)<;>try simp only[I,B,D,RX,aK,aL,aN,↓KW,↓aM,seval,h]
    ·obtain⟨m,rfl⟩:∃m,j=m+1:=⟨j-1,by have:=of_decide_eq_true h;omega⟩
     have e1:((m+1:Nat):Int)-1=(m:Int):=by omega
     have e2:IntKind.i64.wrap (8*(m:Int))=8*(m:Int):=eO (by omega) (by omega)
     have e5:IntKind.i64.wrap ((m:Int)-1)=(m:Int)-1:=eO (by omega) (by omega)
     have e6:IntKind.u64.wrap (8*(m:Int))=8*(m:Int):=vv (by omega) (by omega)
     have hmin:min (8*(m:Int)).toNat IntKind.i64.bits=8*m:=by
      show min (8*(m:Int)).toNat 64=8*m
      omega
     try simp only[I,B,D,RX,aK,aL,aN,↓KW,↓aM,seval,e1,e2,e6]
     refine⟨by omega,?_⟩
     try simp only[I,B,D,RX,aK,aL,aN,↓KW,↓aM,seval]
     refine back (m,G++[ep n m]) _ ⟨by show m<=K;omega,by show G++[ep n m]++gn n m=_;rw[<-hD];simp[gn]⟩ (by show m<m+1;omega) ?_
     have hG':l=[]/\G=[]:=by simpa using hG
     obtain⟨hl',hG''⟩:=hG'
     refine ah (by decide) ?_ ?_ ?_ ?_<;>simp[LX,I,B,D,e5,hmin,ep,dD,bQ,bq,hl',hG'']
    ·have:j=0:=by have:=of_decide_eq_false h;omega
     subst this;exfalso;simp at hG hdl
     first|(rw[hG]at hdl;simp at hdl;omega)|(rw[hG.2]at hdl;simp at hdl;omega)
   ·try simp only[I,B,D,RX,aK,aL,aN,↓KW,↓aM,seval,bQ,bq,hG]
    refine aq (fun h=>?_) (fun h=>?_)<;>try simp only[I,B,D,RX,aK,aL,aN,↓KW,↓aM,seval,h]
    ·obtain⟨m,rfl⟩:∃m,j=m+1:=⟨j-1,by have:=of_decide_eq_true h;omega⟩
     have e1:((m+1:Nat):Int)-1=(m:Int):=by omega
     have e2:IntKind.i64.wrap (8*(m:Int))=8*(m:Int):=eO (by omega) (by omega)
     have e5:IntKind.i64.wrap ((m:Int)-1)=(m:Int)-1:=eO (by omega) (by omega)
     have e6:IntKind.u64.wrap (8*(m:Int))=8*(m:Int):=vv (by omega) (by omega)
     have hmin:min (8*(m:Int)).toNat IntKind.i64.bits=8*m:=by
      show min (8*(m:Int)).toNat 64=8*m
      omega
     try simp only[I,B,D,RX,aK,aL,aN,↓KW,↓aM,seval,e1,e2,e6]
     refine⟨by omega,by first|omega|(simp;omega),fun _ _=>rfl,?_⟩
     refine back (m,G++[ep n m]) _ ⟨by show m<=K;omega,by show G++[ep n m]++gn n m=_;rw[<-hD];simp[gn]⟩ (by show m<m+1;omega) ?_
     refine ah (by decide) ?_ ?_ ?_ ?_<;>simp[LX,I,B,D,e5,hmin,ep,dD,bQ,bq]
    ·have:j=0:=by have:=of_decide_eq_false h;omega
     subst this;try simp only[I,B,D,RX,aK,aL,aN,↓KW,↓aM,seval]
     have hD:G++[]=gn n K:=hD
     rw[List.append_nil]at hD;subst hD
     all_goals rfl
  ·refine ah (by decide) ?_ ?_ ?_ ?_<;>simp[LX,I,B,D,e4,bQ,bq,hl0]
theorem Bm.ok{fP:Nat} (hc:de P f=some (kW fP)) (hP:B8.Spec (Pure P) fP):Bm.Spec (Pure P) f:=by
 intro k b o l k1 k8 ho hl hb
 have hkl:∀i,(bg k (l.take i)).length<=8000:=fun i=>by
  have h1:=Cq k l i
  have h2:k*l.length<=8*1000:=Nat.mul_le_mul k8 hl
  rw[aP k l]at h1;omega
 refine aB hm hc (by show 3<=22;decide) (ax (keep:=[]) (i:=0) ?_)
 try simp only[I,B,D,RX,↓KW,seval,kW,Z.H,ho]
 refine aH (fun i:Nat=>(⟨[(7,.dat (I i) none),(0,.dat (aD dD (jd b (bg k (l.take i)))) none),(1,.dat (I k) none),(2,.dat (aD aA o) none)],[],[],400⟩:S)) (fun i=>l.length-i) (fun i=>i<=l.length) ?_ 0 (by omega) ?_
 ·intro i hi A back
  have hw:=aF (k:=i) (by omega)
  have hk:=hkl i
  try simp only[I,B,D,RX,↓KW,seval,ho]
  refine aq (fun h=>?_) (fun h=>?_)<;>try simp only[I,B,D,RX,↓KW,seval,h]
  ·have h3:i<l.length:=by have:=of_decide_eq_true h;omega
   obtain⟨x,hx⟩:∃x,l[i]? =some x:=⟨l[i],by simp[h3]⟩
   have cP:=hP (jd b (bg k (l.take i))) k x (by rw[mJ,List.length_append];omega)
   have ps:=zV (b:=b) (x:=bg k (l.take i)) k1 k8 x
   have he:aD dD (bf (sX ((jd b (bg k (l.take i))).getD []) k x))=aD dD (jd b (bg k (l.take (i+1)))):=by
    rw[wP hx,<-ps];unfold bf;rw[if_neg]
    ·rfl
    ·intro e
     have:=congrArg List.length e
     rw[sO _ k8,List.length_append,dA]at this;simp at this;omega
   rw[he]at cP
   have hb2:(0:Int)<=(i:Int)/\(i:Int)<(l.length:Int):=by omega
   try simp only[I,B,D,RX,↓KW,seval,ho,hx,hb2,aA]
   refine ai cP ?_;try simp only[I,B,D,RX,↓KW,seval]
   refine back (i+1) _ (by omega) (by omega) (ah (by decide) ?_ ?_ ?_ ?_)<;>simp[LX,I,B,D,hw]
  ·have h3:i=l.length:=by have:=of_decide_eq_false h;omega
   subst h3;try simp only[I,B,D,RX,↓KW,seval,List.take_length]
   all_goals rfl
 ·have z9:jd b (bg k [])=b:=by simp[bg,jd]
  refine ah (by decide) ?_ ?_ ?_ ?_<;>simp[LX,I,B,D,z9]
theorem Ad.ok{fP e:Nat} (hc:de P f=some (kW fP)) (hP:D3.Spec (Pure P) e fP):Ad.Spec (Pure P) e f:=by
 intro k b l k1 k8 hne hl hb
 have hkl:∀i,(bg k (l.take i)).length<=8000:=fun i=>by
  have h1:=Cq k l i
  have h2:k*l.length<=8*1000:=Nat.mul_le_mul k8 hl
  rw[aP k l]at h1;omega
 have hpos:0<l.length:=List.length_pos_iff.2 hne
 have step:∀(i:Nat) (x:Int) (c:Option (List Int)),l[i]? =some x->c.getD []=b.getD []++bg k (l.take i)->(Pure P).c fP [aD dD c,I k,I x] (.sl ((b.getD []++bg k (l.take (i+1))).map dD)) (some e):=by
  intro i x c hx hcc
  have hk:=hkl i
  have cP:=hP c k x (by omega) (by rw[hcc,List.length_append];omega)
  rw[sO _ k8,hcc,List.append_assoc,<-wP hx]at cP;exact cP
 obtain⟨x0,hx0⟩:∃x,l[0]? =some x:=⟨l[0],by simp[hpos]⟩
 have hb0:(0:Int)<=0/\(0:Int)<(l.length:Int):=by omega
 have hd0:decide ((0:Int)<(l.length:Int))=true:=by simp;omega
 refine aB hm hc (by show 3<=22;decide) (ax (keep:=[]) (i:=0) ?_)
 try simp only[I,B,D,RX,↓KW,seval,kW,Z.H,Option.getD_some]
 refine br ?_;try simp only[I,B,D,RX,↓KW,seval,Option.getD_some,hd0,hb0,hx0,aA]
 refine uU (step 0 x0 b hx0 (by simp[bg])) ?_
 try simp only[I,B,D,RX,↓KW,seval]
 refine aH (fun i:Nat=>(⟨[(7,.dat (I i) none),(0,.dat (.sl ((b.getD []++bg k (l.take i)).map dD)) (some 0)),(1,.dat (I k) none),(2,.dat (aD aA (some l)) none)],[],[(0,e)],400⟩:S)) (fun i=>l.length-i) (fun i=>1<=i/\i<=l.length) ?_ 1 ⟨by omega,by omega⟩ ?_
 ·intro i hi A back
  obtain⟨hi1,hi⟩:=hi
  have hw:=aF (k:=i) (by omega)
  try simp only[I,B,D,RX,↓KW,seval,Option.getD_some]
  refine aq (fun h=>?_) (fun h=>?_)<;>try simp only[I,B,D,RX,↓KW,seval,h]
  ·have h3:i<l.length:=by have:=of_decide_eq_true h;omega
   obtain⟨x,hx⟩:∃x,l[i]? =some x:=⟨l[i],by simp[h3]⟩
   have cP:=step i x (some (b.getD []++bg k (l.take i))) hx rfl
   have hb2:(0:Int)<=(i:Int)/\(i:Int)<(l.length:Int):=by omega
   try simp only[I,B,D,RX,↓KW,seval,Option.getD_some,hx,hb2,aA]
   refine uU cP ?_;try simp only[I,B,D,RX,↓KW,seval]
   refine back (i+1) _ ⟨by omega,by omega⟩ (by omega) ?_
   refine ah (by decide) ?_ ?_ ?_ ?_<;>simp[LX,I,B,D,hw]
  ·have h3:i=l.length:=by have:=of_decide_eq_false h;omega
   subst h3;try simp only[I,B,D,RX,↓KW,seval,List.take_length]
 ·have h11:IntKind.i64.wrap 1=1:=by decide
  refine ah (by decide) ?_ ?_ ?_ ?_<;>simp[LX,I,B,D,h11]
end
def D4.Spec(C:bw) (e f:Nat):Prop:=∀t:Tb,t.Ln->oU t=true->C.c f [.agg t.cells] (.sl ((iY t).map dD)) (some e)
theorem rQ{C:bw} {f:Nat} (h:B8.Spec C f) (k:Nat) (h1:1<=k) (h8:k<=8) (L:List Int) (n:Int) (hL:L.length<=5000):C.c f [aD dD (some L),I k,I n] (aD dD (some (L++bg k [n]))) none:=by
 have:=h (some L) k n (by rw[Option.getD_some];omega)
 rw[Option.getD_some,sO _ h8]at this
 have he:bf (L++gn n k)=some (L++bg k [n]):=by
  unfold bf
  rw[if_neg (by intro e;have:=congrArg List.length e;rw[List.length_append,dA]at this;simp at this;omega)]
  simp[bg]
 rw[he]at this;exact this
theorem Cx{C:bw} {f:Nat} (h:A5.Spec C f) (L:List Int) (x:Nat) (hL:L.length<=5000):C.c f [aD dD (some L),Fl x] (aD dD (some (L++gH [x]))) none:=by
 have:=h (some L) x (by rw[Option.getD_some];omega)
 rw[Option.getD_some,show(8:Int)=((8:Nat):Int)from rfl,sO _ (by omega)]at this
 have he:bf (L++gn (IntKind.i64.wrap (x:Int)) 8)=some (L++gH [x]):=by
  unfold bf
  rw[if_neg (by intro e;have:=congrArg List.length e;rw[List.length_append,dA]at this;simp at this)]
  simp[gH]
 rw[he]at this;exact this
theorem oo{C:bw} {f:Nat} (h:Bm.Spec C f) (k:Nat) (h1:1<=k) (h8:k<=8) (L:List Int) (o:Option (List Int)) (l:List Int) (ho:o.getD []=l) (hl:l.length<=1000) (hL:L.length<=5000):C.c f [aD dD (some L),I k,aD aA o] (aD dD (some (L++bg k l))) none:=by
 have:=h k (some L) o l h1 h8 ho hl (by rw[Option.getD_some];exact hL)
 rw[oZ]at this;exact this
theorem I9{t:Tb} (h:t.Ln) {i:Nat} {p:Ph} (hp:t.phases[i]? =some p):bF t.cells (i*13) (some 13)=some (.agg p.cells):=by
 have hf:=Ct Ph.cells 13 Ph.len t.phases i p hp
 have hlen:(t.phases.flatMap Ph.cells).length=104:=by rw[aY Ph.len,h.phases]
 have hi:i<8:=by rw[<-h.phases];exact(List.getElem?_eq_some_iff.1 hp).1
 simp only[bF]at hf⊢
 rw[if_pos (by omega)]at hf
 rw[if_pos (by rw[h.len];omega)]
 have e2:t.cells=t.phases.flatMap Ph.cells++t.rest:=rfl
 rw[e2,List.drop_append_of_le_length (by omega),List.take_append_of_le_length (by rw[List.length_drop];omega)]
 exact hf
section
variable{P:Program} (hm:P.follows .mixedOrders=true) {f:Nat}
include hm
theorem D4.ok{eB fO fP eI fS fF:Nat} (hc:de P f=some (og eB fO fP eI fS fF)) (hO:KM.Spec (Pure P) fO) (hP:B8.Spec (Pure P) fP) (hS:Bm.Spec (Pure P) fS) (hT:Ad.Spec (Pure P) eB fS) (hF:A5.Spec (Pure P) fF):D4.Spec (Pure P) eB f:=by
 intro t h hmay
 have hl:=h.len
 have hw:=h.whole
 have hmay2:=hmay
 simp only[oU,Bool.and_eq_true,List.all_eq_true,decide_eq_true_eq]at hmay2;obtain⟨⟨⟨⟨⟨⟨⟨⟨_,hg1,hg2⟩,_⟩,hd1,_⟩,hr1,_⟩,hb1,_⟩,_⟩,_⟩,_⟩:=hmay2
 have g1:=zL h
 have g2:=h.xC
 have g3:=h.vz
 have g4:=h.xD
 obtain⟨n1,n2,n3,n4,n5,n6,n7⟩:=vD h
 have dg1:=cz g1
 have dg2:=cz g2
 have dg3:=cz g3
 have dg4:=cz g4
 have dn1:=cz n1
 have dn2:=cz n2
 have dn3:=cz n3
 have dn4:=cz n4
 have dn5:=cz n5
 have dn6:=cz n6
 have dn7:=cz n7
 have k2:=EU h
 have k3:=EX h
 have hp8:=h.phases
 have z13:dh.length=13:=rfl
 have u13:∀p:Ph,setCells dh 0 p.cells=p.cells:=fun p=>dP rfl
 have z11:dG.length=11:=rfl
 have u11:∀p:Rl,setCells dG 0 p.cells=p.cells:=fun p=>dP rfl
 have u7:∀p:fy,setCells [.int .i64 0,.float .f64 0,.float .f64 0,.float .f64 0,.float .f64 0,.int .i64 0,.int .i64 0] 0 p.cells=p.cells:=fun p=>dP rfl
 have u2:∀p:Bs,setCells [.int .i64 0,.int .i64 0] 0 p.cells=p.cells:=fun p=>dP rfl
 obtain⟨S0,hS0⟩:∃S:List Int,S=[88,66,1]:=⟨_,rfl⟩
 have l0:S0.length<=3:=by rw[hS0];decide
 have e0:aD dD (some S0)=.sl [[.int .u8 88],[.int .u8 66],[.int .u8 1]]:=by rw[hS0];rfl
 refine aB hm hc (by show 1<=234;decide) (ax (keep:=[0,3,8,11,14]) (i:=0) ?_)
 try simp only[I,B,D,RY,↓KW,seval,og,Z.H,hl,hw,<-e0]
 try simp only[I,B,D,RY,↓KW,seval,hl]
 refine dR (.exit 0) (fun _:Unit=>(⟨[(3,.dat (aD dD (some (S0++(t.phases).flatMap sY.e))) none),(1,.ptr 4 0)],[(4,⟨t.cells,[]⟩)],[],400⟩:S)) (fun _=>True) (fun _=>rfl) ?_ ?_
 ·refine aH (fun i:Nat=>(⟨[(4,.dat (I i) none),(3,.dat (aD dD (some (S0++((t.phases).take i).flatMap sY.e))) none),(1,.ptr 4 0)],[(4,⟨t.cells,[]⟩)],[],400⟩:S)) (fun i=>8-i) (fun i=>i<=8) ?_ 0 (by omega) ?_
  ·intro i hi A back
   have hwi:=aF (k:=i) (by omega)
   have hlen:=eS (e:=sY.e) (z:=22) (l:=t.phases) (fun x _=>by rw[vI];omega) i
   rw[h.phases]at hlen;try simp only[I,B,D,RY,↓KW,seval,hl]
   refine aq (fun h2=>?_) (fun h2=>?_)<;>try simp only[I,B,D,RY,↓KW,seval,h2]
   ·have h3:i<8:=by have:=of_decide_eq_true h2;omega
    obtain⟨p,hp⟩:∃x,(t.phases)[i]? =some x:=⟨(t.phases)[i]'(by omega),List.getElem?_eq_getElem _⟩
    have hn:=kY (e:=sY.e) hp S0
    obtain⟨L,hL⟩:∃L,L=S0++((t.phases).take i).flatMap sY.e:=⟨_,rfl⟩
    have hL2:L.length<=179:=by rw[hL,List.length_append];omega
    have hb2:(0:Int)<=(i:Int)/\(i:Int)<8:=by omega
    have hpa:=I9 h hp
    have w1:=u13 p
    simp only[Ph.cells,I,B,Fl]at w1
    have he:L++sY.e p=(((L)++bg 1 [qj p.on])++bg 2 [p.min,p.As,p.max,p.top,p.step,p.dO,p.red,p.walk,p.ee])++bg 1 [p.gy,qj p.lock,qj p.rest]:=by rw[Kv];simp[bg,gH,cJ]
    rw[<-hL,he]at hn;rw[<-hL]
    have c1:=rQ hP 1 (by omega) (by omega) (L) (qj p.on) (by first|omega|(simp only[List.length_append,aP,bK,cJ,List.length_map,List.length_cons,List.length_nil];omega))
    have c2:=oo hS 2 (by omega) (by omega) ((L)++bg 1 [qj p.on]) (some [p.min,p.As,p.max,p.top,p.step,p.dO,p.red,p.walk,p.ee]) [p.min,p.As,p.max,p.top,p.step,p.dO,p.red,p.walk,p.ee] rfl (Nat.le_of_ble_eq_true rfl) (by first|omega|(simp only[List.length_append,aP,bK,cJ,List.length_map,List.length_cons,List.length_nil];omega))
    have c5:=oo hS 1 (by omega) (by omega) (((L)++bg 1 [qj p.on])++bg 2 [p.min,p.As,p.max,p.top,p.step,p.dO,p.red,p.walk,p.ee]) (some [p.gy,qj p.lock,qj p.rest]) [p.gy,qj p.lock,qj p.rest] rfl (Nat.le_of_ble_eq_true rfl) (by first|omega|(simp only[List.length_append,aP,bK,cJ,List.length_map,List.length_cons,List.length_nil];omega))
    try simp only[I,B,D,RY,↓KW,seval,hb2,hp,hl,hpa,z13,Ph.len]
    try simp only[I,B,D,RY,↓KW,seval,w1,Ph.cells,z13]
    refine ai (hO p.on) ?_;try simp only[I,B,D,RY,↓KW,seval,w1,Ph.cells,z13]
    refine ai (c1) ?_;try simp only[I,B,D,RY,↓KW,seval,w1,Ph.cells,z13]
    refine ai (c2) ?_;try simp only[I,B,D,RY,↓KW,seval,w1,Ph.cells,z13]
    refine ai (hO p.lock) ?_;try simp only[I,B,D,RY,↓KW,seval,w1,Ph.cells,z13]
    refine ai (hO p.rest) ?_;try simp only[I,B,D,RY,↓KW,seval,w1,Ph.cells,z13]
    refine ai (c5) ?_;try simp only[I,B,D,RY,↓KW,seval,w1,Ph.cells,z13]
    refine back (i+1) _ (by omega) (by omega) ?_
    refine ah (by decide) ?_ ?_ ?_ ?_<;>simp[LX,I,B,D,hwi,hn,cR]
   ·have h3:i=8:=by have:=of_decide_eq_false h2;omega
    have ht:(t.phases).take i=t.phases:=by rw[h3];exact List.take_of_length_le (by omega)
    refine bI () trivial ?_
    refine ah (by decide) ?_ ?_ ?_ ?_<;>simp[LX,I,B,D,ht,cR]
  ·refine ah (by decide) ?_ ?_ ?_ ?_<;>simp[LX,I,B,D,cR]
 ·intro _ _
  obtain⟨S1,hS1⟩:∃S,S=S0++(t.phases).flatMap sY.e:=⟨_,rfl⟩
  rw[<-hS1]
  have lS1:S1.length<=179:=by rw[hS1,List.length_append];have:=eS (e:=sY.e) (z:=22) (l:=t.phases) (fun x _=>by rw[vI];omega) (t.phases).length;rw[List.take_length]at this;omega
  try simp only[I,B,D,RY,↓KW,seval,hl,g1,dg1]
  have c:=rQ hP 1 (by omega) (by omega) S1 ((t.groups.getD []).length:Int) (by omega)
  try simp only[I,B,D,RY,↓KW,seval,hl,g1,dg1]
  refine ai c ?_
  obtain⟨S2,hS2⟩:∃S,S=S1++bg 1 [((t.groups.getD []).length:Int)]:=⟨_,rfl⟩
  have lS2:S2.length<=180:=by rw[hS2,List.length_append,aP];simp only[List.length_cons,List.length_nil];omega
  rw[<-hS2];try simp only[I,B,D,RY,↓KW,seval,hl]
  refine dR (.exit 2) (fun _:Unit=>(⟨[(3,.dat (aD dD (some (S2++(t.groups.getD []).flatMap uu.e))) none),(1,.ptr 4 0)],[(4,⟨t.cells,[]⟩)],[],400⟩:S)) (fun _=>True) (fun _=>rfl) ?_ ?_
  ·refine aH (fun i:Nat=>(⟨[(6,.dat (I i) none),(3,.dat (aD dD (some (S2++((t.groups.getD []).take i).flatMap uu.e))) none),(1,.ptr 4 0)],[(4,⟨t.cells,[]⟩)],[],400⟩:S)) (fun i=>(t.groups.getD []).length-i) (fun i=>i<=(t.groups.getD []).length) ?_ 0 (by omega) ?_
   ·intro i hi A back
    have hwi:=aF (k:=i) (by omega)
    have hlen:=eS (e:=uu.e) (z:=18) (l:=t.groups.getD []) (fun x hx=>vM (hg2 x hx)) i
    try simp only[I,B,D,RY,↓KW,seval,hl,g1,dg1]
    refine aq (fun h2=>?_) (fun h2=>?_)<;>try simp only[I,B,D,RY,↓KW,seval,h2]
    ·have h3:i<(t.groups.getD []).length:=by have:=of_decide_eq_true h2;omega
     obtain⟨p,hp⟩:∃x,(t.groups.getD [])[i]? =some x:=⟨(t.groups.getD [])[i]'(by omega),List.getElem?_eq_getElem _⟩
     have hn:=kY (e:=uu.e) hp S2
     obtain⟨L,hL⟩:∃L,L=S2++((t.groups.getD []).take i).flatMap uu.e:=⟨_,rfl⟩
     have hL2:L.length<=252:=by rw[hL,List.length_append];omega
     have hb2:(0:Int)<=(i:Int)/\(i:Int)<((t.groups.getD []).length:Int):=by omega
     have hpl:=wQ (hg2 p (List.mem_of_getElem? hp))
     have hgx:p.cells[0]? =some (aD aA p.a)/\p.cells[1]? =some (aD aA p.b)/\p.cells.length=2/\(p.cells.drop 1)[0]? =some (aD aA p.b):=⟨rfl,rfl,rfl,rfl⟩
     have he:L++uu.e p=((((L++bg 1 [((p.a.getD []).length:Int)])++bg 1 (p.a.getD []))++bg 1 [((p.b.getD []).length:Int)])++bg 1 (p.b.getD [])):=by rw[Kw,Cr,Cr];simp only[List.append_assoc]
     rw[<-hL,he]at hn;rw[<-hL]
     have c0:=rQ hP 1 (by omega) (by omega) L ((p.a.getD []).length:Int) (by first|omega|(simp only[List.length_append,aP,bK,cJ,List.length_map,List.length_cons,List.length_nil];omega))
     have c1:=oo hS 1 (by omega) (by omega) (L++bg 1 [((p.a.getD []).length:Int)]) p.a (p.a.getD []) rfl (by omega) (by first|omega|(simp only[List.length_append,aP,bK,cJ,List.length_map,List.length_cons,List.length_nil];omega))
     have c2:=rQ hP 1 (by omega) (by omega) ((L++bg 1 [((p.a.getD []).length:Int)])++bg 1 (p.a.getD [])) ((p.b.getD []).length:Int) (by first|omega|(simp only[List.length_append,aP,bK,cJ,List.length_map,List.length_cons,List.length_nil];omega))
     have c3:=oo hS 1 (by omega) (by omega) (((L++bg 1 [((p.a.getD []).length:Int)])++bg 1 (p.a.getD []))++bg 1 [((p.b.getD []).length:Int)]) p.b (p.b.getD []) rfl (by omega) (by first|omega|(simp only[List.length_append,aP,bK,cJ,List.length_map,List.length_cons,List.length_nil];omega))
     have w01:IntKind.i64.wrap (0+1)=1/\IntKind.i64.wrap (1+1)=2/\IntKind.i64.wrap 1=1/\IntKind.i64.wrap 2=2:=by decide
     try simp only[I,B,D,RY,↓KW,seval,hl,g1,dg1]
     refine br ?_;try simp only[I,B,D,RY,↓KW,seval,hl,g1,dg1,hb2,hp,hgx,w01]
     refine ai c0 ?_;try simp only[I,B,D,RY,↓KW,seval,hl,g1,dg1,hb2,hp,hgx,w01]
     refine ai c1 ?_;try simp only[I,B,D,RY,↓KW,seval,hl,g1,dg1,hb2,hp,hgx,w01]
     refine br ?_;try simp only[I,B,D,RY,↓KW,seval,hl,g1,dg1,hb2,hp,hgx,w01]
     refine ai c2 ?_;try simp only[I,B,D,RY,↓KW,seval,hl,g1,dg1,hb2,hp,hgx,w01]
     refine ai c3 ?_;try simp only[I,B,D,RY,↓KW,seval,hl,g1,dg1,hb2,hp,hgx,w01]
     refine br ?_;try simp only[I,B,D,RY,↓KW,seval,w01]
     refine back (i+1) _ (by omega) (by omega) ?_
     refine ah (by decide) ?_ ?_ ?_ ?_<;>simp[LX,I,B,D,hwi,hn,cR]
    ·have h3:i=(t.groups.getD []).length:=by have:=of_decide_eq_false h2;omega
     have ht:(t.groups.getD []).take i=t.groups.getD []:=by rw[h3];exact List.take_of_length_le (by omega)
     refine bI () trivial ?_
     refine ah (by decide) ?_ ?_ ?_ ?_<;>simp[LX,I,B,D,ht,cR]
   ·refine ah (by decide) ?_ ?_ ?_ ?_<;>simp[LX,I,B,D,cR]
  ·intro _ _
   obtain⟨S3,hS3⟩:∃S,S=S2++(t.groups.getD []).flatMap uu.e:=⟨_,rfl⟩
   rw[<-hS3]
   have lS3:S3.length<=252:=by rw[hS3,List.length_append];have:=eS (e:=uu.e) (z:=18) (l:=t.groups.getD []) (fun x hx=>vM (hg2 x hx)) (t.groups.getD []).length;rw[List.take_length]at this;omega
   have cC:=oo hS 1 (by omega) (by omega) S3 (some t.conflict) t.conflict rfl (by rw[h.conflict];omega) (by omega)
   have cD:=rQ hP 1 (by omega) (by omega) (S3++bg 1 t.conflict) ((t.az.getD []).length:Int) (by rw[List.length_append,aP,h.conflict];omega)
   try simp only[I,B,D,RY,↓KW,seval,hl]
   refine Pu [4] [] rfl rfl rfl ?_;try simp only[I,B,D,RY,↓KW,seval,hl,k2,List.length_drop,g2,dg2]
   refine ai cC ?_;try simp only[I,B,D,RY,↓KW,seval,hl,k2,List.length_drop,g2,dg2]
   refine ai cD ?_;try simp only[I,B,D,RY,↓KW,seval,hl]
   obtain⟨S5,hS5⟩:∃S,S=(S3++bg 1 t.conflict)++bg 1 [((t.az.getD []).length:Int)]:=⟨_,rfl⟩
   have lS5:S5.length<=261:=by rw[hS5,List.length_append,List.length_append,aP,aP,h.conflict];simp only[List.length_cons,List.length_nil];omega
   rw[<-hS5];try simp only[I,B,D,RY,↓KW,seval,hl]
   refine dR (.exit 6) (fun _:Unit=>(⟨[(3,.dat (aD dD (some (S5++(t.az.getD []).flatMap j0.e))) none),(1,.rp t.cells)],[],[],400⟩:S)) (fun _=>True) (fun _=>rfl) ?_ ?_
   ·refine aH (fun i:Nat=>(⟨[(8,.dat (I i) none),(3,.dat (aD dD (some (S5++((t.az.getD []).take i).flatMap j0.e))) none),(1,.rp t.cells)],[],[],400⟩:S)) (fun i=>(t.az.getD []).length-i) (fun i=>i<=(t.az.getD []).length) ?_ 0 (by omega) ?_
    ·intro i hi A back
     have hwi:=aF (k:=i) (by omega)
     have hlen:=eS (e:=j0.e) (z:=37) (l:=t.az.getD []) (fun x _=>by rw[rP];omega) i
     skip;try simp only[I,B,D,RY,↓KW,seval,hl,g2,dg2]
     refine aq (fun h2=>?_) (fun h2=>?_)<;>try simp only[I,B,D,RY,↓KW,seval,h2]
     ·have h3:i<(t.az.getD []).length:=by have:=of_decide_eq_true h2;omega
      obtain⟨p,hp⟩:∃x,(t.az.getD [])[i]? =some x:=⟨(t.az.getD [])[i]'(by omega),List.getElem?_eq_getElem _⟩
      have hn:=kY (e:=j0.e) hp S5
      obtain⟨L,hL⟩:∃L,L=S5++((t.az.getD []).take i).flatMap j0.e:=⟨_,rfl⟩
      have hL2:L.length<=853:=by rw[hL,List.length_append];omega
      have hb2:(0:Int)<=(i:Int)/\(i:Int)<((t.az.getD []).length:Int):=by omega
      skip
      have w1:=u7 p
      simp only[fy.cells,I,B,Fl]at w1
      have he:L++j0.e p=((((((L)++bg 1 [p.phase])++gH [p.on])++gH [p.off])++gH [p.delay])++gH [p.extend])++bg 2 [p.maxOn,p.iF]:=by rw[E4];simp[bg,gH,cJ]
      rw[<-hL,he]at hn;rw[<-hL]
      have c0:=rQ hP 1 (by omega) (by omega) (L) (p.phase) (by first|omega|(simp only[List.length_append,aP,bK,cJ,List.length_map,List.length_cons,List.length_nil];omega))
      have c1:=Cx hF ((L)++bg 1 [p.phase]) (p.on) (by first|omega|(simp only[List.length_append,aP,bK,cJ,List.length_map,List.length_cons,List.length_nil];omega))
      have c2:=Cx hF (((L)++bg 1 [p.phase])++gH [p.on]) (p.off) (by first|omega|(simp only[List.length_append,aP,bK,cJ,List.length_map,List.length_cons,List.length_nil];omega))
      have c3:=Cx hF ((((L)++bg 1 [p.phase])++gH [p.on])++gH [p.off]) (p.delay) (by first|omega|(simp only[List.length_append,aP,bK,cJ,List.length_map,List.length_cons,List.length_nil];omega))
      have c4:=Cx hF (((((L)++bg 1 [p.phase])++gH [p.on])++gH [p.off])++gH [p.delay]) (p.extend) (by first|omega|(simp only[List.length_append,aP,bK,cJ,List.length_map,List.length_cons,List.length_nil];omega))
      have c5:=oo hS 2 (by omega) (by omega) ((((((L)++bg 1 [p.phase])++gH [p.on])++gH [p.off])++gH [p.delay])++gH [p.extend]) (some [p.maxOn,p.iF]) [p.maxOn,p.iF] rfl (Nat.le_of_ble_eq_true rfl) (by first|omega|(simp only[List.length_append,aP,bK,cJ,List.length_map,List.length_cons,List.length_nil];omega))
      try simp only[I,B,D,RY,↓KW,seval,hb2,hp,hl,g2,dg2,fy.len]
      try simp only[I,B,D,RY,↓KW,seval,w1,fy.cells,Fl]
      refine ai (c0) ?_;try simp only[I,B,D,RY,↓KW,seval,w1,fy.cells,Fl]
      refine ai (c1) ?_;try simp only[I,B,D,RY,↓KW,seval,w1,fy.cells,Fl]
      refine ai (c2) ?_;try simp only[I,B,D,RY,↓KW,seval,w1,fy.cells,Fl]
      refine ai (c3) ?_;try simp only[I,B,D,RY,↓KW,seval,w1,fy.cells,Fl]
      refine ai (c4) ?_;try simp only[I,B,D,RY,↓KW,seval,w1,fy.cells,Fl]
      refine ai (c5) ?_;try simp only[I,B,D,RY,↓KW,seval,w1,fy.cells,Fl]
      refine back (i+1) _ (by omega) (by omega) ?_
      refine ah (by decide) ?_ ?_ ?_ ?_<;>simp[LX,I,B,D,hwi,hn,cR]
     ·have h3:i=(t.az.getD []).length:=by have:=of_decide_eq_false h2;omega
      have ht:(t.az.getD []).take i=t.az.getD []:=by rw[h3];exact List.take_of_length_le (by omega)
      refine bI () trivial ?_
      refine ah (by decide) ?_ ?_ ?_ ?_<;>simp[LX,I,B,D,ht,cR]
    ·refine ah (by decide) ?_ ?_ ?_ ?_<;>simp[LX,I,B,D,cR]
   ·intro _ _
    obtain⟨S6,hS6⟩:∃S,S=S5++(t.az.getD []).flatMap j0.e:=⟨_,rfl⟩
    rw[<-hS6]
    have lS6:S6.length<=853:=by rw[hS6,List.length_append];have:=eS (e:=j0.e) (z:=37) (l:=t.az.getD []) (fun x _=>by rw[rP];omega) (t.az.getD []).length;rw[List.take_length]at this;omega
    try simp only[I,B,D,RY,↓KW,seval,hl,g3,dg3]
    have c:=rQ hP 1 (by omega) (by omega) S6 ((t.aR.getD []).length:Int) (by omega)
    try simp only[I,B,D,RY,↓KW,seval,hl,g3,dg3]
    refine ai c ?_
    obtain⟨S7,hS7⟩:∃S,S=S6++bg 1 [((t.aR.getD []).length:Int)]:=⟨_,rfl⟩
    have lS7:S7.length<=854:=by rw[hS7,List.length_append,aP];simp only[List.length_cons,List.length_nil];omega
    rw[<-hS7];try simp only[I,B,D,RY,↓KW,seval,hl]
    refine dR (.exit 8) (fun _:Unit=>(⟨[(3,.dat (aD dD (some (S7++(t.aR.getD []).flatMap uA.e))) none),(1,.rp t.cells)],[],[],400⟩:S)) (fun _=>True) (fun _=>rfl) ?_ ?_
    ·refine aH (fun i:Nat=>(⟨[(10,.dat (I i) none),(3,.dat (aD dD (some (S7++((t.aR.getD []).take i).flatMap uA.e))) none),(1,.rp t.cells)],[],[],400⟩:S)) (fun i=>(t.aR.getD []).length-i) (fun i=>i<=(t.aR.getD []).length) ?_ 0 (by omega) ?_
     ·intro i hi A back
      have hwi:=aF (k:=i) (by omega)
      have hlen:=eS (e:=uA.e) (z:=20) (l:=t.aR.getD []) (fun x _=>by rw[vJ];omega) i
      skip;try simp only[I,B,D,RY,↓KW,seval,hl,g3,dg3]
      refine aq (fun h2=>?_) (fun h2=>?_)<;>try simp only[I,B,D,RY,↓KW,seval,h2]
      ·have h3:i<(t.aR.getD []).length:=by have:=of_decide_eq_true h2;omega
       obtain⟨p,hp⟩:∃x,(t.aR.getD [])[i]? =some x:=⟨(t.aR.getD [])[i]'(by omega),List.getElem?_eq_getElem _⟩
       have hn:=kY (e:=uA.e) hp S7
       obtain⟨L,hL⟩:∃L,L=S7++((t.aR.getD []).take i).flatMap uA.e:=⟨_,rfl⟩
       have hL2:L.length<=934:=by rw[hL,List.length_append];omega
       have hb2:(0:Int)<=(i:Int)/\(i:Int)<((t.aR.getD []).length:Int):=by omega
       skip
       have w1:=u11 p
       simp only[Rl.cells,I,B,Fl]at w1
       have he:L++uA.e p=(((L)++bg 1 [p.bars,p.clear,p.iq,p.exit])++bg 2 [p.delay,p.green,p.ke,p.hold,p.stay,p.most])++bg 4 [p.limit]:=by rw[Kx];simp[bg,gH,cJ]
       rw[<-hL,he]at hn;rw[<-hL]
       have c0:=oo hS 1 (by omega) (by omega) (L) (some [p.bars,p.clear,p.iq,p.exit]) [p.bars,p.clear,p.iq,p.exit] rfl (Nat.le_of_ble_eq_true rfl) (by first|omega|(simp only[List.length_append,aP,bK,cJ,List.length_map,List.length_cons,List.length_nil];omega))
       have c1:=oo hS 2 (by omega) (by omega) ((L)++bg 1 [p.bars,p.clear,p.iq,p.exit]) (some [p.delay,p.green,p.ke,p.hold,p.stay,p.most]) [p.delay,p.green,p.ke,p.hold,p.stay,p.most] rfl (Nat.le_of_ble_eq_true rfl) (by first|omega|(simp only[List.length_append,aP,bK,cJ,List.length_map,List.length_cons,List.length_nil];omega))
       have c2:=rQ hP 4 (by omega) (by omega) (((L)++bg 1 [p.bars,p.clear,p.iq,p.exit])++bg 2 [p.delay,p.green,p.ke,p.hold,p.stay,p.most]) (p.limit) (by first|omega|(simp only[List.length_append,aP,bK,cJ,List.length_map,List.length_cons,List.length_nil];omega))
       try simp only[I,B,D,RY,↓KW,seval,hb2,hp,hl,g3,dg3,Rl.len',z11]
       try simp only[I,B,D,RY,↓KW,seval,w1,Rl.cells,z11]
       refine ai (c0) ?_;try simp only[I,B,D,RY,↓KW,seval,w1,Rl.cells,z11]
       refine ai (c1) ?_;try simp only[I,B,D,RY,↓KW,seval,w1,Rl.cells,z11]
       refine ai (c2) ?_;try simp only[I,B,D,RY,↓KW,seval,w1,Rl.cells,z11]
       refine back (i+1) _ (by omega) (by omega) ?_
       refine ah (by decide) ?_ ?_ ?_ ?_<;>simp[LX,I,B,D,hwi,hn,cR]
      ·have h3:i=(t.aR.getD []).length:=by have:=of_decide_eq_false h2;omega
       have ht:(t.aR.getD []).take i=t.aR.getD []:=by rw[h3];exact List.take_of_length_le (by omega)
       refine bI () trivial ?_
       refine ah (by decide) ?_ ?_ ?_ ?_<;>simp[LX,I,B,D,ht,cR]
     ·refine ah (by decide) ?_ ?_ ?_ ?_<;>simp[LX,I,B,D,cR]
    ·intro _ _
     obtain⟨S8,hS8⟩:∃S,S=S7++(t.aR.getD []).flatMap uA.e:=⟨_,rfl⟩
     rw[<-hS8]
     have lS8:S8.length<=934:=by rw[hS8,List.length_append];have:=eS (e:=uA.e) (z:=20) (l:=t.aR.getD []) (fun x _=>by rw[vJ];omega) (t.aR.getD []).length;rw[List.take_length]at this;omega
     try simp only[I,B,D,RY,↓KW,seval,hl,g4,dg4]
     have c:=rQ hP 1 (by omega) (by omega) S8 ((t.aX.getD []).length:Int) (by omega)
     try simp only[I,B,D,RY,↓KW,seval,hl,g4,dg4]
     refine ai c ?_
     obtain⟨S9,hS9⟩:∃S,S=S8++bg 1 [((t.aX.getD []).length:Int)]:=⟨_,rfl⟩
     have lS9:S9.length<=935:=by rw[hS9,List.length_append,aP];simp only[List.length_cons,List.length_nil];omega
     rw[<-hS9];try simp only[I,B,D,RY,↓KW,seval,hl]
     refine dR (.exit 10) (fun _:Unit=>(⟨[(3,.dat (aD dD (some (S9++(t.aX.getD []).flatMap uv.e))) none),(1,.rp t.cells)],[],[],400⟩:S)) (fun _=>True) (fun _=>rfl) ?_ ?_
     ·refine aH (fun i:Nat=>(⟨[(12,.dat (I i) none),(3,.dat (aD dD (some (S9++((t.aX.getD []).take i).flatMap uv.e))) none),(1,.rp t.cells)],[],[],400⟩:S)) (fun i=>(t.aX.getD []).length-i) (fun i=>i<=(t.aX.getD []).length) ?_ 0 (by omega) ?_
      ·intro i hi A back
       have hwi:=aF (k:=i) (by omega)
       have hlen:=eS (e:=uv.e) (z:=3) (l:=t.aX.getD []) (fun x _=>by rw[vK];omega) i
       skip;try simp only[I,B,D,RY,↓KW,seval,hl,g4,dg4]
       refine aq (fun h2=>?_) (fun h2=>?_)<;>try simp only[I,B,D,RY,↓KW,seval,h2]
       ·have h3:i<(t.aX.getD []).length:=by have:=of_decide_eq_true h2;omega
        obtain⟨p,hp⟩:∃x,(t.aX.getD [])[i]? =some x:=⟨(t.aX.getD [])[i]'(by omega),List.getElem?_eq_getElem _⟩
        have hn:=kY (e:=uv.e) hp S9
        obtain⟨L,hL⟩:∃L,L=S9++((t.aX.getD []).take i).flatMap uv.e:=⟨_,rfl⟩
        have hL2:L.length<=947:=by rw[hL,List.length_append];omega
        have hb2:(0:Int)<=(i:Int)/\(i:Int)<((t.aX.getD []).length:Int):=by omega
        have hgx:p.cells[0]? =some (I p.set)/\p.cells[1]? =some (I p.lock)/\p.cells.length=2/\(p.cells.drop 1)[0]? =some (I p.lock)/\(p.cells.drop 0)[0]? =some (I p.set):=⟨rfl,rfl,rfl,rfl,rfl⟩
        have w1:=u2 p
        simp only[Bs.cells,I,B,Fl]at w1
        have he:L++uv.e p=((L)++bg 1 [p.set])++bg 2 [p.lock]:=by rw[Ky];simp[bg,gH,cJ]
        rw[<-hL,he]at hn;rw[<-hL]
        have c0:=rQ hP 1 (by omega) (by omega) (L) (p.set) (by first|omega|(simp only[List.length_append,aP,bK,cJ,List.length_map,List.length_cons,List.length_nil];omega))
        have c1:=rQ hP 2 (by omega) (by omega) ((L)++bg 1 [p.set]) (p.lock) (by first|omega|(simp only[List.length_append,aP,bK,cJ,List.length_map,List.length_cons,List.length_nil];omega))
        try simp only[I,B,D,RY,↓KW,seval,hb2,hp,hl,g4,dg4,Bs.len',hgx]
        try simp only[I,B,D,RY,↓KW,seval,w1,Bs.cells,hl,hb2,hp,g4,dg4,hgx]
        refine ai (c0) ?_;try simp only[I,B,D,RY,↓KW,seval,w1,Bs.cells,hl,hb2,hp,g4,dg4,hgx]
        refine ai (c1) ?_;try simp only[I,B,D,RY,↓KW,seval,w1,Bs.cells,hl,hb2,hp,g4,dg4,hgx]
        refine back (i+1) _ (by omega) (by omega) ?_
        refine ah (by decide) ?_ ?_ ?_ ?_<;>simp[LX,I,B,D,hwi,hn,cR]
       ·have h3:i=(t.aX.getD []).length:=by have:=of_decide_eq_false h2;omega
        have ht:(t.aX.getD []).take i=t.aX.getD []:=by rw[h3];exact List.take_of_length_le (by omega)
        refine bI () trivial ?_
        refine ah (by decide) ?_ ?_ ?_ ?_<;>simp[LX,I,B,D,ht,cR]
      ·refine ah (by decide) ?_ ?_ ?_ ?_<;>simp[LX,I,B,D,cR]
     ·intro _ _
      obtain⟨S10,hS10⟩:∃S,S=S9++(t.aX.getD []).flatMap uv.e:=⟨_,rfl⟩
      rw[<-hS10]
      have lS10:S10.length<=947:=by rw[hS10,List.length_append];have:=eS (e:=uv.e) (z:=3) (l:=t.aX.getD []) (fun x _=>by rw[vK];omega) (t.aX.getD []).length;rw[List.take_length]at this;omega
      have cN:=oo hS 2 (by omega) (by omega) S10 (some [t.extend,t.cU,t.start,t.revert,t.least]) [t.extend,t.cU,t.start,t.revert,t.least] rfl (Nat.le_of_ble_eq_true rfl) (by omega)
      try simp only[I,B,D,RY,↓KW,seval,hl,n1,dn1,n2,dn2,n3,dn3,n4,dn4,n5,dn5]
      refine ai cN ?_
      obtain⟨S11,hS11⟩:∃S,S=S10++bg 2 [t.extend,t.cU,t.start,t.revert,t.least]:=⟨_,rfl⟩
      have lS11:S11.length<=957:=by rw[hS11,List.length_append,aP];simp only[List.length_cons,List.length_nil];omega
      rw[<-hS11]
      have cL:=oo hS 1 (by omega) (by omega) S11 (some t.bp) t.bp rfl (by rw[h.bp];omega) (by omega)
      try simp only[I,B,D,RY,↓KW,seval,hl,k3,List.length_drop]
      refine ai cL ?_
      obtain⟨S12,hS12⟩:∃S,S=S11++bg 1 t.bp:=⟨_,rfl⟩
      have lS12:S12.length<=965:=by rw[hS12,List.length_append,aP,h.bp];omega
      rw[<-hS12]
      have cW:=hT 4 (some S12) [t.dw,t.share] (by omega) (by omega) (by simp) (Nat.le_of_ble_eq_true rfl) (by rw[Option.getD_some];omega)
      have hS:S12++bg 4 [t.dw,t.share]=iY t:=by
       unfold iY;rw[Kz h,hS12,hS11,hS10,hS9,hS8,hS7,hS6,hS5,hS3,hS2,hS1,hS0];simp only[List.append_assoc]
      rw[Option.getD_some,hS]at cW;try simp only[I,B,D,RY,↓KW,seval,hl,n6,dn6,n7,dn7]
      refine uU cW ?_;try simp only[I,B,D,RY,↓KW,seval]
end
theorem NJ{l:List Int} (h:qd l) {k:Nat} {y:Int} (hy:0<=y/\y<256):qd (l.set k y):=fun x hx=>by
 rcases List.mem_or_eq_of_mem_set hx with h1|h1
 ·exact h x h1
 ·subst h1;exact hy
def b8(n:Int):AV:=.int .u8 n
theorem D5:∀l:List Int,(l.map dD).flatten=l.map b8
 |[]=>rfl
 |x::l=>by rw[List.map_cons,List.flatten_cons,D5 l];rfl
theorem Hw(l:List Int):uF 1 (l.map dD)=true:=by
 simp only[uF,List.all_eq_true,List.mem_map]
 rintro r ⟨x,_,rfl⟩
 rfl
theorem Bn:∀l:List Int,bZ 1 l.length (l.map b8)=l.map dD
 |[]=>rfl
 |x::l=>by
  have:=Bn l
  simp only[List.length_cons,bZ,List.map_cons,List.take_succ_cons,List.take_zero,List.drop_succ_cons,List.drop_zero,this];rfl
theorem NK{l:List Int} {k:Nat} (h:k<l.length) (v:Int):setCells (l.map b8) k [b8 v]=(l.set k v).map b8:=by
 rw[List.map_set];simp[setCells,List.set_eq_take_append_cons_drop,h]
theorem NL{C:bw} {c:bn} {Q:Exit->S->Prop} {s:S} {F:S->Prop} {α:Type} (ex:Exit) (st:α->S) (J:α->Prop) (hQ:∀s',Q ex s'=down F s') (h1:aw C c (Cut ex st J) s) (h2:∀y,J y->Wm F (st y)):aw C c Q s:=by
 refine ij ?_ h1
 rintro e s' ⟨rfl,y,hy,hle⟩
 rw[hQ];exact yq hle (h2 y hy)
section
variable{P:Program} (hm:P.follows .mixedOrders=true) {f:Nat}
include hm
def sR.Spec(C:bw) (f:Nat):Prop:=∀(l a b:Option (List Int)),qd (b.getD [])->C.c f [aD aA l,aD aA a,aD dD b] (B true) none
theorem sR.ok{fT fB fP fS fD fR fW fE fM fC eB:Nat} (hc:ji true P f=some (nw fT fB fP fS fD fR fW fE fM fC)) (hT:Table.Spec (Pure P) fT) (hB:D4.Spec (Pure P) eB fB) (hP:Place.Spec (Pure P) fP) (hS:DX.Spec (Pure P) fS) (hD:sN.Spec (Pure P) fD) (hR:sL.Spec (Pure P) fR)
  (hW:vP.Spec (Pure P) fW) (hE:sP.Spec (Pure P) fE) (hM:DW.Spec (Pure P) fM) (hC:Dv.Spec (Pure P) fC):sR.Spec (Pure P) f:=by
 intro l a b hbB
 have z3:bG=cV.cells:=rfl
 have z0:cV.cells.length=131:=rfl
 have z4:∀x y u v:AV,setCells [u,v] 0 [x,y]=[x,y]:=fun _ _ _ _=>rfl
 have y3:∀x y:AV,bF [x,y] 0 (some 2)=some (.agg [x,y]):=fun _ _=>rfl
 have cT:=hT l
 obtain⟨t,ht⟩:∃t,t=bu l:=⟨_,rfl⟩
 have k1:=uq l
 have km:=VV l
 rw[<-ht]at cT k1 km
 have kl:=k1.ln
 have cB:=hB t kl km
 have hbl:=KI kl km
 have hge:=F9 t
 have hLB:=Bl t
 obtain⟨L,hL⟩:∃L,L=iY t:=⟨_,rfl⟩
 rw[<-hL]at cB hbl hge hLB
 have hfl:=Hw L
 have hft:=D5 L
 obtain⟨as,has⟩:∃as,as=a.getD []:=⟨_,rfl⟩
 obtain⟨bs,hbs⟩:∃bs,bs=b.getD []:=⟨_,rfl⟩
 rw[<-hbs]at hbB
 have faA:=And.intro z3 (And.intro z0 (And.intro z4 (y3)))
 refine aB hm hc (by show 3<=100;decide) (ax (keep:=[0]) (i:=0) ?_)
 try simp only[I,B,D,RY,aK,aL,aN,↓KW,↓aM,seval,nw,Z.H]
 refine iI cT ?_;try simp only[I,B,D,RY,aK,aL,aN,↓KW,↓aM,seval,faA]
 refine G0 cB hfl ?_;try simp only[I,B,D,RY,aK,aL,aN,↓KW,↓aM,seval,faA,hft,List.length_map]
 refine NL (.exit 0) (fun X:List Int=>(⟨[(7,.vs 7 0 L.length 1)],[(7,⟨X.map b8,[]⟩)],[],400⟩:S)) (fun X=>qd X/\X.length=L.length) (fun _=>rfl) ?_ ?_
 ·refine aH (fun y:Nat×List Int=>(⟨[(8,.dat (I y.1) none),(7,.vs 7 0 L.length 1),(1,.dat (aD aA a) none),(2,.dat (aD dD b) none)],[(7,⟨y.2.map b8,[]⟩)],[],400⟩:S)) (fun y=>4-y.1) (fun y=>y.1<=4/\qd y.2/\y.2.length=L.length) ?_ (0,L) ⟨by omega,hLB,rfl⟩ ?_
  ·rintro⟨i,X⟩ ⟨hi,hX,hXl⟩ A back
   simp only at hi hX hXl
   have hwi:=aF (k:=i) (by omega)
   have stop:∀s,Le s (⟨[(7,.vs 7 0 L.length 1)],[(7,⟨X.map b8,[]⟩)],[],400⟩:S)->Cut (.exit 0) (fun X:List Int=>(⟨[(7,.vs 7 0 L.length 1)],[(7,⟨X.map b8,[]⟩)],[],400⟩:S)) (fun X=>qd X/\X.length=L.length) (.exit 0) s:=fun s hs=>bI X ⟨hX,hXl⟩ hs
   rcases Aj (decide ((i:Int)<(as.length:Int)))with h1|h1
   ·try simp only[I,B,D,RY,aK,aL,aN,↓KW,↓aM,seval,faA,<-has,<-hbs,h1]
    refine stop _ ?_
    refine ah (by decide) ?_ ?_ ?_ ?_<;>simp[LX,I,B,D,cR]
   rcases Aj (decide ((i:Int)<(bs.length:Int)))with h2|h2
   ·try simp only[I,B,D,RY,aK,aL,aN,↓KW,↓aM,seval,faA,<-has,<-hbs,h1,h2]
    refine stop _ ?_
    refine ah (by decide) ?_ ?_ ?_ ?_<;>simp[LX,I,B,D,cR]
   rcases Aj (decide ((i:Int)<4))with h4|h4
   ·try simp only[I,B,D,RY,aK,aL,aN,↓KW,↓aM,seval,faA,<-has,<-hbs,h1,h2,h4]
    refine stop _ ?_
    refine ah (by decide) ?_ ?_ ?_ ?_<;>simp[LX,I,B,D,cR]
   have hi4:i<4:=by have:=of_decide_eq_true h4;omega
   have ha:i<as.length:=by have:=of_decide_eq_true h1;omega
   have hb':i<bs.length:=by have:=of_decide_eq_true h2;omega
   obtain⟨v,hv⟩:∃v,as[i]? =some v:=⟨as[i],List.getElem?_eq_getElem ha⟩
   obtain⟨y,hy⟩:∃y,bs[i]? =some y:=⟨bs[i],List.getElem?_eq_getElem hb'⟩
   have hyb:=hbB y (List.mem_of_getElem? hy)
   have hp1:(0:Int)<=(i:Int)/\(i:Int)<(as.length:Int):=by omega
   have hp2:(0:Int)<=(i:Int)/\(i:Int)<(bs.length:Int):=by omega
   have hnb:=Hv (v:=v) (n:=(L.length:Int)) (by omega) (by omega)
   obtain⟨n,hn⟩:∃n:Nat,place v (L.length:Int)=n:=⟨(place v (L.length:Int)).toNat,by omega⟩
   have cP:=hP v (L.length:Int) (by omega)
   rw[hn]at hnb cP
   obtain⟨x,hx⟩:∃x,X[n]? =some x:=⟨X[n]'(by omega),List.getElem?_eq_getElem _⟩
   have hst:=NK (l:=X) (k:=n) (by omega) (BU .u8 x y)
   have hby:qd (X.set n (BU .u8 x y)):=NJ hX (by
    show 0<=IntKind.u8.wrap _/\IntKind.u8.wrap _<256
    rw[Ca];omega)
   have hbx:ez .xor (b8 x) (.int .u8 y)=some (b8 (BU .u8 x y)):=rfl
   have hbs':∀z,jq (b8 z) none=true/\(b8 z).cells=[b8 z]:=fun _=>⟨rfl,rfl⟩
   have hle:n+1<=X.length:=by omega
   try simp only[I,B,D,RY,aK,aL,aN,↓KW,↓aM,seval,faA,<-has,<-hbs,h1,h2,h4,hp1,hp2,hv,hy,aA,dD]
   refine iI cP ?_;try simp only[I,B,D,RY,aK,aL,aN,↓KW,↓aM,seval,faA,<-has,<-hbs,h1,h2,h4,hp1,hp2,hv,hy,aA,dD,hnb,hx,hbx,hbs',hst,List.length_map,Nat.zero_add,Nat.mul_one,hle,Int.toNat_natCast]
   refine back (i+1,X.set n (BU .u8 x y)) _ ⟨by omega,hby,by rw[List.length_set];exact hXl⟩ (by show 4-(i+1)<4-i;omega) ?_
   refine ah (by decide) ?_ ?_ ?_ ?_<;>simp[LX,I,B,D,hwi,cR]
  ·refine ah (by decide) ?_ ?_ ?_ ?_<;>simp[LX,I,B,D,cR]
 ·rintro X ⟨hX,hXl⟩
  refine⟨[7],rfl,?_⟩
  have hch:=Bn X
  rw[hXl]at hch
  have cS:=hS (some X) (by rw[Option.getD_some];omega) hX
  rw[Option.getD_some]at cS
  have hSB:=KJ hX
  have hsl:=D2 X
  have c1:=hD (some (mg X)) (by rw[Option.getD_some];omega) hSB
  have c2:=hR (some (mg X)) (by rw[Option.getD_some];omega) hSB
  rw[Option.getD_some]at c1 c2;obtain⟨kX,kXn⟩:=RE hSB
  obtain⟨⟨u,c,d⟩,hu⟩:∃x,x=kC (mg X):=⟨_,rfl⟩
  rw[<-hu]at c1 c2 kX kXn;rw[Ga]at c1 c2;simp only at kX kXn
  have lu:=Tb.len kX
  have wu:=kXn.whole
  have vu:setCells cV.cells 0 u.cells=u.cells:=dP (by rw[lu];rfl)
  have ii:=Np c d
  have xf:(true !=false)=true:=rfl
  try simp only[I,B,D,RY,aK,aL,aN,↓KW,↓aM,seval,faA,hch,List.length_map,hXl,Bool.and_true,cond_true]
  refine iI cS ?_;try simp only[I,B,D,RY,aK,aL,aN,↓KW,↓aM,seval,faA]
  refine iI c1 ?_;try simp only[I,B,D,RY,aK,aL,aN,↓KW,↓aM,seval,faA,lu,wu,vu]
  refine iI c2 ?_;try simp only[I,B,D,RY,aK,aL,aN,↓KW,↓aM,seval,faA,lu,wu,vu]
  by_cases hc0:c=0
  ·subst hc0
   obtain⟨hv,hse⟩:=KL hSB (t:=u) (a:=d) hu.symm
   obtain⟨ul,uf,um⟩:=J3 hv
   have cE:=hE u ul uf
   unfold E3 at cE;rw[if_pos um,<-hse]at cE
   have cM:=hM u u kX ul
   have e1:nV u u=true:=by unfold nV;simp
   rw[e1]at cM
   have cC:=hC (some (mg X)) (some (mg X)) (by rw[Option.getD_some];omega)
   rw[Option.getD_some,beq_self_eq_true]at cC
   have x0:((0:Int) !=0)=false:=rfl
   try simp only[I,B,D,RY,aK,aL,aN,↓KW,↓aM,seval,faA,lu,wu,vu,x0,xf]
   refine iI cE ?_;try simp only[I,B,D,RY,aK,aL,aN,↓KW,↓aM,seval,faA,lu,wu,vu,x0,xf]
   refine iI cM ?_;try simp only[I,B,D,RY,aK,aL,aN,↓KW,↓aM,seval,faA,lu,wu,vu,x0,xf]
   refine iI cC ?_;try simp only[I,B,D,RY,aK,aL,aN,↓KW,↓aM,seval,faA,lu,wu,vu,x0,xf]
   refine iI hW ?_;try simp only[I,B,D,RY,aK,aL,aN,↓KW,↓aM,seval,faA]
   all_goals rfl
  ·have hc1:(c !=0)=true:=by rw[bne_iff_ne];exact hc0
   try simp only[I,B,D,RY,aK,aL,aN,↓KW,↓aM,seval,faA,lu,wu,vu,hc1,ii,xf]
   refine iI hW ?_;try simp only[I,B,D,RY,aK,aL,aN,↓KW,↓aM,seval,faA]
   all_goals rfl
end
end Go.Eng
