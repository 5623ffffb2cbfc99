/- The engine and the library,part 20 of 20: what the proofs of this seat need of them. -/
import Derived.Test.YtkckiembbiiliaaGreatPk19
set_option linter.unnecessarySimpa false
set_option linter.unusedSimpArgs false
set_option linter.unusedVariables false
set_option linter.defProp false
set_option maxRecDepth 10000
set_option maxHeartbeats 4000000
namespace Go.Eng
open Go
theorem Ab(l:List Int):0<=ko l/\ko l<=2147483647:=by
 rcases List.eq_nil_or_concat l with rfl|⟨l',x,rfl⟩
 ·exact⟨by decide,by decide⟩
 ·rw[ko,List.concat_eq_append,List.foldl_append];exact nh _
theorem DZ(t:Tb) (p:Int):0<=qi t p/\qi t p<=2147483647:=by
 unfold qi;split
 ·exact Ab _
 ·exact⟨by decide,by decide⟩
theorem D0(t:Tb) (p:Int):0<=l5 t p/\l5 t p<=2147483647:=by
 unfold l5;split
 ·exact DZ _ _
 ·exact Ab _
theorem xG(t:Tb):∀k,0<=kH t k/\kH t k<=2147483647
 |0=>⟨by simp[kH],by simp[kH]⟩
 |k+1=>by
  have:=xG t k
  have h2:=D0 t k
  rw[kH];split<;>omega
theorem Ac(l:Option (List Int)) (G:Nat) (hG:G<=8):∀g,g<=G->∀gr∈(bA l G g).1,∀x∈gr.a.getD []++gr.b.getD [],0<=x/\x<8
 |0,_,gr,h=>by simp[bA]at h
 |g+1,hg,gr,h=>by
  obtain⟨gr',m,h1,h2,h3,h4⟩:=E4 l G hG (g:=g) (by omega)
  rw[h2]at h
  rcases List.mem_append.1 h with h|h
  ·exact Ac l G hG g (by omega) gr h
  ·rw[List.mem_singleton]at h;subst h
   intro x hx;rw[h4,dP,List.mem_map]at hx;obtain⟨j,hj,rfl⟩:=hx
   have:=sJ l G (g+1)
   have:=List.mem_range.1 hj
   omega
theorem Co:∀(k i:Nat),k<=8->i<8->(uv k).getD i 0=if i<k then 1 else 0
 |0,i,_,hi=>by rw[uv,List.getD_eq_getElem?_getD,List.getElem?_replicate,if_pos hi,if_neg (by omega)];rfl
 |k+1,i,hk,hi=>by
  have ih:=Co k i (by omega) hi
  rw[uv,List.getD_eq_getElem?_getD,List.getElem?_set]
  by_cases e:k=i
  ·subst e
   rw[if_pos rfl,if_pos (by rw[kr];omega),if_pos (by omega)];rfl
  ·rw[if_neg e,<-List.getD_eq_getElem?_getD,ih]
   by_cases h2:i<k
   ·rw[if_pos h2,if_pos (by omega)]
   ·rw[if_neg h2,if_neg (by omega)]
theorem Xm(l:Option (List Int)):∃q:Nat,∀p,p<8->NA (bg l) p=if q<nT l/\p=q then 2 else if p<nT l then 1 else 0:=by
 have r:=aQ l 174 (n:=((bS l).2:Int)+1) (by omega) (by have:=wH l;omega)
 refine⟨(bO l 174 (((bS l).2:Int)+1)).toNat,fun p hp=>?_⟩
 have hn:=(lO l).2
 have e:(bg l).bq=if bO l 174 (((bS l).2:Int)+1)<((bS l).2:Int)then(uv (bS l).2).set (bO l 174 (((bS l).2:Int)+1)).toNat 2 else uv (bS l).2:=rfl
 have hnT:nT l=(bS l).2:=rfl
 rw[NA,e,hnT];rw[hnT]at hn;generalize(bS l).2=n at*;generalize bO l 174 ((n:Int)+1)=q at*;split
 ·rename_i hq
  rw[List.getD_eq_getElem?_getD,List.getElem?_set]
  by_cases e2:q.toNat=p
  ·rw[if_pos e2,if_pos (by rw[kr];omega),if_pos ⟨by omega,e2.symm⟩];rfl
  ·have:¬(q.toNat<n/\p=q.toNat):=fun h=>e2 h.2.symm
   rw[if_neg e2,<-List.getD_eq_getElem?_getD,Co _ _ hn hp];simp only[this,if_false]
 ·rename_i hq
  have:¬(q.toNat<n/\p=q.toNat):=by omega
  rw[Co _ _ hn hp];simp only[this,if_false]
theorem NC{t:Tb} {l:Option (List Int)}:∀p,∀x∈gG t l p,Can x:=by
 have step:∀(p q:Nat) (c:List Int),(∀x∈c,Can x)->∀x∈gF t l p q c,Can x:=by
  intro p q c h x hx;unfold gF at hx;split at hx
  ·rcases List.mem_or_eq_of_mem_set hx with hx|rfl
   ·rcases List.mem_or_eq_of_mem_set hx with hx|rfl
    ·exact h x hx
    ·exact wP _ _
   ·exact wP _ _
  ·exact h x hx
 have row:∀(p q:Nat) (c:List Int),(∀x∈c,Can x)->∀x∈jC t l p q c,Can x:=by
  intro p q
  induction q with
  |zero=>intro c h;exact h
  |succ q ih=>intro c h;exact step p q _ (ih c h)
 intro p
 induction p with
 |zero=>
  intro x hx;rw[gG]at hx
  have:=List.eq_of_mem_replicate hx
  subst this;exact⟨by decide,by decide⟩
 |succ p ih=>exact row p p _ ih
theorem wQ{x:Int} (h:Can x):wI 255 x=true:=by
 simp only[wI,Bool.and_eq_true,decide_eq_true_eq]
 exact⟨h.1,by have:=h.2;omega⟩
theorem D1{x:Ph} (h:KE x):rP x=true:=by
 obtain⟨a1,a2,a3,a4,a5,a6,a7,a8,a9,_⟩:=h;simp only[rP,List.all_cons,List.all_nil,Bool.and_true,wI,Bool.and_eq_true,decide_eq_true_eq];omega
structure KH (n:Nat) (d:gu):Prop where
 phase:0<=d.phase/\d.phase<n
 may:lvl d.on=true/\lvl d.off=true/\eo d.delay=true/\eo d.extend=true
 most:0<=d.maxOn/\d.maxOn<=80/\0<=d.kg/\d.kg<=360
 order:Jj d.off d.on=false
theorem ND(l:Option (List Int)) (i:Int) {n:Nat} (hn:1<=n) (h8:n<=8):KH n (iP l i n):=by
 have r0:=aQ l i (n:=(n:Int)) (by omega) (by omega)
 have r1:=aQ l (bV (i+1)) (n:=4) (by decide) (by decide)
 have r2:=aQ l (bV (i+2)) (n:=3) (by decide) (by decide)
 have r3:=aQ l (bV (i+3)) (n:=4) (by decide) (by decide)
 have r4:=aQ l (bV (i+4)) (n:=6) (by decide) (by decide)
 have r6:=aQ l (bV (i+6)) (n:=60) (by decide) (by decide)
 have r7:=aQ l (bV (i+7)) (n:=300) (by decide) (by decide)
 obtain⟨a,ha⟩:∃m:Nat,bO l (bV (i+1)) 4=m:=⟨(bO l (bV (i+1)) 4).toNat,by omega⟩
 obtain⟨b,hb⟩:∃m:Nat,bO l (bV (i+2)) 3=m:=⟨(bO l (bV (i+2)) 3).toNat,by omega⟩
 obtain⟨c,hc⟩:∃m:Nat,bO l (bV (i+3)) 4=m:=⟨(bO l (bV (i+3)) 4).toNat,by omega⟩
 obtain⟨d,hd⟩:∃m:Nat,bO l (bV (i+4)) 6=m:=⟨(bO l (bV (i+4)) 6).toNat,by omega⟩
 have k1:∀a:Nat,a<4->lvl (tL a)=true:=by decide+kernel
 have k2:∀a:Nat,a<4->∀b:Nat,b<3->lvl (rH a b)=true/\Jj (rH a b) (tL a)=false:=by decide+kernel
 have k3:∀c:Nat,c<6->eo (vv c)=true:=by decide+kernel
 have e6:=gU (n:=20+bO l (bV (i+6)) 60) (by omega) (by omega)
 have e7:=gU (n:=60+bO l (bV (i+7)) 300) (by omega) (by omega)
 refine⟨r0,⟨?_,?_,?_,?_⟩,?_,?_⟩
 ·show lvl (tL _)=true;rw[ha];exact k1 a (by omega)
 ·show lvl (rH _ _)=true;rw[ha,hb];exact(k2 a (by omega) b (by omega)).1
 ·show eo (vv _)=true;rw[hc];exact k3 c (by omega)
 ·show eo (vv _)=true;rw[hd];exact k3 d (by omega)
 ·simp only[iP,e6,e7]
  split<;>split<;>omega
 ·show Jj (rH _ _) (tL _)=false;rw[ha,hb];exact(k2 a (by omega) b (by omega)).2
theorem VR(l:Option (List Int)):((bg l).aA.getD []).length<=8/\∀d∈(bg l).aA.getD [],KH (nT l) d:=by
 have e:(bg l).aA=bf (kG l (bS l).2 (bO l 175 9) (bO l 175 9).toNat):=rfl
 have r:=aQ l 175 (n:=9) (by decide) (by decide)
 rw[e,bL]
 refine⟨by rw[wJ];omega,fun d hd=>?_⟩
 rw[kG,List.mem_map]at hd;obtain⟨k,_,rfl⟩:=hd;exact ND _ _ (lO l).1 (lO l).2
theorem KI{p:Nat} (hp:p<8) (i:Nat):tb (N0 [(p:Int)]) i=decide (i=p):=by
 rw[Ob]
 by_cases h:i=p
 ·subst h;simp[hp]
 ·have:¬(i:Int)=(p:Int):=by omega
  simp[h,this]
theorem Ad(t:Tb) {p q:Nat} (hp:p<8) (hq:q<8) (i:Nat):tb (mb t p q) i=(decide (i=p)||(gz t p q&&decide (i=q))):=by
 unfold mb;cases gz t p q
 ·rw[if_neg (by simp),KI hp];simp
 ·rw[if_pos rfl,Ks hq,KI hp]
  by_cases h8:i<8
  ·simp[h8]
  ·have h1:¬i=p:=by omega
   have h2:¬i=q:=by omega
   simp[h8,h1,h2]
theorem Hu(t:Tb) (p q:Int):Can (mb t p q):=by
 unfold mb;split
 ·exact wP _ _
 ·exact Ga _
theorem yc:∀n:Nat,n<9->1<=n->∀i:Nat,i<64->tb (bV (bV (1*2^min (IntKind.u64.wrap (n:Int)).toNat 64)-1)) i=decide (i<n):=by decide+kernel
def VS(t:Tb) (n:Nat) (s:Int):Prop:=Can s/\(∀i,i<8->tb s i=true->i<n)/\∀i j,i<8->j<8->tb s i=true->tb s j=true->i≠j->gz t i j=true
theorem vK{t t':Tb} (hg:t.groups=t'.groups) {n p q:Nat} (h8:n<=8) (hp:p<n) (hq:q<n):VS t n (mb t' p q)/\mb t' p q≠0:=by
 have hb:=Cn hg
 refine⟨⟨Hu _ _ _,fun i hi h=>?_,fun i j hi hj h1 h2 hne=>?_⟩,fun e=>?_⟩
 ·rw[Ad t' (by omega) (by omega)]at h
  simp only[Bool.or_eq_true,Bool.and_eq_true,decide_eq_true_eq]at h;omega
 ·rw[Ad t' (by omega) (by omega)]at h1 h2
  simp only[Bool.or_eq_true,Bool.and_eq_true,decide_eq_true_eq]at h1 h2;rw[hb]
  rcases h1 with rfl|⟨hb1,rfl⟩
  ·rcases h2 with rfl|⟨hb2,rfl⟩
   ·exact absurd rfl hne
   ·exact hb2
  ·rcases h2 with rfl|⟨hb2,rfl⟩
   ·rw[E3];exact hb1
   ·exact absurd rfl hne
 ·have:=Ad t' (p:=p) (q:=q) (by omega) (by omega) p
  rw[e,x4]at this;simp at this
theorem KJ(t:Tb) (n:Nat):VS t n 0:=⟨⟨by decide,by decide⟩,(fun i _ h=>by rw[x4]at h;cases h),(fun i j _ _ h=>by rw[x4]at h;cases h)⟩
structure KK (t:Tb) (n:Nat) (r:Rl):Prop where
 bars:Can r.bars/\∀i,i<64->tb r.bars i=true->i<n/\tb r.ki i=false
 clear:VS t n r.clear
 ki:VS t n r.ki/\r.ki≠0
 exit:VS t n r.exit/\r.exit≠0
 hold:(1<=r.hold/\r.hold<=10/\r.clear≠0)\/(r.hold=0/\r.clear=0)
 Ye:0<=r.delay/\r.delay<=3/\1<=r.green/\r.green<=6/\0<=r.lU/\r.lU<=5/\1<=r.stay/\r.stay<=15
 most:r.most=0\/(r.stay<=r.most/\r.most<=44)
 limit:r.delay<r.limit/\r.limit<=10004
theorem NF{t t':Tb} (hg:t.groups=t'.groups) (l:Option (List Int)) (i:Int) {n:Nat} (hn:1<=n) (h8:n<=8):KK t n (oh t' l i n):=by
 have nat:∀j:Int,∃m:Nat,bO l j (n:Int)=m/\m<n:=fun j=>by
  have:=aQ l j (n:=(n:Int)) (by omega) (by omega)
  exact⟨(bO l j n).toNat,by omega,by omega⟩
 obtain⟨a0,e0,k0⟩:=nat i
 obtain⟨a1,e1,k1⟩:=nat (bV (i+1))
 obtain⟨a2,e2,k2⟩:=nat (bV (i+2))
 obtain⟨a3,e3,k3⟩:=nat (bV (i+3))
 obtain⟨a5,e5,k5⟩:=nat (bV (i+5))
 have en:bV ((n:Int)+1)=(n:Int)+1:=gU (by omega) (by omega)
 have r4:=aQ l (bV (i+4)) (n:=(n:Int)+1) (by omega) (by omega)
 have r6:=aQ l (bV (i+6)) (n:=10) (by decide) (by decide)
 have r7:=aQ l (bV (i+7)) (n:=256) (by decide) (by decide)
 have r8:=aQ l (bV (i+8)) (n:=4) (by decide) (by decide)
 have r9:=aQ l (bV (i+9)) (n:=6) (by decide) (by decide)
 have ra:=aQ l (bV (i+10)) (n:=6) (by decide) (by decide)
 have rb:=aQ l (bV (i+11)) (n:=15) (by decide) (by decide)
 have rd:=aQ l (bV (i+13)) (n:=30) (by decide) (by decide)
 have re:=aQ l (bV (i+14)) (n:=3) (by decide) (by decide)
 have w6:=gU (n:=1+bO l (bV (i+6)) 10) (by omega) (by omega)
 have w9:=gU (n:=1+bO l (bV (i+9)) 6) (by omega) (by omega)
 have wb:=gU (n:=1+bO l (bV (i+11)) 15) (by omega) (by omega)
 have wd:=gU (n:=1+bO l (bV (i+11)) 15+bO l (bV (i+13)) 30) (by omega) (by omega)
 have w8:=gU (n:=bO l (bV (i+8)) 4+1) (by omega) (by omega)
 have hlim:∃v:Int,[10000,400,20].getD (bO l (bV (i+14)) 3).toNat 0=v/\20<=v/\v<=10000:=by
  have:(bO l (bV (i+14)) 3).toNat=0\/(bO l (bV (i+14)) 3).toNat=1\/(bO l (bV (i+14)) 3).toNat=2:=by omega
  rcases this with h|h|h<;>rw[h]
  ·exact⟨10000,rfl,by decide,by decide⟩
  ·exact⟨400,rfl,by decide,by decide⟩
  ·exact⟨20,rfl,by decide,by decide⟩
 obtain⟨v,hv,v1,v2⟩:=hlim
 have wl:=gU (n:=bO l (bV (i+8)) 4+1+v) (by omega) (by omega)
 have td:=vK hg h8 k0 k1
 have te:=vK hg h8 k2 k3
 refine⟨?_,?_,?_,?_,?_,?_,?_,?_⟩<;>simp only[oh,e0,e1,e2,e3,e5,en,w6,w9,wb,wd,w8,hv,wl]
 ·have hbits:∀j,j<64->tb (nP .i64 (oa .i64 (bO l (bV (i+7)) 256) (bV (bV (1*2^min (IntKind.u64.wrap (n:Int)).toNat 64)-1))) (mb t' a0 a1)) j=true->j<n/\tb (mb t' a0 a1) j=false:=by
   intro j hj h
   rw[A9 _ _ _ hj,ET,yc n (by omega) hn j hj]at h
   simp only[Bool.and_eq_true,Bool.not_eq_true',decide_eq_true_eq]at h;exact⟨h.1.2,h.2⟩
  refine⟨?_,hbits⟩
  have e:nP .i64 (oa .i64 (bO l (bV (i+7)) 256) (bV (bV (1*2^min (IntKind.u64.wrap (n:Int)).toNat 64)-1))) (mb t' a0 a1)=IntKind.i64.wrap ((bv (oa .i64 (bO l (bV (i+7)) 256) (bV (bV (1*2^min (IntKind.u64.wrap (n:Int)).toNat 64)-1)))&&& ~~~bv (mb t' a0 a1)).toNat:Int):=rfl
  rw[e]
  refine zZ fun j h1 h2=>?_
  have h3:=A9 (oa .i64 (bO l (bV (i+7)) 256) (bV (bV (1*2^min (IntKind.u64.wrap (n:Int)).toNat 64)-1))) (mb t' a0 a1) j h2
  have h4:=yc n (by omega) hn j h2
  have h5:¬j<n:=by omega
  have h6:=ET (bO l (bV (i+7)) 256) (bV (bV (1*2^min (IntKind.u64.wrap (n:Int)).toNat 64)-1)) j
  rw[h4]at h6;simp only[h5,decide_false,Bool.and_false]at h6;simp only[tb]at h6;rw[BitVec.getLsbD_and,h6];rfl
 ·split
  ·rename_i hp
   obtain⟨p,hpn⟩:∃p:Nat,bO l (bV (i+4)) ((n:Int)+1)=p:=⟨(bO l (bV (i+4)) ((n:Int)+1)).toNat,by omega⟩
   rw[hpn]at hp⊢
   exact(vK hg h8 (by omega) k5).1
  ·exact KJ _ _
 ·exact td
 ·exact te
 ·split
  ·rename_i hp
   obtain⟨p,hpn⟩:∃p:Nat,bO l (bV (i+4)) ((n:Int)+1)=p:=⟨(bO l (bV (i+4)) ((n:Int)+1)).toNat,by omega⟩
   rw[hpn]at hp⊢
   exact .inl ⟨by omega,by omega,(vK hg h8 (by omega) k5).2⟩
  ·exact .inr ⟨rfl,rfl⟩
 ·omega
 ·split
  ·right;omega
  ·left;rfl
 ·omega
theorem Rz(l:Option (List Int)):((bg l).aV.getD []).length<=2/\∀r∈(bg l).aV.getD [],KK (bg l) (nT l) r:=by
 have e:(bg l).aV=bf (ff {cv with groups:=some (bS l).1} l (bS l).2 ((bO l 176 4).tmod 3) ((bO l 176 4).tmod 3).toNat):=rfl
 have h:=Int.tmod_lt_of_pos (bO l 176 4) (b:=3) (by decide)
 rw[e,bL]
 refine⟨by rw[uw];omega,fun d hd=>?_⟩
 rw[ff,List.mem_map]at hd;obtain⟨k,_,rfl⟩:=hd;exact NF rfl _ _ (lO l).1 (lO l).2
theorem RA(l:Option (List Int)):((bg l).bl.getD []).length<=2/\∀b∈(bg l).bl.getD [],(Can b.set/\b.set≠0/\∀i,i<64->tb b.set i=true->i<nT l)/\1<=b.lock/\b.lock<=30:=by
 have e:(bg l).bl=bf (mc l (bS l).2 (bO l 177 3) (bO l 177 3).toNat):=rfl
 have r:=aQ l 177 (n:=3) (by decide) (by decide)
 rw[e,bL]
 refine⟨by rw[sK];omega,fun b hb=>?_⟩
 rw[mc,List.mem_map]at hb;obtain⟨k,_,rfl⟩:=hb
 have hnT:nT l=(bS l).2:=rfl
 have hn:=lO l
 rw[hnT]at hn⊢;generalize(bS l).2=n at*;generalize bO l 177 3-(k:Int)=i
 have r1:=aQ l (331+2*i) (n:=30) (by decide) (by decide)
 have w1:=gU (n:=1+bO l (331+2*i) 30) (by omega) (by omega)
 have r0:=aQ l (330+2*i) (n:=256) (by decide) (by decide)
 generalize hx:oa .i64 (bO l (330+2*i) 256) (bV (bV (1*2^min (IntKind.u64.wrap (n:Int)).toNat 64)-1))=x
 have hbits:∀j,j<64->tb x j=true->j<n:=by
  intro j hj h
  rw[<-hx,ET,yc n (by omega) hn.1 j hj]at h
  simp only[Bool.and_eq_true,decide_eq_true_eq]at h;exact h.2
 have hcan:Can x:=by
  have e:x=IntKind.i64.wrap ((bv (bO l (330+2*i) 256)&&&bv (bV (bV (1*2^min (IntKind.u64.wrap (n:Int)).toNat 64)-1))).toNat:Int):=hx.symm
  rw[e]
  refine zZ fun j h1 h2=>?_
  have h4:=yc n (by omega) hn.1 j h2
  have h5:¬j<n:=by omega
  simp only[h5,decide_false,tb]at h4;rw[BitVec.getLsbD_and,h4,Bool.and_false]
 refine⟨?_,?_⟩
 ·simp only[A8,hx]
  split
  ·exact⟨hcan,by omega,hbits⟩
  ·refine⟨⟨by decide,by decide⟩,by decide,fun j hj h=>?_⟩
   have:∀j,j<64->tb 1 j=decide (j=0):=by decide+kernel
   rw[this j hj]at h
   have:=of_decide_eq_true h;omega
 ·simp only[A8,w1];omega
theorem Oh(l:Option (List Int)):mH (bg l)=true:=by
 have hln:=(pR l).ln
 have hG:=pQ l
 obtain⟨d1,d2⟩:=VR l;obtain⟨r1,r2⟩:=Rz l;obtain⟨b1,b2⟩:=RA l
 have hn:=lO l
 have m1:(bg l).phases.all rP=true:=by
  rw[List.all_eq_true];intro x hx
  obtain⟨i,hi⟩:=List.mem_iff_getElem?.1 hx
  have h8:i<8:=by have:=(List.getElem?_eq_some_iff.1 hi).1;rw[hln.phases]at this;exact this
  have e:=hln.Rf h8
  rw[hi]at e
  have e:=Option.some.inj e
  rw[e,Yd l h8];split
  ·exact D1 (NB _ _)
  ·decide
 have m2:(decide ((((bg l).groups.getD []).length:Int)<=4)&&((bg l).groups.getD []).all lI)=true:=by
  have e:(bg l).groups.getD []=(bA l (dH l) (dH l)).1:=rfl
  have h1:(((bA l (dH l) (dH l)).1).length:Int)<=4:=by rw[pN];omega
  rw[e,Bool.and_eq_true,decide_eq_true_eq]
  refine⟨h1,List.all_eq_true.2 fun g hg=>?_⟩
  have hs:=pP l (dH l) (dH l) g hg
  have he:=Ac l (dH l) (by omega) (dH l) (Nat.le_refl _) g hg
  have hw:∀x∈g.a.getD []++g.b.getD [],wI 7 x=true:=fun x hx=>by
   have:=he x hx
   simp only[wI,Bool.and_eq_true,decide_eq_true_eq];omega
  simp only[lI,lW,Bool.and_eq_true,decide_eq_true_eq,List.all_eq_true,List.all_cons,List.all_nil,Bool.and_true]
  exact⟨⟨by omega,fun x hx=>hw x (List.mem_append_left _ hx)⟩,by omega,fun x hx=>hw x (List.mem_append_right _ hx)⟩
 have m3:(bg l).conflict.all (wI 255)=true:=List.all_eq_true.2 fun x hx=>wQ (NC _ x hx)
 have m4:(decide ((((bg l).aA.getD []).length:Int)<=16)&&((bg l).aA.getD []).all gI)=true:=by
  rw[Bool.and_eq_true,decide_eq_true_eq]
  refine⟨by omega,List.all_eq_true.2 fun d hd=>?_⟩
  obtain⟨g1,⟨g2,g3,g4,g5⟩,g6,_⟩:=d2 d hd;simp only[gI,g2,g3,g4,g5,List.all_cons,List.all_nil,Bool.and_true,Bool.true_and,wI,Bool.and_eq_true,decide_eq_true_eq];omega
 have m5:(decide ((((bg l).aV.getD []).length:Int)<=4)&&((bg l).aV.getD []).all tN)=true:=by
  rw[Bool.and_eq_true,decide_eq_true_eq]
  refine⟨by omega,List.all_eq_true.2 fun d hd=>?_⟩
  obtain⟨g1,g2,g3,g4,g5,g6,g7,g8⟩:=r2 d hd
  have k1:=wQ g1.1
  have k2:=wQ g2.1
  have k3:=wQ g3.1.1
  have k4:=wQ g4.1.1
  simp only[tN,k1,k2,k3,k4,List.all_cons,List.all_nil,Bool.and_true,Bool.true_and];simp only[wI,Bool.and_eq_true,decide_eq_true_eq];omega
 have m6:(decide ((((bg l).bl.getD []).length:Int)<=4)&&((bg l).bl.getD []).all tO)=true:=by
  rw[Bool.and_eq_true,decide_eq_true_eq]
  refine⟨by omega,List.all_eq_true.2 fun d hd=>?_⟩
  obtain⟨⟨g1,_⟩,g2⟩:=b2 d hd
  have k1:=wQ g1
  simp only[tO,k1,List.all_cons,List.all_nil,Bool.and_true,Bool.true_and];simp only[wI,Bool.and_eq_true,decide_eq_true_eq];omega
 have m7:[(bg l).extend,(bg l).cV,(bg l).start,(bg l).revert,(bg l).least].all (wI 9999)=true:=by
  have q1:=aQ l 178 (n:=12) (by decide) (by decide)
  have q2:=aQ l 179 (n:=40) (by decide) (by decide)
  have q3:=aQ l 180 (n:=8) (by decide) (by decide)
  have q4:=aQ l 181 (n:=8) (by decide) (by decide)
  have q5:=aQ l 182 (n:=12) (by decide) (by decide)
  have f1:(bg l).extend=bO l 178 12:=rfl
  have f2:(bg l).cV=bO l 179 40:=rfl
  have f3:(bg l).start=bO l 180 8:=rfl
  have f4:(bg l).revert=bO l 181 8:=rfl
  have f5:(bg l).least=bO l 182 12:=rfl
  rw[f1,f2,f3,f4,f5];simp only[List.all_cons,List.all_nil,Bool.and_true,wI,Bool.and_eq_true,decide_eq_true_eq];omega
 have m8:(bg l).bq.all (wI 2)=true:=by
  obtain⟨q,hq⟩:=Xm l;rw[List.all_eq_true];intro x hx
  obtain⟨i,hi⟩:=List.mem_iff_getElem?.1 hx
  have h8:i<8:=by have:=(List.getElem?_eq_some_iff.1 hi).1;rw[hln.bq]at this;exact this
  have e:NA (bg l) i=x:=by rw[NA,List.getD_eq_getElem?_getD,hi];rfl
  rw[<-e,hq i h8];split
  ·decide
  ·split<;>decide
 have m9:[(bg l).dw,(bg l).share].all (wI 2147483647)=true:=by
  have q1:=aQ l 183 (n:=4) (by decide) (by decide)
  have f1:(bg l).share=bO l 183 4:=rfl
  have f2:0<=(bg l).dw/\(bg l).dw<=2147483647:=by
   have e:(bg l).dw=if(ff {cv with groups:=some (bS l).1} l (bS l).2 ((bO l 176 4).tmod 3) ((bO l 176 4).tmod 3).toNat)=[]then 0 else kH (bw l) (bS l).2:=rfl
   rw[e];split
   ·exact⟨by decide,by decide⟩
   ·exact xG _ _
  rw[f1];simp only[List.all_cons,List.all_nil,Bool.and_true,wI,Bool.and_eq_true,decide_eq_true_eq];omega
 rw[mH,m1,m2,m3,m4,m5,m6,m7,m8,m9];rfl
theorem NG(g:Gr):wK.e (vD g)=wK.e g:=by simp only[KB,vD,bL]
theorem KL(l:List Gr):(l.map vD).flatMap wK.e=l.flatMap wK.e:=by
 induction l with
 |nil=>rfl
 |cons g l ih=>rw[List.map_cons,List.flatMap_cons,List.flatMap_cons,ih,NG]
theorem KM{t:Tb} (h:t.Ln):(qt t).Ln:=⟨h.phases,h.conflict,h.bq⟩
theorem Cp{t:Tb} (h:t.Ln):jY.e (qt t)=jY.e t:=by
 rw[F8 h,F8 (KM h)];simp only[qt,bL,KL,List.length_map]
theorem vL{t:Tb} (h:t.Ln) (hm:mH t=true):(bC t).length<=973:=by
 simp only[mH,Bool.and_eq_true,List.all_eq_true,decide_eq_true_eq]at hm;obtain⟨⟨⟨⟨⟨⟨⟨⟨_,hg1,hg2⟩,_⟩,hd1,_⟩,hr1,_⟩,hb1,_⟩,_⟩,_⟩,_⟩:=hm
 have f1:=jm (e:=xO.e) (z:=22) (l:=t.phases) (fun x _=>by rw[Ci];omega) t.phases.length
 have f2:=jm (e:=wK.e) (z:=18) (l:=t.groups.getD []) (fun x hx=>Cl (hg2 x hx)) (t.groups.getD []).length
 have f3:=jm (e:=nF.e) (z:=37) (l:=t.aA.getD []) (fun x _=>by rw[zX];omega) (t.aA.getD []).length
 have f4:=jm (e:=Ag.e) (z:=20) (l:=t.aV.getD []) (fun x _=>by rw[Cj];omega) (t.aV.getD []).length
 have f5:=jm (e:=zR.e) (z:=3) (l:=t.bl.getD []) (fun x _=>by rw[Ck];omega) (t.bl.getD []).length
 rw[List.take_length]at f1 f2 f3 f4 f5;rw[h.phases]at f1;unfold bC;rw[F8 h];simp only[List.length_append,bH,List.length_cons,List.length_nil,h.conflict,h.bq];omega
theorem oY(b:List Int):(dR b).length=b.length+2:=by unfold dR;rw[List.length_append,dz]
theorem vM(t:Tb):3<=(bC t).length:=by unfold bC;simp
theorem Gc{a b:List Int} (h1:sM a) (h2:sM b):sM (a++b):=fun x hx=>(List.mem_append.1 hx).elim (h1 x) (h2 x)
theorem vN{b:List Int} (h:sM b):sM (dR b):=Gc h (x8 _ _)
def r3(l:List Int):aU:=⟨some l,3,0,0⟩
theorem KN{l:List Int} (h3:3<=l.length) (h:l.length<=2048):(r3 l).Ok:=⟨by show(0:Int)<=3;omega,by show(3:Int)<=(l.length:Int);omega,by show(l.length:Int)<=1000000;omega⟩
theorem Cq(l:List Int):(r3 l).rest'=l.drop 3:=rfl
theorem D2{t:Tb} (h:t.Ln) (hf:t.Fw) (hm:mH t=true) (tl:List Int) (hl:(bC t++tl).length<=2048):
  jY.m (r3 (bC t++tl))=(qt t,(r3 (bC t++tl)).go (jY.e t).length)/\((r3 (bC t++tl)).go (jY.e t).length).rest'=tl/\((r3 (bC t++tl)).go (jY.e t).length).Ok:=by
 have hge:=vM t
 have hok:(r3 (bC t++tl)).Ok:=KN (by rw[List.length_append];omega) hl
 have hr:(r3 (bC t++tl)).rest'=jY.e (qt t)++tl:=by rw[Cq,Cp h];rfl
 have hb:=jY.back _ (qt t) tl hok rfl (J8 h hf hm) hr
 rw[Cp h]at hb hr;refine⟨hb,vB hok hr,?_⟩
 have:=jY.ok _ hok
 rw[hb]at this;exact this
theorem NH(t:Tb) (tl:List Int):((r3 (bC t++tl)).go (jY.e t).length).dD=((bC t).length:Int):=by
 show(3:Int)+((jY.e t).length:Int)=_
 unfold bC;simp;omega
theorem KO(l:List Int):(0:Int)<=((iw 0xffff#16 l).toNat:Int)/\((iw 0xffff#16 l).toNat:Int)<=65535:=by have:=(iw 0xffff#16 l).isLt;omega
theorem D3{t:Tb} (h:t.Ln) (hf:t.Fw) (hm:mH t=true) (more:List Int) (hl:more.length<=1000):
  iy (dR (bC t)++more)=if more=[]then(qt t,0,0)else(cv,6,((dR (bC t)).length:Int)):=by
 have hbl:=vL h hm
 have hge:=vM t
 have hw:=KO (bC t)
 obtain⟨w,hwd⟩:∃w:Int,w=((iw 0xffff#16 (bC t)).toNat:Int):=⟨_,rfl⟩
 rw[<-hwd]at hw
 have e0:dR (bC t)++more=bC t++(gV w 2++more):=by rw[hwd];unfold dR;rw[List.append_assoc]
 have hlen:(bC t++(gV w 2++more)).length=(bC t).length+2+more.length:=by simp[dz];omega
 have hl2:(bC t++(gV w 2++more)).length<=2048:=by omega
 obtain⟨m1,m2,m3⟩:=D2 h hf hm _ hl2
 have hat:=NH t (gV w 2++more)
 rw[e0]
 have hs:=lX.back _ w more m3 rfl hw m2
 have hse:(lX.e w).length=2:=dz w 2
 rw[hse]at hs;generalize hR:(r3 (bC t++(gV w 2++more))).go (jY.e t).length=R at*
 have hcode:(R.go 2).code=0:=by rw[<-hR];rfl
 have htk:(bC t++(gV w 2++more)).take R.dD.toNat=bC t:=by rw[hat,Int.toNat_natCast,List.take_left]
 have hma:(bC t++(gV w 2++more)).take 3=[88,66,1]:=rfl
 unfold iy
 rw[if_neg (by omega),if_neg (by omega),if_neg (by rw[hma];simp)]
 simp only[]
 rw[show aU.mk (some (bC t++(gV w 2++more))) 3 0 0=r3 (bC t++(gV w 2++more))from rfl,m1]
 simp only[];rw[hs];simp only[htk,<-hwd]
 rw[if_neg (by rw[hcode];simp),if_neg (by simp)]
 have h2:(R.go 2).dD=((bC t).length:Int)+2:=by show R.dD+((2:Nat):Int)=_;rw[hat];rfl
 rw[h2]
 by_cases hmo:more=[]
 ·subst hmo
  rw[if_pos rfl,if_neg (by rw[hlen];simp)]
 ·have:0<more.length:=List.length_pos_iff.2 hmo
  rw[if_neg hmo,if_pos (by rw[hlen];simp;omega),oY]
  simp
theorem KQ{t:Tb} (h:t.Ln) (hf:t.Fw) (hm:mH t=true):iy (dR (bC t))=(qt t,0,0):=by
 have:=D3 h hf hm [] (by simp)
 rw[List.append_nil,if_pos rfl]at this;exact this
theorem NI{t:Tb} (h:t.Ln) (hf:t.Fw) (hm:mH t=true) (k:Nat) (hk:k<(dR (bC t)).length):iy ((dR (bC t)).take k)=(cv,2,(k:Int)):=by
 have hbl:=vL h hm
 have hge:=vM t
 have hsl:=oY (bC t)
 have hw:=KO (bC t)
 obtain⟨w,hwd⟩:∃w:Int,w=((iw 0xffff#16 (bC t)).toNat:Int):=⟨_,rfl⟩
 rw[<-hwd]at hw
 have e0:dR (bC t)=bC t++gV w 2:=by rw[hwd];rfl
 have hlen:((dR (bC t)).take k).length=k:=by rw[List.length_take];omega
 have h1:¬((dR (bC t)).take k).length>2048:=by omega
 by_cases h2:k<3
 ·unfold iy
  rw[if_neg h1,if_pos (by omega),hlen]
 have hma:((dR (bC t)).take k).take 3=[88,66,1]:=by
  rw[List.take_take,show min 3 k=3 by omega];rfl
 have hok:(r3 ((dR (bC t)).take k)).Ok:=KN (by omega) (by omega)
 have hend:∀q:Int×aU,lX.m (jY.m (r3 ((dR (bC t)).take k))).2=q->q.2.code=2->q.2.Eb=(k:Int)->iy ((dR (bC t)).take k)=(cv,2,(k:Int)):=by
  intro q hq hc hf;unfold iy
  rw[if_neg h1,if_neg (by omega),if_neg (by rw[hma];simp)]
  simp only[]
  rw[show aU.mk (some ((dR (bC t)).take k)) 3 0 0=r3 ((dR (bC t)).take k)from rfl,hq,if_pos (by rw[hc];decide),hc,hf]
 have hlr:(r3 ((dR (bC t)).take k)).len=(k:Int):=by show(((dR (bC t)).take k).length:Int)=_;rw[hlen]
 have hbe:bC t=[88,66,1]++jY.e t:=rfl
 by_cases h3:k<(bC t).length
 ·have hr:jY.e (qt t)=(r3 ((dR (bC t)).take k)).rest'++(bC t).drop k:=by
   rw[Cq,Cp h,e0,List.take_append_of_le_length (by omega)]
   have:(bC t).drop 3=jY.e t:=rfl
   rw[<-this,List.drop_take]
   have e2:(bC t).drop k=((bC t).drop 3).drop (k-3):=by rw[List.drop_drop];congr 1;omega
   rw[e2,List.take_append_drop]
  obtain⟨c1,c2⟩:=jY.cut _ (qt t) _ hok rfl (J8 h hf hm) hr (by intro e;have:=congrArg List.length e;rw[List.length_drop]at this;simp at this;omega)
  have hst:=lX.stay (jY.m (r3 ((dR (bC t)).take k))).2 (by rw[c1];decide)
  exact hend _ rfl (by rw[hst];exact c1) (by rw[hst,c2,hlr])
 ·have e3:(dR (bC t)).take k=bC t++(gV w 2).take (k-(bC t).length):=by
   rw[e0,List.take_append,List.take_of_length_le (by omega)]
  obtain⟨m1,m2,m3⟩:=D2 h hf hm ((gV w 2).take (k-(bC t).length)) (by rw[<-e3];omega)
  rw[<-e3]at m1 m2 m3
  have hcut:=lX.cut _ w ((gV w 2).drop (k-(bC t).length)) m3 rfl hw (by rw[m2,List.take_append_drop];rfl) (by intro e;have:=congrArg List.length e;rw[List.length_drop,dz]at this;simp at this;omega)
  refine hend _ rfl ?_ ?_
  ·rw[m1];exact hcut.1
  ·rw[m1,hcut.2];exact hlr
theorem KR{t:Tb} (h:t.Ln) (hm:mH t=true):t.Ok:=by
 simp only[mH,Bool.and_eq_true,List.all_eq_true,decide_eq_true_eq]at hm;obtain⟨⟨⟨⟨⟨⟨⟨⟨_,hg1,hg2⟩,_⟩,hd1,_⟩,hr1,_⟩,hb1,_⟩,_⟩,_⟩,_⟩:=hm
 exact⟨h.phases,h.conflict,h.bq,by omega,fun g hg=>by have:=Bj (hg2 g hg);omega,by omega,by omega,by omega⟩
theorem RB{l:List Int} (hB:sM l) {t:Tb} {a:Int} (h:iy l=(t,0,a)):jY.v t/\l=dR (bC t):=by
 unfold iy at h
 by_cases h1:l.length>2048
 ·rw[if_pos h1]at h;simp at h
 rw[if_neg h1]at h
 by_cases h2:l.length<3
 ·rw[if_pos h2]at h;simp at h
 rw[if_neg h2]at h
 by_cases h3:l.take 3≠[88,66,1]
 ·rw[if_pos h3]at h;simp at h
 rw[if_neg h3]at h;simp only[]at h
 by_cases h4:(lX.m (jY.m ⟨some l,3,0,0⟩).2).2.code≠0
 ·rw[if_pos h4]at h
  simp only[Prod.mk.injEq]at h;exact absurd h.2.1 h4
 rw[if_neg h4]at h
 have h4:=Classical.not_not.1 h4
 by_cases h5:(lX.m (jY.m ⟨some l,3,0,0⟩).2).1≠((iw 0xffff#16 (l.take (jY.m ⟨some l,3,0,0⟩).2.dD.toNat)).toNat:Int)
 ·rw[if_pos h5]at h;simp at h
 rw[if_neg h5]at h
 have h5:=Classical.not_not.1 h5
 by_cases h6:(lX.m (jY.m ⟨some l,3,0,0⟩).2).2.dD<(l.length:Int)
 ·rw[if_pos h6]at h;simp at h
 rw[if_neg h6]at h
 have h3:=Classical.not_not.1 h3
 have hok:(r3 l).Ok:=KN (by omega) (by omega)
 have ht:(jY.m (r3 l)).1=t:=by simp only[Prod.mk.injEq]at h;exact h.1
 have hc1:(jY.m (r3 l)).2.code=0:=by
  by_cases hc:(jY.m (r3 l)).2.code=0
  ·exact hc
  ·exfalso
   have:=lX.stay _ hc
   change (lX.m (jY.m (r3 l)).2).2.code=0 at h4
   rw[this]at h4;exact hc h4
 obtain⟨v1,tl1,e1,g1⟩:=jY.wrote (r3 l) hok hB rfl hc1
 have hok1:=jY.ok (r3 l) hok
 have hb1:(jY.m (r3 l)).2.sM:=by unfold aU.sM;rw[jY.keep];exact hB
 obtain⟨v2,tl2,e2,g2⟩:=lX.wrote (jY.m (r3 l)).2 hok1 hb1 hc1 h4
 rw[ht]at v1 e1 g1
 have hr1:(jY.m (r3 l)).2.rest'=tl1:=by rw[g1];exact vB hok e1
 rw[hr1]at e2
 have hl:l=bC t++tl1:=by
  have:l=l.take 3++l.drop 3:=(List.take_append_drop 3 l).symm
  rw[Cq]at e1;rw[h3,e1]at this;rw[this];unfold bC;simp
 have hat1:(jY.m (r3 l)).2.dD=((bC t).length:Int):=by
  rw[g1]
  show(3:Int)+((jY.e t).length:Int)=_
  unfold bC;simp;omega
 have htl2:tl2=[]:=by
  have hg:(lX.m (jY.m (r3 l)).2).2.dD=((bC t).length:Int)+2:=by
   rw[g2];show(jY.m (r3 l)).2.dD+((gV _ 2).length:Int)=_;rw[dz,hat1];rfl
  change ¬(lX.m (jY.m (r3 l)).2).2.dD<(l.length:Int)at h6
  rw[hg,hl,e2]at h6
  have hbl:(lX.e (lX.m (jY.m (r3 l)).2).1).length=2:=dz _ 2
  simp only[List.length_append,hbl]at h6;refine List.length_eq_zero_iff.1 ?_;omega
 refine⟨v1,?_⟩
 have hs5:(lX.m (jY.m (r3 l)).2).1=((iw 0xffff#16 (bC t)).toNat:Int):=by
  have:(lX.m (jY.m (r3 l)).2).1=((iw 0xffff#16 (l.take (jY.m (r3 l)).2.dD.toNat)).toNat:Int):=h5
  rw[this,hat1,Int.toNat_natCast];rw[hl,List.take_left]
 rw[hs5,htl2,List.append_nil]at e2;rw[hl,e2];rfl
theorem KS {l:List Int} (hB:sM l):(iy l).1.Ok∧(iy l).1.Ln:=by
  by_cases hc:(iy l).2.1=0
  · obtain ⟨v,_⟩:=RB hB (t:=(iy l).1) (a:=(iy l).2.2) (by rw [← hc])
    obtain ⟨a,b,c⟩:=Rk v
    exact ⟨KR a c,a⟩
  · have:(iy l).1=cv:=by
      unfold iy at hc ⊢
      simp only [] at hc ⊢
      split
      · rfl
      · split
        · rfl
        · split
          · rfl
          · split
            · rfl
            · split
              · rfl
              · split
                · rfl
                · exfalso; simp_all
    rw [this]
    exact ⟨Rx,⟨rfl,rfl,rfl⟩⟩
def pZ.Spec(C:bz) (f:Nat):Prop:=C.c f [] (B true) none
def sY.Spec(C:bz) (f:Nat):Prop:=∀b:Option (List Int),sM (b.getD [])->C.c f [aF gk b] (B true) none
def vO.Spec(C:bz) (f:Nat):Prop:=∀l:Option (List Int),C.c f [aF aD l] (B true) none
def yd.Spec(C:bz) (f:Nat):Prop:=∀(l:Option (List Int)) (n:Int) (b:Option (List Int)),sM (b.getD [])->C.c f [aF aD l,I n,aF gk b] (B true) none
theorem Hv{v n:Int} (hn:0<n) (h2:n<100000):0<=place v n/\place v n<n:=by
 have h3:=Int.tmod_lt_of_pos v hn
 have h4:-n<v.tmod n:=by have:=Int.lt_tmod_of_pos v hn;omega
 simp only[place];split
 ·rw[gU (by omega) (by omega)];omega
 ·omega
theorem RC:cv.Fw:=fun d hd=>by cases hd
theorem vP(t:Tb) (c a:Int):lN (t,c,a)=.qb [.agg t.cells,.agg [I c,I a]]:=rfl
section
variable{P:Program} (hm:P.follows .mixedOrders=true) {f:Nat}
include hm
theorem pZ.ok{fD fE:Nat} (hc:cZ P f=some (rT fD fE)) (hD:nY.Spec (Pure P) fD) (hE:pY.Spec (Pure P) fE):pZ.Spec (Pure P) f:=by
 have z3:aY=cv.cells:=rfl
 have z0:cv.cells.length=131:=rfl
 have z1:bG cv.cells 0 (some 131)=some (.agg cv.cells):=rfl
 have z2:setCells cv.cells 0 cv.cells=cv.cells:=dW rfl
 have z4:∀x y u v:AV,setCells [u,v] 0 [x,y]=[x,y]:=fun _ _ _ _=>rfl
 have y3:∀x y:AV,bG [x,y] 0 (some 2)=some (.agg [x,y]):=fun _ _=>rfl
 have cD:=hD none (by simp) (fun x hx=>by cases hx)
 have d0:iy []=(cv,2,0):=by decide
 rw[Option.getD_none,d0,vP]at cD
 have cE:=hE cv ⟨rfl,rfl,rfl⟩ RC
 have m0:mH cv=true:=by decide
 unfold DS at cE;rw[if_pos m0]at cE
 have hge:=vM cv
 have hsl:=oY (bC cv)
 obtain⟨L,hL⟩:∃L,L=dR (bC cv):=⟨_,rfl⟩
 have hL0:L[0]? =some 88:=by rw[hL];rfl
 rw[<-hL]at hsl cE
 have hb:(0:Int)<(L.length:Int):=by omega
 have hb3:decide ((L.length:Int)>3)=true:=by simp;omega
 refine aC hm hc (by show 0<=37;decide) (ay (keep:=[]) (i:=0) ?_)
 try simp only[I,B,D,RY,↓KW,seval,rT,Z.H,z3,z0,z1,z2]
 refine ai cD ?_;try simp only[I,B,D,RY,↓KW,seval,z3,z0,z1,z2,z4,y3]
 refine ai cE ?_
 have xf:(true !=false)=true:=rfl
 try simp only[I,B,D,RY,↓KW,seval,z3,z0,z1,z2,z4,y3,Option.getD_some,hb,hb3,hL0,gk,xf]
 all_goals rfl
theorem sY.ok{fW fD fR fS fE:Nat} (hc:cZ P f=some (ny fW fD fR fS fE)) (hW:pZ.Spec (Pure P) fW) (hD:nY.Spec (Pure P) fD) (hR:sS.Spec (Pure P) fR) (hS:DW.Spec (Pure P) fS) (hE:Bk.Spec (Pure P) fE):sY.Spec (Pure P) f:=by
 intro b hB
 have z3:aY=cv.cells:=rfl
 have z0:cv.cells.length=131:=rfl
 have z1:bG cv.cells 0 (some 131)=some (.agg cv.cells):=rfl
 have z2:∀t:Tb,t.Ok->setCells cv.cells 0 t.cells=t.cells:=fun t h=>dW (by rw[Tb.len h];rfl)
 have z4:∀x y u v:AV,setCells [u,v] 0 [x,y]=[x,y]:=fun _ _ _ _=>rfl
 have y3:∀x y:AV,bG [x,y] 0 (some 2)=some (.agg [x,y]):=fun _ _=>rfl
 refine aC hm hc (by show 1<=59;decide) (ay (keep:=[]) (i:=0) ?_)
 try simp only[I,B,D,RY,↓KW,seval,ny,Z.H]
 refine aq (fun h=>?_) (fun h=>?_)<;>try simp only[I,B,D,RY,↓KW,seval,h]
 ·refine ai (hW) ?_
  try simp only[I,B,D,RY,↓KW,seval]
 have hb:(b.getD []).length<=2100:=by have:=of_decide_eq_false h;omega
 have c1:=hD b (by omega) hB
 have c2:=hR b (by omega) hB
 have c3:=hS b (by omega) hB
 have hsB:=vN hB
 have hsl:=oY (b.getD [])
 have c4:=hD (some (dR (b.getD []))) (by simp only[Option.getD_some];omega) hsB
 have c5:=hR (some (dR (b.getD []))) (by simp only[Option.getD_some];omega) hsB
 obtain⟨k1,k2⟩:=KS hB;obtain⟨k3,k4⟩:=KS hsB
 obtain⟨⟨t,c,a⟩,ht⟩:∃x,x=iy (b.getD []):=⟨_,rfl⟩
 obtain⟨⟨t',c',a'⟩,ht'⟩:∃x,x=iy (dR (b.getD [])):=⟨_,rfl⟩
 rw[Option.getD_some]at c4 c5;rw[<-ht]at c1 c2 k1 k2;rw[<-ht']at c4 c5 k3 k4;rw[vP]at c1 c2 c4 c5
 have s1:=hE t t k1 k2
 have s2:=hE t' t' k3 k4
 have e1:kK t t=true:=by unfold kK;simp
 have e2:kK t' t'=true:=by unfold kK;simp
 rw[e1]at s1;rw[e2]at s2
 have l1:=Tb.len k1
 have l2:=Tb.len k3
 have w1:=k2.whole
 have w2:=k4.whole
 have v1:=z2 t k1
 have v2:=z2 t' k3
 have i1:=mF c a
 have i2:=mF c' a'
 have xf:(true !=false)=true:=rfl
 have faA:=And.intro z3 (And.intro z0 (And.intro z1 (And.intro z4 (And.intro y3 (And.intro l1 (And.intro l2 (And.intro w1 (And.intro w2 (And.intro v1 (And.intro v2 (And.intro i1 (And.intro i2 (xf)))))))))))))
 refine ai c1 ?_;try simp only[I,B,D,RY,↓KW,seval,faA]
 refine ai c2 ?_;try simp only[I,B,D,RY,↓KW,seval,faA]
 refine ai c3 ?_;try simp only[I,B,D,RY,↓KW,seval,faA]
 refine ai c4 ?_;try simp only[I,B,D,RY,↓KW,seval,faA]
 refine ai c5 ?_;try simp only[I,B,D,RY,↓KW,seval,faA]
 refine ai s1 ?_;try simp only[I,B,D,RY,↓KW,seval,faA]
 refine ai s2 ?_;try simp only[I,B,D,RY,↓KW,seval,faA]
 refine ai hW ?_;try simp only[I,B,D,RY,↓KW,seval,faA]
 all_goals rfl
theorem vO.ok{fT fE fD fS fW:Nat} (hc:cZ P f=some (nX fT fE fD fS fW)) (hT:Table.Spec (Pure P) fT) (hE:pY.Spec (Pure P) fE) (hD:nY.Spec (Pure P) fD) (hS:Bk.Spec (Pure P) fS) (hW:pZ.Spec (Pure P) fW):vO.Spec (Pure P) f:=by
 intro l
 have z3:aY=cv.cells:=rfl
 have z0:cv.cells.length=131:=rfl
 have z4:∀x y u v:AV,setCells [u,v] 0 [x,y]=[x,y]:=fun _ _ _ _=>rfl
 have y3:∀x y:AV,bG [x,y] 0 (some 2)=some (.agg [x,y]):=fun _ _=>rfl
 have cT:=hT l
 obtain⟨t,ht⟩:∃t,t=bg l:=⟨_,rfl⟩
 have k1:=pR l
 have kf:=DY l
 have km:=Oh l
 rw[<-ht]at cT k1 kf km
 have kl:=k1.ln
 have cE:=hE t kl kf
 unfold DS at cE;rw[if_pos km]at cE
 have hbl:=vL kl km
 have hsl:=oY (bC t)
 have cD:=hD (some (dR (bC t))) (by simp only[Option.getD_some];omega) (vN (sW t))
 rw[Option.getD_some,KQ kl kf km,vP]at cD
 have kn:(qt t).Ln:=KM kl
 have cS:=hS t (qt t) k1 kn
 have e1:kK t (qt t)=true:=by
  unfold kK Tb.nm qt;simp[bL,vD,List.map_map,Function.comp_def]
 rw[e1]at cS
 obtain⟨L,hL⟩:∃L,L=dR (bC t):=⟨_,rfl⟩
 rw[<-hL]at cE cD hsl
 have hb:decide ((L.length:Int)<=2048)=true:=by simp;omega
 have l1:=Tb.len k1
 have l2:=kn.len
 have w1:=kl.whole
 have w2:=kn.whole
 have v1:setCells cv.cells 0 t.cells=t.cells:=dW (by rw[l1];rfl)
 have v2:setCells cv.cells 0 (qt t).cells=(qt t).cells:=dW (by rw[l2];rfl)
 have xf:(true !=false)=true:=rfl
 have faA:=And.intro z3 (And.intro z0 (And.intro z4 (And.intro y3 (And.intro l1 (And.intro l2 (And.intro w1 (And.intro w2 (And.intro v1 (And.intro v2 (xf))))))))))
 refine aC hm hc (by show 1<=40;decide) (ay (keep:=[]) (i:=0) ?_)
 try simp only[I,B,D,RY,↓KW,seval,nX,Z.H]
 refine ai cT ?_;try simp only[I,B,D,RY,↓KW,seval,faA]
 refine ai cE ?_;try simp only[I,B,D,RY,↓KW,seval,faA]
 refine ai cD ?_;try simp only[I,B,D,RY,↓KW,seval,faA]
 refine ai cS ?_;try simp only[I,B,D,RY,↓KW,seval,faA,Option.getD_some,hb]
 refine ai hW ?_;try simp only[I,B,D,RY,↓KW,seval,faA]
 all_goals rfl
theorem yd.ok{fW fT fE fP fD e:Nat} (hc:cZ P f=some (gJ fW fT fE fP fD e)) (hW:pZ.Spec (Pure P) fW) (hT:Table.Spec (Pure P) fT) (hE:pY.Spec (Pure P) fE) (hP:Place.Spec (Pure P) fP) (hD:nY.Spec (Pure P) fD):yd.Spec (Pure P) f:=by
 intro l n b hB
 have z3:aY=cv.cells:=rfl
 have z0:cv.cells.length=131:=rfl
 have z2:setCells cv.cells 0 cv.cells=cv.cells:=dW rfl
 have z4:∀x y u v:AV,setCells [u,v] 0 [x,y]=[x,y]:=fun _ _ _ _=>rfl
 have y3:∀x y:AV,bG [x,y] 0 (some 2)=some (.agg [x,y]):=fun _ _=>rfl
 have cT:=hT l
 obtain⟨t,ht⟩:∃t,t=bg l:=⟨_,rfl⟩
 have k1:=pR l
 have kf:=DY l
 have km:=Oh l
 rw[<-ht]at cT k1 kf km
 have kl:=k1.ln
 have cE:=hE t kl kf
 unfold DS at cE;rw[if_pos km]at cE
 have hbl:=vL kl km
 have hsl:=oY (bC t)
 rcases Av (((b.getD []).length:Int)==0)with h1|h1
 rotate_left
 ·refine aC hm hc (by show 3<=69;decide) (ay (keep:=[]) (i:=0) ?_)
  try simp only[I,B,D,RY,↓KW,seval,gJ,Z.H,h1]
  refine ai hW ?_;try simp only[I,B,D,RY,↓KW,seval]
  all_goals rfl
 rcases Av (decide (((b.getD []).length:Int)>50))with h2|h2
 rotate_left
 ·refine aC hm hc (by show 3<=69;decide) (ay (keep:=[]) (i:=0) ?_)
  try simp only[I,B,D,RY,↓KW,seval,gJ,Z.H,h1,h2]
  refine ai hW ?_;try simp only[I,B,D,RY,↓KW,seval]
  all_goals rfl
 have hb1:b.getD []≠[]:=by intro e;rw[e]at h1;simp at h1
 have hb2:(b.getD []).length<=50:=by have:=of_decide_eq_false h2;omega
 obtain⟨L,hL⟩:∃L,L=dR (bC t):=⟨_,rfl⟩
 have hge:=vM t
 have cP:=hP n (L.length:Int) (by rw[hL];omega)
 have hpl:=Hv (v:=n) (n:=(L.length:Int)) (by rw[hL];omega) (by rw[hL];omega)
 obtain⟨k,hk⟩:∃k:Nat,place n (L.length:Int)=(k:Int):=⟨(place n (L.length:Int)).toNat,by omega⟩
 rw[hk]at cP hpl
 have cD1:=hD (some (L.take k)) (by simp only[Option.getD_some,List.length_take];rw[hL];omega) (fun x hx=>vN (sW t) x (by rw[<-hL];exact List.mem_of_mem_take hx))
 have hbb:sM (L++b.getD []):=by rw[hL];exact Gc (vN (sW t)) hB
 have cD2:=hD (some (L++b.getD [])) (by simp only[Option.getD_some,List.length_append];rw[hL];omega) hbb
 have d1:=NI kl kf km k (by rw[<-hL];omega)
 have d2:=D3 kl kf km (b.getD []) (by omega)
 rw[if_neg hb1]at d2;rw[<-hL]at d1 d2 hsl cE;rw[Option.getD_some,d1,vP]at cD1;rw[Option.getD_some,d2,vP]at cD2
 have l0:((L.length:Int)==0)=false:=by rw[beq_eq_false_iff_ne];omega
 have i1:=mF 2 (k:Int)
 have i2:=mF 6 (L.length:Int)
 have xf:(true !=false)=true:=rfl
 have xg:(0 !=0:Bool)=false:=rfl
 have hcut:yo (aF gk (some L)) (List.map gk L) 0 (k:Int)=aF gk (some (L.take k)):=by simp[yo,aF,List.map_take]
 have faA:=And.intro z3 (And.intro z0 (And.intro z2 (And.intro z4 (And.intro y3 (And.intro xf (And.intro i1 (And.intro i2 (l0))))))))
 refine aC hm hc (by show 3<=69;decide) (ay (keep:=[]) (i:=0) ?_)
 try simp only[I,B,D,RY,↓KW,seval,gJ,Z.H,h1,h2]
 refine ai cT ?_;try simp only[I,B,D,RY,↓KW,seval,faA]
 refine ai cE ?_;try simp only[I,B,D,RY,↓KW,seval,faA,Option.getD_some]
 refine ai cP ?_;try simp only[I,B,D,RY,↓KW,seval,faA,Option.getD_some]
 refine⟨by omega,fun _ _=>rfl,?_⟩
 rw[hcut];refine ai cD1 ?_;try simp only[I,B,D,RY,↓KW,seval,faA,Option.getD_some]
 refine⟨by omega,fun _ _=>rfl,?_⟩
 rw[if_neg (by intro e;have:=congrArg List.length e;simp at this;rw[this]at hsl;simp at hsl)]
 refine⟨by omega,fun _ _=>rfl,fun _ _=>rfl,?_⟩
 rw[<-List.map_append]
 have cD2':(Pure P).c fD [AV.sl ((L++b.getD []).map gk)] (.qb [.agg cv.cells,.agg [I 6,I L.length]]) none:=cD2
 refine ai cD2' ?_;try simp only[I,B,D,RY,↓KW,seval,faA,Option.getD_some]
 refine ai hW ?_;try simp only[I,B,D,RY,↓KW,seval,faA]
 all_goals rfl
end
def Al{α β:Type} (R:α->β->Prop):List α->List β->Prop
 |[],[]=>True
 |a::l,b::m=>R a b/\Al R l m
 |_,_=>False
theorem Al.len{α β:Type} {R:α->β->Prop}:∀{l:List α} {m:List β},Al R l m->l.length=m.length
 |[],[],_=>rfl
 |a::l,b::m,h=>by simp[Al.len h.2]
 |[],b::m,h=>h.elim
 |a::l,[],h=>h.elim
theorem Al.get{α β:Type} {R:α->β->Prop}:∀{l:List α} {m:List β},Al R l m->∀(i:Nat) (a:α) (b:β),l[i]? =some a->m[i]? =some b->R a b
 |a::l,b::m,h,0,x,y,hx,hy=>by simp at hx hy;subst hx;subst hy;exact h.1
 |a::l,b::m,h,i+1,x,y,hx,hy=>Al.get h.2 i x y (by simpa using hx) (by simpa using hy)
 |[],_,_,i,_,_,hx,_=>by simp at hx
theorem Al.mk{α β:Type} {R:α->β->Prop}:∀{l:List α} {m:List β},l.length=m.length->(∀(i:Nat) (a:α) (b:β),l[i]? =some a->m[i]? =some b->R a b)->Al R l m
 |[],[],_,_=>trivial
 |a::l,b::m,h,f=>⟨f 0 a b rfl rfl,Al.mk (by simpa using h) fun i x y hx hy=>f (i+1) x y (by simpa using hx) (by simpa using hy)⟩
theorem Al.append{α β:Type} {R:α->β->Prop}:∀{l:List α} {m:List β} {l':List α} {m':List β},Al R l m->Al R l' m'->Al R (l++l') (m++m')
 |[],[],_,_,_,h=>h
 |a::l,b::m,_,_,h,h'=>⟨h.1,Al.append h.2 h'⟩
theorem Al.n{α β:Type} {R:α->β->Prop}:Al R ([]:List α) ([]:List β):=trivial
theorem Al.c{α β:Type} {R:α->β->Prop} {a:α} {b:β} {l:List α} {m:List β} (h:R a b) (t:Al R l m):Al R (a::l) (b::m):=⟨h,t⟩
theorem Al.sZ{α β:Type} {R:α->β->Prop} {m:List β} (h:Al R [] m):m=[]:=by
 cases m with
 |nil=>rfl
 |cons b m=>exact h.elim
theorem Al.cons_inv{α β:Type} {R:α->β->Prop} {a:α} {l:List α} {m:List β} (h:Al R (a::l) m):∃b m',m=b::m'/\R a b/\Al R l m':=by
 cases m with
 |nil=>exact h.elim
 |cons b m=>exact⟨b,m,rfl,h.1,h.2⟩
inductive Z' where
 |bool
 |int (k:IntKind)
 |XF (k:FloatKind)
 |str
inductive Ty where
 |sc (s:Z')
 |sl (l:List Ty)
def s7(sz:TypeId->Nat) (F:TypeId->Option (List Ty)):Nat->List (Nat×TypeId)->Option (List Ty)
 |_,[]=>some []
 |o,f::r=>if f.1=o then match F f.2 with
   |some l=>if sz f.2=l.length then match s7 sz F (o+l.length) r with
    |some m=>some (l++m)
    |none=>none
    else none
   |none=>none
  else none
def E5(P:Program):Nat->TypeId->Option (List Ty)
 |0,_=>none
 |n+1,t=>match P.underlying t with
  |some .bool=>some [.sc .bool]
  |some (.int k)=>some [.sc (.int k)]
  |some (.float k)=>some [.sc (.XF k)]
  |some .string=>some [.sc .str]
  |some (.slice e)=>match E5 P n e with
   |some l=>if P.cellsOf e=l.length/\0<l.length then some [.sl l]else none
   |none=>none
  |some (.struct fs)=>match s7 P.cellsOf (E5 P n) 0 (fs.toList.map fun f=>(f.offset,f.type))with
   |some l=>if P.cellsOf t=l.length then some l else none
   |none=>none
  |some (.array k e)=>match s7 P.cellsOf (E5 P n) 0 ((List.range k).map fun i=>(i*P.cellsOf e,e))with
   |some l=>if P.cellsOf t=l.length then some l else none
   |none=>none
  |_=>none
def VT:Z'->AV->Prop
 | .bool,.bool _=>True
 | .int k,.int k' n=>k'=k/\(Lit.int k n).wf=true
 | .XF k,.float k' b=>k'=k/\(Lit.float k b).wf=true
 | .str,.str s=>s.size<=maxLen
 |_,_=>False
mutual
def vQ:Ty->AV->Prop
 | .sc s,a=>VT s a
 | .sl _,.bM=>True
 | .sl l,.sl xs=>xs.length<=maxLen/\∀r∈xs,D4 l r
 |_,_=>False
def D4:List Ty->List AV->Prop
 |[],[]=>True
 |t::l,a::r=>vQ t a/\D4 l r
 |_,_=>False
end
theorem Cr:∀{l:List Ty} {as:List AV},D4 l as↔Al vQ l as
 |[],[]=>by simp[D4,Al]
 |t::l,a::r=>by simp only[D4,Al];rw[Cr (l:=l) (as:=r)]
 |[],a::r=>by simp[D4,Al]
 |t::l,[]=>by simp[D4,Al]
def Ae(W:World):Nat->Nat->Prop:=fun b _=>b<W.heap.size
theorem NJ{W:World} {a:Addr} {v:Value} (h:W.cell? a=some v):a.block<W.heap.size:=by
 unfold World.cell? at h;split at h
 ·rename_i hh;exact nK hh
 ·cases h
theorem VT.scalar{s:Z'} {a:AV} (h:VT s a):a.scalar=true:=by cases s<;>cases a<;>first|exact h.elim|rfl
theorem vQ.scalar{s:Ty} {a:AV} (h:vQ s a):a.scalar=true:=by
 cases s with
 |sc s=>exact VT.scalar (by simpa[vQ]using h)
 |sl l=>cases a<;>first|rfl|(simp[vQ]at h)
section
variable{H:Type} {enc:TypeId×Value->H} {P:Program} {W:World} {base:Nat}
open Go.ChangeShapes Go.WideShapes Go.ChangeAt Go.RowKit
theorem E6{sp:Nat->Bool} {held:Bool} {b0 fuel:Nat} {t:TypeId} {cs:List Value} {x:DataW H×List MemPlace} {k:FloatKind} (ht:P.underlying t=some (.float k)) (h:DataW.trod enc P W b0 sp held fuel t cs=some x):∃n,cs=[.float k n]/\(Lit.float k n).wf=true:=by
 cases fuel with
 |zero=>simp[DataW.trod]at h
 |succ n=>
  unfold DataW.trod at h;rw[ht]at h
  split at h<;>simp_all
theorem uA{sp:TypeId->Nat} {G:TypeId->Option (List Ty)} {Tr:TypeId->List Value->Prop}
  (each:∀t l cs,G t=some l->Tr t cs->∃as,Al vQ l as/\Al (DV W (Ae W)) as cs):∀(ps:List (Nat×TypeId)) (o:Nat) (l:List Ty) (cs:List Value),s7 sp G o ps=some l->cs.length=o+l.length->
   (∀(i:Nat) (f:Nat×TypeId),ps[i]? =some f->Tr f.2 ((cs.drop f.1).take (sp f.2)))->∃as,Al vQ l as/\Al (DV W (Ae W)) as (cs.drop o)
 |[],o,l,cs,h,hl,_=>by
  simp only[s7,Option.some.injEq]at h;subst h;refine⟨[],trivial,?_⟩
  rw[List.drop_of_length_le (by simp at hl;omega)];trivial
 |f::ps,o,l,cs,h,hl,htr=>by
  simp only[s7]at h
  split at h<;>try(cases h;done)
  rename_i ho
  split at h<;>try(cases h;done)
  rename_i l1 hl1
  split at h<;>try(cases h;done)
  rename_i hsz
  split at h<;>try(cases h;done)
  rename_i m hm;cases h
  have h0:=htr 0 f rfl
  rw[ho,hsz]at h0;obtain⟨as1,ht1,hd1⟩:=each f.2 l1 _ hl1 h0
  obtain⟨as2,ht2,hd2⟩:=uA each ps (o+l1.length) m cs hm (by rw[hl];simp;omega) (fun i g hg=>htr (i+1) g (by simpa using hg))
  refine⟨as1++as2,ht1.append ht2,?_⟩
  have:=hd1.append hd2
  rw[<-List.drop_drop,List.take_append_drop]at this;exact this
omit H enc P W base in
theorem E7{w:World} {b o:Nat} {sp:Option Nat} {v:Value} (h:w.cell? ⟨b,o,sp⟩=some v):sp=none:=by
 cases sp with
 |none=>rfl
 |some x=>unfold World.cell? at h;split at h<;>simp at h
theorem Ct{a:Addr} {n:Nat} (h:a.spot=none):a.add n=⟨a.block,a.off+n,none⟩:=by
 obtain⟨b,o,s⟩:=a;simp only at h;subst h;unfold Addr.add;split
 ·rename_i hh;subst hh;rfl
 ·rfl
theorem ye:∀(n:Nat) (t:TypeId) (l:List Ty),E5 P n t=some l->∀(cs:List Value) (x:DataW H×List MemPlace) (fuel:Nat),
  DataW.trod enc P W 0 (fun _=>true) true fuel t cs=some x->∃as,Al vQ l as/\Al (DV W (Ae W)) as cs
 |0,t,l,h,cs,x,fuel,hx=>by cases h
 |n+1,t,l,h,cs,x,fuel,hx=>by
  simp only[E5]at h;split at h
  ·rename_i ht;cases h
   obtain⟨b,rfl,_⟩:=DataW.trod_bool ht hx
   exact⟨[.bool b],⟨by simp[vQ,VT],trivial⟩,⟨.bool b,trivial⟩⟩
  ·rename_i k ht;cases h
   obtain⟨m,rfl,_,hw⟩:=DataW.trod_int ht hx
   exact⟨[.int k m],⟨by simp only[vQ];exact⟨rfl,hw⟩,trivial⟩,⟨.int k m,trivial⟩⟩
  ·rename_i k ht;cases h
   obtain⟨m,rfl,hw⟩:=E6 ht hx
   exact⟨[.float k m],⟨by simp only[vQ];exact⟨rfl,hw⟩,trivial⟩,⟨.float k m,trivial⟩⟩
  ·rename_i ht;cases h
   obtain⟨s,rfl,_,hw⟩:=DataW.trod_string ht hx
   exact⟨[.str s],⟨by simp only[vQ];exact hw,trivial⟩,⟨.str s,trivial⟩⟩
  ·rename_i e ht
   split at h<;>try(cases h;done)
   rename_i le hle
   split at h<;>try(cases h;done)
   rename_i hsz;cases h;obtain⟨hsz,hpos⟩:=hsz
   rcases DataW.trod_slice ht hx with⟨rfl,_⟩|⟨a,len,cap,elems,rest,k,_,rfl,_,_,hlc,hmx,hlen,hel,hrest,_⟩
   ·exact⟨[.bM],⟨by simp[vQ],trivial⟩,⟨.bM,trivial⟩⟩
   have spotOf:∀(y:DataW H×List MemPlace),(W.cells? 0 (a.add (0*P.cellsOf e)) (P.cellsOf e)).bind (DataW.trod enc P W 0 (fun _=>true) true k e)=some y->a.spot=none:=by
    intro y hy;rw[Option.bind_eq_some_iff]at hy;obtain⟨cs,hcs,_⟩:=hy
    obtain⟨_,hcl,hcell⟩:=World.cells?_some hcs
    have h0:=hcell 0 (by omega)
    obtain⟨v,hv⟩:∃v,cs[0]? =some v:=⟨_,List.getElem?_eq_getElem (by omega)⟩
    rw[hv]at h0;obtain⟨b,o,sp⟩:=a;simp only[Nat.zero_mul,Addr.add,if_true]at h0;exact E7 h0
   have hspot:cap=0\/a.spot=none:=by
    rcases Nat.eq_zero_or_pos cap with h|h
    ·exact .inl h
    right
    rcases Nat.eq_zero_or_pos len with h'|h'
    ·obtain⟨hr1,hr2⟩:=hrest rfl
     have:=hr2 0 (by omega)
     obtain⟨y,hy⟩:∃y,rest[0]? =some y:=⟨_,List.getElem?_eq_getElem (by omega)⟩
     rw[hy,h',Nat.zero_add]at this;exact spotOf y this
    ·have:=hel 0 h'
     obtain⟨y,hy⟩:∃y,elems[0]? =some y:=⟨_,List.getElem?_eq_getElem (by omega)⟩
     rw[hy]at this;exact spotOf y this
   rcases hspot with rfl|hspot
   ·have:len=0:=by omega
    subst this
    exact⟨[.sl []],⟨by simp[vQ],trivial⟩,⟨.HQ a,trivial⟩⟩
   have each:∀i,i<len->∃as cs,Al vQ le as/\Al (DV W (Ae W)) as cs/\∀j,j<le.length->W.cell? ⟨a.block,a.off+i*le.length+j,none⟩=cs[j]?:=by
    intro i hi
    have he:=hel i hi
    have:elems[i]?≠none:=by simp;omega
    obtain⟨y,hy⟩:=Option.ne_none_iff_exists'.1 this;rw[hy,Option.bind_eq_some_iff]at he;obtain⟨cs,hcs,htr⟩:=he
    obtain⟨_,hcl,hcell⟩:=World.cells?_some hcs
    obtain⟨as,hta,hda⟩:=ye n e le hle cs y k htr
    refine⟨as,cs,hta,hda,fun j hj=>?_⟩
    have:=hcell j (by omega)
    rw[<-this,Ct (a:=a.add _) (by rw[Ct hspot]),Ct hspot,hsz]
   obtain⟨rows,hrl,hrt,hr⟩:∃rows:List (List AV),rows.length=len/\(∀r∈rows,Al vQ le r)/\∀i r,rows[i]? =some r->∃cs,Al (DV W (Ae W)) r cs/\∀j,j<le.length->W.cell? ⟨a.block,a.off+i*le.length+j,none⟩=cs[j]?:=by
    refine⟨(List.range len).map fun i=>if h:i<len then(each i h).choose else[],by simp,?_,?_⟩
    ·intro r hr
     obtain⟨i,hi,rfl⟩:=List.mem_map.1 hr;rw[List.mem_range]at hi;rw[dif_pos hi];exact(each i hi).choose_spec.choose_spec.1
    ·intro i r hr
     rw[List.getElem?_map,Option.map_eq_some_iff]at hr;obtain⟨k,hk,rfl⟩:=hr
     have hi:=(List.getElem?_eq_some_iff.1 hk).1
     simp at hi;rw[List.getElem?_range hi]at hk;cases hk;rw[dif_pos hi];exact⟨_,(each i hi).choose_spec.choose_spec.2⟩
   obtain⟨b,off,spot⟩:=a;simp only at hspot hr;subst hspot
   refine⟨[.sl rows],⟨by simp only[vQ];exact⟨by omega,fun r hr=>Cr.2 (hrt r hr)⟩,trivial⟩,?_,trivial⟩
   have hz:∀(i:Nat) (r:List AV),rows[i]? =some r->r.length=le.length:=fun i r h=>(hrt r (List.mem_of_getElem? h)).len.symm
   have at_:∀(i j:Nat) (r:List AV) (x:AV),rows[i]? =some r->r[j]? =some x->∃v,W.cell? ⟨b,off+i*le.length+j,none⟩=some v/\DV W (Ae W) x v:=by
    intro i j r x h1 h2;obtain⟨cs,hd,hc⟩:=hr i r h1
    have hj:j<le.length:=by have:=(List.getElem?_eq_some_iff.1 h2).1;have:=hz i r h1;omega
    obtain⟨v,hv⟩:∃v,cs[j]? =some v:=⟨_,List.getElem?_eq_getElem (by have:=hd.len;have:=hz i r h1;omega)⟩
    exact⟨v,(hc j hj).trans hv,hd.get j x v h2 hv⟩
   have key:=DV.sl (w:=W) (π:=Ae W) rows b off cap le.length (fun i j=>(W.cell? ⟨b,off+i*le.length+j,none⟩).getD default) (by omega) hz
    (fun i j r x h1 h2=>by
     obtain⟨t,ht⟩:∃t,le[j]? =some t:=⟨_,List.getElem?_eq_getElem (by have:=(List.getElem?_eq_some_iff.1 h2).1;have:=hz i r h1;omega)⟩
     exact vQ.scalar ((hrt r (List.mem_of_getElem? h1)).get j t x ht h2))
    (fun i j r x h1 h2=>by obtain⟨v,hv,_⟩:=at_ i j r x h1 h2;exact NJ hv)
    (fun i j r x h1 h2=>by obtain⟨v,hv,_⟩:=at_ i j r x h1 h2;rw[hv];rfl)
    (fun i j r x h1 h2=>by obtain⟨v,hv,hd⟩:=at_ i j r x h1 h2;rw[hv];exact hd)
   rw[hrl]at key;exact key
  ·rename_i fs ht
   split at h<;>try(cases h;done)
   rename_i l' hl'
   split at h<;>try(cases h;done)
   rename_i hsz;cases h;obtain⟨xs,k,_,_,hcl,hxl,hf⟩:=DataW.trod_struct ht hx
   have:=uA (W:=W) (Tr:=fun t cs=>∃x fuel,DataW.trod enc P W 0 (fun _=>true) true fuel t cs=some x) (fun t l cs h1 ⟨x,fuel,h3⟩=>ye n t l h1 cs x fuel h3) _ 0 l cs hl' (by omega) (fun i f hif=>by
    rw[List.getElem?_map,Option.map_eq_some_iff]at hif;obtain⟨f,hif,rfl⟩:=hif
    have h1:=hf i f (by simpa using hif)
    have:xs[i]?≠none:=by
     have:=(List.getElem?_eq_some_iff.1 hif).1
     simp at this⊢;omega
    obtain⟨y,hy⟩:=Option.ne_none_iff_exists'.1 this
    exact⟨y,k,h1.trans hy⟩)
   simpa using this
  ·rename_i q e ht
   split at h<;>try(cases h;done)
   rename_i l' hl'
   split at h<;>try(cases h;done)
   rename_i hsz;cases h;obtain⟨xs,k,_,_,hcl,hxl,hf⟩:=DataW.trod_array ht hx
   have:=uA (W:=W) (Tr:=fun t cs=>∃x fuel,DataW.trod enc P W 0 (fun _=>true) true fuel t cs=some x) (fun t l cs h1 ⟨x,fuel,h3⟩=>ye n t l h1 cs x fuel h3) _ 0 l cs hl' (by omega) (fun i f hif=>by
    rw[List.getElem?_map,Option.map_eq_some_iff]at hif;obtain⟨f,hif,rfl⟩:=hif
    have hi:=(List.getElem?_eq_some_iff.1 hif).1
    simp at hi;rw[List.getElem?_range hi]at hif;cases hif
    have h1:=hf i hi
    have:xs[i]?≠none:=by simp;omega
    obtain⟨y,hy⟩:=Option.ne_none_iff_exists'.1 this
    exact⟨y,k,h1.trans hy⟩)
   simpa using this
  ·cases h
def isAgg(P:Program) (t:TypeId):Bool:=match P.underlying t with
 |some (.struct _)|some (.array _ _)=>true
 |_=>false
theorem Hw{n:Nat} {t:TypeId} {k:Ty} {v:Value} {d:DataW H} {p:List MemPlace} (hl:E5 P n t=some [k]) (ha:isAgg P t=false) (hval:Value.okWide P W .any base t v)
  (h:DataW.Trod enc P W 0 (fun _=>true) true t v d p):∃a,vQ k a/\DV W (Ae W) a v:=by
 obtain⟨fuel,hf⟩:=h
 obtain⟨as,ht,hd⟩:=ye n t [k] hl _ _ _ hf
 obtain⟨a,as',rfl,hk,ht'⟩:=ht.cons_inv;cases ht'.sZ;obtain⟨u,us,e,hdu,_⟩:=hd.cons_inv
 have hne:∀cs,v≠.agg cs:=by
  rintro cs rfl
  unfold isAgg at ha;unfold Value.okWide at hval;split at hval
  ·rename_i e;rw[e]at ha;cases ha
  ·rename_i e;rw[e]at ha;cases ha
  ·unfold Cell.okWide at hval
   split at hval<;>simp_all [Cell.ok]
 refine⟨a,hk,?_⟩
 cases v<;>simp[Value.cells]at e
 case agg cs=>exact absurd rfl (hne cs)
 all_goals(obtain⟨rfl,rfl⟩:=e;exact hdu)
theorem Cu{k:IntKind} {a:AV} (h:vQ (.sc (.int k)) a):∃n,a=.int k n/\(Lit.int k n).wf=true:=by
 simp only[vQ]at h
 cases a<;>first|exact h.elim|(obtain⟨rfl,hw⟩:=h;exact⟨_,rfl,hw⟩)
theorem KT{α:Type} {f:α->List AV} {Q:α->Prop} {l:List Ty} (row:∀r,Al vQ l r->∃x,r=f x/\Q x) {a:AV} (h:vQ (.sl l) a):∃xs:Option (List α),a=aF f xs/\(xs.getD []).length<=maxLen/\∀x∈xs.getD [],Q x:=by
 cases a<;>simp only[vQ]at h
 ·exact⟨none,rfl,by simp,by simp⟩
 rename_i xs
 have:∀(xs:List (List AV)),(∀r∈xs,D4 l r)->∃m:List α,xs=m.map f/\∀x∈m,Q x:=by
  intro xs
  induction xs with
  |nil=>intro _;exact⟨[],rfl,by simp⟩
  |cons r xs ih=>
   intro h
   obtain⟨m,rfl,hm⟩:=ih (fun r hr=>h r (List.mem_cons_of_mem _ hr))
   obtain⟨x,rfl,hx⟩:=row _ (Cr.1 (h _ List.mem_cons_self))
   exact⟨x::m,rfl,by simpa using⟨hx,hm⟩⟩
 obtain⟨m,rfl,hm⟩:=this xs h.2
 exact⟨some m,rfl,by simpa using h.1,hm⟩
theorem D5{k:IntKind} {a:AV} (h:vQ (.sl [.sc (.int k)]) a):∃l:Option (List Int),a=aF (fun n=>[.int k n]) l/\(l.getD []).length<=maxLen/\∀n∈l.getD [],(Lit.int k n).wf=true:=
 KT (fun r hr=>by
  obtain⟨a,as,rfl,h1,h2⟩:=hr.cons_inv;cases h2.sZ;obtain⟨n,rfl,hn⟩:=Cu h1
  exact⟨n,rfl,hn⟩) h
theorem Af{P:Program} {f:Nat} {args:List AV} {W:World} {vs:List Value} (h:(Pure P).c f args (.bool true) none) (hd:Al (DV W (Ae W)) args vs):
  Calls P f vs.toArray W fun e w'=>e=.returned (.bool true)/\Go.RowKit.Below W.heap.size W w':=by
 refine(h.2 W (Ae W) vs (fun _ _ h=>h) ⟨hd.len,hd.get⟩).mono fun e w' ⟨v,π',he,hb,_,_,_,hdv,_⟩=>?_
 cases hdv;exact⟨he,hb⟩
end
section
variable{H:Type} {enc:TypeId×Value->H} {P:Program} {W:World} {base:Nat}
open Go.ChangeShapes Go.WideShapes Go.ChangeAt Go.RowKit
def VU(enc:TypeId×Value->H) (P:Program) (W:World) (base:Nat) (t:TypeId) (v:Value):Prop:=
 Value.okWide P W .any base t v/\∃d p,DataW.Trod enc P W 0 (fun _=>true) true t v d p
theorem ta:∀{ts:List TypeId} {vs:List Value} {ds:List (DataW H)} {ps:List MemPlace},DataW.TrodAll enc P W 0 (fun _=>true) true ts vs ds ps->
  (∀(j:Nat) t v,ts[j]? =some t->vs[j]? =some v->Value.okWide P W .any base t v)->Al (VU enc P W base) ts vs
 |[],vs,ds,ps,h,_=>by obtain⟨rfl,_,_⟩:=trodAll_nil h;trivial
 |t::ts,vs,ds,ps,h,hv=>by
  obtain⟨v,vs',d,ds',p,q,rfl,rfl,rfl,h0,h1⟩:=trodAll_cons h
  exact⟨⟨hv 0 t v rfl rfl,d,p,h0⟩,ta h1 fun j t v h1 h2=>hv (j+1) t v (by simpa using h1) (by simpa using h2)⟩
theorem qa{W':World} (hl:laidOutB P=true):∀{ts:List TypeId} {vs:List Value} {ds:List (DataW H)} {ps:List MemPlace},(ts.all fun t=>P.readableRec t&&decide (t<P.types.size))=true->
  DataW.TrodAll enc P W 0 (fun _=>true) true ts vs ds ps->Below W.heap.size W W'->DataW.TrodAll enc P W' 0 (fun b=>decide (b<W.heap.size)) true ts vs ds ps
 |[],vs,ds,ps,_,h,_=>by obtain⟨rfl,rfl,rfl⟩:=trodAll_nil h;exact trodAll_mk0
 |t::ts,vs,ds,ps,hr,h,hb=>by
  have hlt:=DataW.TrodAll.lt h
  obtain⟨v,vs',d,ds',p,q,rfl,rfl,rfl,h0,h1⟩:=trodAll_cons h;simp only[List.all_cons,Bool.and_eq_true,decide_eq_true_eq]at hr
  exact trodAll_cons_mk (Below.trod hl hr.1.1 hr.1.2 h0 hb fun x hx=>hlt x (by simp[hx])) (qa hl hr.2 h1 hb)
theorem rZ{n:Nat} {t:TypeId} {k:Ty} {v:Value} (hl:E5 P n t=some [k]) (ha:isAgg P t=false) (h:VU enc P W base t v):∃a,vQ k a/\DV W (Ae W) a v:=by
 obtain⟨h1,d,p,h2⟩:=h;exact Hw hl ha h1 h2
theorem mI{sp:Nat->Bool} {held:Bool} {b0:Nat}:∀{ts:List TypeId} {vs:List Value} {ds:List (DataW H)} {ps:List MemPlace},DataW.TrodAll enc P W b0 sp held ts vs ds ps->ds.length=ts.length
 |[],vs,ds,ps,h=>by obtain⟨_,rfl,_⟩:=trodAll_nil h;rfl
 |t::ts,vs,ds,ps,h=>by
  obtain⟨v,vs',d,ds',p,q,rfl,rfl,rfl,h0,h1⟩:=trodAll_cons h;simp[mI h1]
end
theorem KU{α:Type} {l:List α} {n:Nat} (h:l.length=n+1):∃a m,l=a::m/\m.length=n:=by
 cases l with
 |nil=>cases h
 |cons a m=>exact⟨a,m,rfl,by simpa using h⟩
theorem KV{α:Type} {l:List α} (h:l.length=1):∃a,l=[a]:=by obtain⟨a,m,rfl,h2⟩:=KU h;exact⟨a,by rw[List.length_eq_zero_iff.1 h2]⟩
theorem VV{α:Type} {l:List α} (h:l.length=2):∃a b,l=[a,b]:=by obtain⟨a,m,rfl,h2⟩:=KU h;obtain⟨b,rfl⟩:=KV h2;exact⟨a,b,rfl⟩
theorem VW{α:Type} {l:List α} (h:l.length=3):∃a b c,l=[a,b,c]:=by obtain⟨a,m,rfl,h2⟩:=KU h;obtain⟨b,c,rfl⟩:=VV h2;exact⟨a,b,c,rfl⟩
theorem D6{a:AV} (h:vQ (.sl [.sc (.int .u8)]) a):∃l:Option (List Int),a=aF gk l/\(l.getD []).length<=maxLen/\∀d∈l.getD [],0<=d/\d<256:=
 KT (fun r hr=>by
  obtain⟨a1,r1,rfl,k1,h1⟩:=hr.cons_inv;cases h1.sZ;obtain⟨n1,rfl,w⟩:=Cu k1
  exact⟨n1,rfl,by
   simp only[Lit.wf,IntKind.min,IntKind.max,IntKind.signed,IntKind.bits,Bool.and_eq_true,decide_eq_true_eq]at w;simp at w
   omega⟩) h
end Go.Eng
