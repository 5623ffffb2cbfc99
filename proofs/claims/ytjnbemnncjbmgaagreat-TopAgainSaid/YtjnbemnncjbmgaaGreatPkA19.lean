/- Part 19 of the engine and its library. -/
import Derived.Test.YtjnbemnncjbmgaaGreatPkA18
set_option linter.all false
set_option maxRecDepth 10000
set_option maxHeartbeats 4000000
namespace Go.Eng
open Go
open Go.RowKit (Below)
section
variable (bx:List (Nat×bH)) (lv:List (Nat×Nat)) (b o:Nat) (res:List fq) (id e q:Nat) (r:AV) (k:Nat) (css:List (List AV)) (ids:List Nat) (l:List (Nat×Nat)) (x:bH)
def Pc(D:Option (Nat×Nat×Nat)) (args:List (Option AV)):S:=⟨bS 0 0 args,sV 0 [0,1,2,3] D (jg 0 css),AR 0 D [],4⟩
def ad8(D:Option (Nat×Nat×Nat)):Exit->S->Prop
 | .normal,s| .ret,s=>aj (dV s res) λp=>p.1=r/\iC s.boxes 0 css/\aj (MD s.boxes s.live ([0,1,2,3].take css.length) D) λ_=>True
 |_,_=>False
theorem Zj(D:Option (Nat×Nat×Nat)) (s:S):ad8 res r css D .normal s=aj (dV s res) λp=>p.1=r/\iC s.boxes 0 css/\aj (MD s.boxes s.live ([0,1,2,3].take css.length) D) λ_=>True:=rfl
theorem Zk(D:Option (Nat×Nat×Nat)) (s:S):ad8 res r css D .ret s=aj (dV s res) λp=>p.1=r/\iC s.boxes 0 css/\aj (MD s.boxes s.live ([0,1,2,3].take css.length) D) λ_=>True:=rfl
theorem Zl(D:Option (Nat×Nat×Nat)) (args:List (Option AV)):Pc css D args=⟨bS 0 0 args,sV 0 [0,1,2,3] D (jg 0 css),AR 0 D [],4⟩:=rfl
theorem Rf:jg k []=[]:=rfl
theorem U9(cs:List AV) (css:List (List AV)):jg k (cs::css)=(k,⟨cs,[]⟩)::jg (k+1) css:=rfl
theorem ad9(l:List (Nat×bH)):sV id ids none l=l:=rfl
theorem aea(b o e:Nat) (ids:List Nat) (l:List (Nat×bH)):sV id (b::ids) (some (0,o,e)) l=CB b o id l:=rfl
theorem aeb(b D o e:Nat) (ids:List Nat) (l:List (Nat×bH)):sV id (b::D::ids) (some (1,o,e)) l=CB D o id l:=rfl
theorem aec:CB b o q []=[]:=rfl
theorem aiz(r:List (Nat×bH)):CB b o q ((k,x)::r)=bif b==k then(k,⟨x.cells,[(o,q)]⟩)::r else(k,x)::CB b o q r:=rfl
theorem aed:AR id none l=l:=rfl
theorem aee(j o e:Nat) (l:List (Nat×Nat)):AR id (some (j,o,e)) l=(id,e)::l:=rfl
theorem aef:MD bx lv ids none=some none:=rfl
def tgK:Option bH->Option (Option Nat)
 |some x=>(dJ o x.tags).bind λq=>if dJ q lv=some e then some (some q)else none
 |none=>none
theorem aeg:MD bx lv (b::ids) (some (0,o,e))=tgK lv o e (bO b bx):=by
 simp only[MD,iv,H0]
 cases bO b bx<;>rfl
theorem aeh(D o e:Nat) (ids:List Nat):MD bx lv (b::D::ids) (some (1,o,e))=tgK lv o e (bO D bx):=by
 simp only[MD,ix,iv,H0]
 cases bO D bx<;>rfl
theorem aiA:tgK lv o e (some x)=(dJ o x.tags).bind λq=>if dJ q lv=some e then some (some q)else none:=rfl
theorem Zm:JT none l=l:=rfl
theorem Zn:JT (some q) l=jj q l:=rfl
theorem Zo:jj q []=[]:=rfl
end
section
variable {C:aQ} {L:Option (Nat×Nat×Nat)} {as:List (Option AV)} {bx:List (Nat×bH)} {css:List (List AV)} {f id:Nat} {ids:List Nat} {k:SV->List (Nat×bH)->List (Nat×Nat)->Prop} {lv:List (Nat×Nat)} {r:AV} {x:AV->List (Nat×bH)->Prop}
theorem aei(q m e:Nat) (r:List (Nat×Nat)):jj q ((m,e)::r)=bif q==m then jj q r else(m,e)::jj q r:=rfl
def iH:=
 dC @Zj (dC @Zk (dC @Zl (dC @Rf (dC @U9 (dC @ad9 (dC @aea (dC @aeb (dC @aec (dC @aiz (dC @aed (dC @aee (dC @aef (dC @aeg (dC @aeh (dC @aiA (dC @Zm (dC @Zn (dC @Zo (@aei)))))))))))))))))))
theorem dI{D:List (List AV)} (h:C.t f css none as r D L) (hk:k (.dat r none) (sV id ids L (dm ids D bx)) (AR id L lv)):@T7 C f css as ids id bx lv ⟨k,x⟩:=Hj h rfl hk
theorem aE{D:List (List AV)} {j o e b q:Nat} {y:bH} (h:C.t f css (some (j,o,e)) as r D L) (O:ids[j]? =some b) (M:bO b bx=some y) (R:dJ o y.tags=some q) (h4:dJ q lv=some e) (hk:k (.dat r none) (sV id ids L (dm ids D bx)) (AR id L (jj q lv))):@T7 C f css as ids id bx lv ⟨k,x⟩:=
 Hj (qo:=some q) h (by simp[MD,O,M,R,h4]) hk
end
section
variable{P:Program}
section
variable {L:Option (Nat×Nat×Nat)} {args:List (Option AV)} {css:List (List AV)}
theorem aej{w:World} {π:Nat->Nat->Prop} {Bs:List Nat} {vs:List Value} {O:Value} {nt:Nat} (hn:args.length<=nt) (h4:css.length<=4) (ab:∀b o,π b o->b<w.heap.size) (a4:Bs.Nodup) (ar:bX w π css Bs) (hd:eO w π args Bs vs) (aa:Ib P w π Bs (λ_=>True) O L):
  dS P nt (gw.xN w Bs (CN L O)) w π (Pc css L args) {tmps:=vs.toArray++Array.replicate (nt-vs.toArray.size) undef,defers:=[]} w:=by
 have a7:=qC hd
 obtain⟨a8,ac⟩:=ar.get
 have hβ:∀(j B:Nat),Bs[j]? =some B->(gw.xN w Bs (CN L O)).β j=B:=λj B hj=>by simp[gw.xN,hj]
 have M:∀b x,bO b (jg 0 css)=some x->∃B cs,b<4/\Bs[b]? =some B/\(gw.xN w Bs (CN L O)).β b=B/\x=⟨cs,[]⟩/\pN (λ_=>O) w π B ⟨cs,[]⟩:=by
  intro b x hb;obtain⟨cs,_,V,Z⟩:=r5 hb;simp only[IO]at V
  have a9:b<css.length:=(em.1 V).1
  have hB:Bs[b]? =some Bs[b]:=eh aaN
  exact⟨_,cs,aaN,hB,hβ _ _ hB,Z,(ac b cs _ V hB).rQ⟩
 have D:∀q e,dJ q (AR 0 L [])=some e->q=0/\∃j o,L=some (j,o,e):=by
  intro q e h
  cases L with
  |none=>cases h
  |some p=>
   obtain⟨j,o,e'⟩:=p;simp only[AR,dJ]at h
   by_cases hq:q=0
   ·subst hq;simp at h;subst h;exact⟨rfl,j,o,rfl⟩
   ·have:(q==0)=false:=by simpa using hq
    simp[this]at h
 have ae:∀b x,bO b (jg 0 css)=some x->(gw.xN w Bs (CN L O)).β b∈Bs:=λb x h=>by
  obtain⟨B,cs,h1,V,Z,_⟩:=M b x h;rw[Z];exact et V
 have R0:Rel P nt (gw.xN w Bs (CN L O)) w π (λn=>n<4) ⟨bS 0 0 args,jg 0 css,AR 0 L [],4⟩ {tmps:=vs.toArray++Array.replicate (nt-vs.toArray.size) undef,defers:=[]} w (gw.xN w Bs (CN L O)).β (λ_=>O) π:=by
  refine{size:=?_,slots:=?_,boxes:=?_,inj:=?_,live:=λq e h=>?_,cw:=λq q' e e' B h h' _ _=>?_,cz:=λq e b x h hb=>?_,below:=.refl _ _,f9:=ik _,eF:=ab,ep:=λ_ _ h=>h,cB:=λ_ _ h=>.inl h,lz:=λ_ _=>rfl,jb:=λ_ h=>h,kept:=λ_ _ _=>rfl}
  ·simp;omega
  ·intro t v hv
   obtain⟨x,_,hx,a2⟩:=nG hd hv;simp only[IO]at hx
   have ao:t<vs.length:=(em.1 hx).1
   have R:(vs.toArray++Array.replicate (nt-vs.toArray.size) undef)[t]? =some x:=by
    simp[LT,ao]
    simpa using(em.1 hx).2
   rcases a2 with⟨a,rfl,ak⟩|⟨j,B,hB,⟨rfl,rfl⟩|⟨rfl,rfl⟩⟩
   ·exact⟨⟨x,R,(mc (U:=λn=>n<4) ak).1⟩,(mc (β:=id) (τ:=λ_=>undef) ak).2⟩
   ·refine⟨⟨_,R,?_⟩,?_⟩
    ·show Value.pointer (some ⟨B,0,none⟩)=.pointer (some ⟨(gw.xN w Bs (CN L O)).β (0+j),0,none⟩)
     rw[kr,hβ j B hB]
    ·have:j<Bs.length:=(em.1 hB).1
     show 0+j<4
     omega
   ·have hj:j<Bs.length:=(em.1 hB).1
    refine⟨⟨_,R,?_⟩,λp hp=>?_⟩
    ·show Value.agg #[.pointer (some ⟨B,0,none⟩)]=.agg #[.pointer (some ⟨(gw.xN w Bs (CN L O)).β (0+j),0,none⟩)]
     rw[kr,hβ j B hB]
    ·simp at hp;subst hp
     show j<4
     omega
  ·intro b x hb
   obtain⟨B,cs,h1,V,Z,rfl,h5⟩:=M b x hb
   exact⟨h1,.inr ⟨h1,by rw[Z];exact .inl (et V)⟩,by rw[Z];exact h5,λo q hq=>by cases hq⟩
  ·intro b b' x x' hb a5 e
   obtain⟨B,_,_,V,Z,_,_⟩:=M b x hb;obtain⟨B',_,_,au,a3,_,_⟩:=M b' x' a5;rw[Z,a3]at e;subst e;exact we a4 b b' B V au
  ·obtain⟨rfl,j,o,rfl⟩:=D q e h
   refine⟨aaO,?_⟩
   obtain⟨B,ag,el,_,_,_,am,_⟩:=aa
   rcases am with h|⟨TB,len,cap,cu,i,hv,_,ad⟩
   ·exact .inl h
   ·exact .inr ⟨TB,len,cap,cu,i,hv,.inr (.inr ⟨rfl,by rw[hv];rfl⟩),ad⟩
  ·rw[(D q e h).1,(D q' e' h').1]
  ·intro hT
   obtain⟨rfl,j,o,rfl⟩:=D q e h;obtain⟨B,ag,el,_,_,_,_,a6⟩:=aa;exact a6 _ hT (ae b x hb)
 refine⟨ik 4,(gw.xN w Bs (CN L O)).β,λ_=>O,π,λn=>n<4,λ_ h=>h,?_⟩
 cases L with
 |none=>exact R0
 |some p=>
  obtain⟨j,o,e⟩:=p;obtain⟨B,ag,el,hj,hB,al,_,_⟩:=aa
  have ba:j<Bs.length:=(em.1 hj).1
  have an:([0,1,2,3]:List Nat)[j]? =some j:=by
   have:j=0\/j=1\/j=2\/j=3:=aaN
   rcases this with rfl|rfl|rfl|rfl<;>rfl
  have R1:=R0.tag (b:=j) (o:=o) (q:=0) aaO (λcur' bd h=>by
   rw[hβ j B hj,hB]at h;cases h
   exact al)
  simp only[Pc,sV,an];exact R1
theorem FP(hm:P.follows .mixedOrders=true) {f:FuncId} {cf:bE} {mo:Bool} (bm:oK mo P f=some cf) {D:List (List AV)} {tg:Option (Nat×Nat×Nat)} {r:AV} (hn:args.length<=cf.nt) (hl:D.length=css.length) (h4:css.length<=4) (h:aw (Pure P) cf.code (ad8 cf.res r D L) (Pc css tg args)):R9 P f css tg args r D L:=by
 obtain⟨fn,c,cc,bj,hbody,a5,a3,ec,en,a2,al⟩:=qB bm;rw[ec]at h;rw[en]at hn
 refine⟨al,hl,h4,λw π Bs vs tv ag be ao hd a4=>?_⟩
 have bs:=ao.get.1
 have R:=aej (P:=P) hn h4 ag be ao hd a4
 refine Ha.1 (xi (n:=0) (F:=Fence.wide) bj hbody trivial (wa (nA (oc hm c cc a3 a2 _ (λ_=>False) ⟨#[],[]⟩ (λ_ h=>h.elim) none 0 w _ _ _ _ ⟨R,λl h=>by(cases h),⟨[],rfl,.nil,aaP⟩,λ_ h=>h.elim⟩ h)) ?_))
 have ab:∀(s:S) (a':Act) (w':World),(aj (dV s cf.res) λp=>p.1=r/\iC s.boxes 0 D/\aj (MD s.boxes s.live ([0,1,2,3].take D.length) L) λ_=>True)->dS P fn.ntmps (gw.xN w Bs (CN tg tv)) w π s a' w'->
   ∃v,(results fn a'.tmps).run P w'=.ok v w'/\∃u π' M,Ending.returned v=.returned u/\vR (gw.xN w Bs (CN tg tv)) w w'/\(∀b o,π b o->π' b o)/\(∀b o,π' b o->π b o\/w.heap.size<=b\/CN tg tv b)/\
    (∀b o,π' b o->b<w'.heap.size)/\(∀b o,π b o->w'.cell? ⟨b,o,none⟩=w.cell? ⟨b,o,none⟩)/\bX w' π' D Bs/\DV w' π' r u/\Ib P w' π' Bs (λB=>w.heap.size<=B\/CN tg tv B) M L:=by
  rintro s a' w' hq ⟨_,β,τ,π',U,hU,R'⟩
  obtain⟨⟨av,q⟩,hp,am,ad,a7⟩:=ah hq;obtain⟨qo,a8,_⟩:=ah a7;simp only at am ad;subst am;obtain⟨v,hv,bd,b1⟩:=rZ R' a5 hp
  have hβ:∀(j B:Nat),Bs[j]? =some B->β j=B:=λj B V=>by
   have:j<Bs.length:=(em.1 V).1
   rw[R'.lz j aaN]
   simp[gw.xN,V]
  have hB:bX w' π' D Bs:=zb (β:=β) (λb x hb=>(R'.boxes b x hb).2.2.1.rQ) aaN (λj B V=>by rw[kr];exact hβ j B V) ad
  have O:∀B∈Bs,∃j x,bO j s.boxes=some x/\β j=B:=λB aa=>by
   obtain⟨j,V⟩:=my.1 aa
   have b0:j<Bs.length:=(em.1 V).1
   obtain⟨x,hx⟩:=A7 ad (j:=j) aaN
   rw[kr]at hx;exact⟨j,x,hx,hβ j B V⟩
  suffices hx:∃M,Ib P w' π' Bs (λB=>w.heap.size<=B\/CN tg tv B) M L by
   obtain⟨M,a9⟩:=hx
   exact⟨v,hv,v,π',M,rfl,R'.below,R'.ep,λb o h=>(R'.cB b o h).imp id (λk=>k.elim .inl (λk=>k.elim (λk=>absurd h (jK hB b k o)) .inr)),R'.eF,R'.kept,hB,bd,a9⟩
  cases L with
  |none=>exact⟨undef,trivial⟩
  |some p=>
   obtain⟨j,o,e⟩:=p;obtain⟨b,x,q',h1,h2,h3,h5,_⟩:=J5 a8
   have bl:b=j/\j<D.length:=by
    have V:j<4/\j<D.length:=by
     have:=(em.1 h1).1
     simp only[H1,fb,gs]at this;omega
    rw[r0 V.2]at h1
    have:j=0\/j=1\/j=2\/j=3:=aaN
    rcases this with rfl|rfl|rfl|rfl<;>(simp at h1;exact⟨h1.symm,V.2⟩)
   obtain⟨rfl,bw⟩:=bl;obtain⟨_,bo,⟨ba,el,k1,_,_,k4,_⟩,_⟩:=R'.boxes b x h2
   refine⟨τ q',β b,ba,el,?_,k1,k4 o q' h3,?_,λTB a6 hm=>?_⟩
   ·have aa:Bs[b]? =some Bs[b]:=eh aaN
    rw[hβ b _ aa,aa]
   ·have ht:=(R'.live q' e h5).2
    rcases ht with h|⟨B,len,cap,cu,i,an,bi,ak⟩
    ·exact .inl h
    ·refine .inr ⟨B,len,cap,cu,i,an,?_,ak⟩
     rcases bi with h|h|h
     ·exact .inl h
     ·exfalso
      obtain⟨j',x',ac,ae⟩:=O B h
      exact R'.cz q' e j' x' h5 ac (by rw[an,ae];rfl)
     ·exact .inr h
   ·obtain⟨j',x',ac,ae⟩:=O TB hm
    exact R'.cz q' e j' x' h5 ac (by rw[a6,ae])
 rintro e a' w' ⟨s,hq,R',_,⟨Ds,Z,au,ar⟩,_⟩
 have Z:a'.defers=Ds.map P9:=by simpa using Z
 cases e with
 |normal=>show LeavesInM _ _ _ _ _ _ a'.defers _ _;rw[Z];exact ew (ab s a' · hq) Ds w' au ar R' (ik _)
 |ret=>show LeavesInM _ _ _ _ _ _ a'.defers _ _;rw[Z];exact ew (ab s a' · hq) Ds w' au ar R' (ik _)
 |_=>exact hq.elim
end
end
section
variable (C:aQ) (e f:Nat)
def gb(L D which:Int):List AV:=[I L,I D,I which]
def sK.Spec:Prop:=∀(o:AV) (bc:List AV) (D which:Int),C.t f [[o],bc] (some (0,0,e)) [some (B false),some (I D),some (I which),none,none] (.de []) [[o],bc] (some (0,0,e))
def sL.Spec:Prop:=∀(bc:List AV) (tick D which:Int),bc[137]? =some (I tick)->C.t f [[.aU],bc] none [some (B true),some (I D),some (I which),none,none] (.de []) [[.sl [gb tick D which]],bc] (some (0,0,e))
def sM.Spec:Prop:=∀(l:List (List AV)) (bc:List AV) (tick D which:Int),bc[137]? =some (I tick)->l.length<=1000->(∀r∈l,r.length=3)->C.t f [[.sl l],bc] (some (0,0,e)) [some (B true),some (I D),some (I which),none,none] (.de []) [[.sl (l++[gb tick D which])],bc] (some (0,0,e))
end
section
variable{P:Program} (hm:P.follows .mixedOrders=true) {f:Nat}
include hm
section
variable {e:Nat}
theorem sK.ok(M:oK true P f=some (dD e)):sK.Spec (Pure P) e f:=by
 intro o bc L which
 refine FP hm M (by show 5<=17;decide) rfl aaP (wg (keep:=[]) (i:=0) ?_)
 try simp only[I,B,D,RX,iH,H0,fx,er,kv,cm,eZ,XV2,↓KW,↓dh,seval,dD,Z.H,fb,gs,tt,t0]
theorem sL.ok(R:oK true P f=some (dD e)):sL.Spec (Pure P) e f:=by
 intro bc tick L which O
 have M:∀x,setCells [.aU] 0 [x]=[x]:=λ_=>rfl
 refine FP hm R (by show 5<=17;decide) rfl aaP (wg (keep:=[]) (i:=0) ?_)
 try simp only[I,B,D,RX,iH,H0,fx,er,kv,cm,eZ,XV2,↓KW,↓dh,seval,dD,Z.H,O,M,gb,fb,gs,tt,t0]
theorem sM.ok(V:oK true P f=some (dD e)):sM.Spec (Pure P) e f:=by
 intro l bc tick L which R hl O
 have M:∀x y:AV,setCells [x] 0 [y]=[y]:=λ_ _=>rfl
 refine FP hm V (by show 5<=17;decide) rfl aaP (wg (keep:=[]) (i:=0) ?_)
 try simp only[I,B,D,RX,iH,H0,fx,er,kv,cm,eZ,XV2,↓KW,↓dh,seval,dD,Z.H,R,M,gb,fb,gs,tt,t0]
 exact⟨aaN,O⟩
end
end
section
variable (t:Tb) (C:aQ) (b:Bx) (x:Fr) (f:Nat) (lines ln:Int)
structure alc (t:Tb):Prop where
 lim:∀k,k<nR t->0<=(Ng t k).limit
 share:0<=t.share
structure Tm where
 out:List Fm
 left:Int
 held:Nat->Int
def h4(h:Nat->Int):List AV:=[I (h 0),I (h 1),I (h 2),I (h 3)]
structure al0 (t:Tb) (i:Nat) (s:Tm):Prop where
 len:s.out.length=i
 left:0<=s.left/\s.left<=t.share
 held:∀k,0<=s.held k/\s.held k<=i
def Fr.fm:Fm:=⟨x.samples.map (List.map jF),x.push,x.ask,x.lines,x.jB,x.reset⟩
theorem Fr.vK:x.fm.cells=x.cells:=by
 obtain⟨s,p,a,l,st,r⟩:=x
 cases s with
 |none=>rfl
 |some s=>
  have:aJ smR (some (s.map jF))=aJ jF (some s):=by
   simp only[aJ,AV.sl.injEq,List.map_map];rfl
  simp only[Fr.fm,Fm.cells,Fr.cells,mt,this]
structure al1 (x:Fm):Prop where
 Zp:(x.samples.getD []).length<=16
 ask:0<=x.ask/\x.ask<=15
 lines:0<=x.lines/\x.lines<=15
structure ScM (c:Sc):Prop where
 ask:0<=c.ask/\c.ask<=15
 lines:0<=c.lines/\c.lines<=15
def yB(l:List (Bool×Int×Int×Int)):List (Int×Int×Int):=(l.filter (·.1)).map (·.2)
def NN(l:List (Int×Int×Int)):AV:=if l=[]then .aU else .sl (l.map JJ)
def Df:Bool:=pG x.fm
def e9:Fr:=if Df x then x else⟨none,0,0,lines,0,false⟩
theorem wO:(CZ x.fm lines).cells=(e9 x lines).cells:=by
 unfold CZ e9 Df;cases pG x.fm
 ·rfl
 ·exact Fr.vK x
def gU(n:Int):Int:=gN n 0 9999+1
structure al2 where
 b:Bx
 l:List Int
 ev:List (Int×Int×Int)
def rdL:List Int:=List.replicate 8 1
theorem Jj:rdL.map I=Gf:=rfl
def sN:Bx:=if decide (t.start<=gU b.time)then⟨2,0,b.fault,b.st,b.bV,ln,IntKind.i64.wrap (b.tick+1)⟩else⟨b.mode,gU b.time,b.fault,b.st,b.bV,ln,IntKind.i64.wrap (b.tick+1)⟩
def sO(reset:Bool):Bx:=if decide (t.least<=gU b.time)&&reset then⟨1,0,0,b.st,b.bV,ln,IntKind.i64.wrap (b.tick+1)⟩else⟨b.mode,gU b.time,b.fault,b.st,b.bV,ln,IntKind.i64.wrap (b.tick+1)⟩
def fy(L:Bool) (b D:Bx):List (Int×Int×Int):=
 yB [(!L,D.tick,5,0),(b.mode==2&&D.mode==3,D.tick,2,D.fault),(D.mode !=b.mode,D.tick,1,D.mode),((b.mode==2&&D.mode==2)&&D.st.pre.ay !=b.st.pre.ay,D.tick,3,D.st.pre.ay),((b.mode==2&&D.mode==2)&&D.st.rings.group !=b.st.rings.group,D.tick,4,D.st.rings.group)]
def mJ(D:Bx) (l:List Int) (ev:List (Int×Int×Int)):AV:=.de [.agg D.cells,.agg (l.map I),NN ev]
def Jk.Spec:Prop:=∀(t:Tb) (b:Bx) (x:Fr),t.Ok->b.Ok->b.mode=1->C.c f [.agg t.cells,.agg b.cells,.agg x.cells] (mJ (sN t b (e9 x b.lines).lines) rdL (fy (Df x) b (sN t b (e9 x b.lines).lines))) none
def Jl.Spec:Prop:=∀(t:Tb) (b:Bx) (x:Fr),t.Ok->b.Ok->b.mode=3->C.c f [.agg t.cells,.agg b.cells,.agg x.cells] (mJ (sO t b (e9 x b.lines).lines (e9 x b.lines).reset) (gP t) (fy (Df x) b (sO t b (e9 x b.lines).lines (e9 x b.lines).reset))) none
theorem Va{t:Tb} (h:t.Ok):t.cells[120]? =some (I t.least):=Tb.tail_at h 4 aaN
theorem bxF{st:bB} {bV:Mn} (O:st.Ok) (M:bV.Ok):
  (∀m D L ln tk,(Bx.mk m D L st bV ln tk).cells.length=138)/\(∀m D L ln tk,aB (Bx.mk m D L st bV ln tk).cells 0 (some 138)=some (.agg (Bx.mk m D L st bV ln tk).cells))/\
  (∀m D L ln tk,(Bx.mk m D L st bV ln tk).cells[0]? =some (I m))/\(∀m D L ln tk,(Bx.mk m D L st bV ln tk).cells[1]? =some (I D))/\(∀m D L ln tk,(Bx.mk m D L st bV ln tk).cells[2]? =some (I L))/\
  (∀m D L ln tk,(Bx.mk m D L st bV ln tk).cells[136]? =some (I ln))/\(∀m D L ln tk,(Bx.mk m D L st bV ln tk).cells[137]? =some (I tk))/\(∀m D L ln tk,(Bx.mk m D L st bV ln tk).cells[109]? =some (I st.pre.ay))/\(∀m D L ln tk,(Bx.mk m D L st bV ln tk).cells[99]? =some (I st.rings.group))/\
  (∀m D L ln tk v,setCells (Bx.mk m D L st bV ln tk).cells 0 [I v]=(Bx.mk v D L st bV ln tk).cells)/\(∀m D L ln tk v,setCells (Bx.mk m D L st bV ln tk).cells 1 [I v]=(Bx.mk m v L st bV ln tk).cells)/\(∀m D L ln tk v,setCells (Bx.mk m D L st bV ln tk).cells 2 [I v]=(Bx.mk m D v st bV ln tk).cells)/\
  (∀m D L ln tk v,setCells (Bx.mk m D L st bV ln tk).cells 136 [I v]=(Bx.mk m D L st bV v tk).cells)/\(∀m D L ln tk v,setCells (Bx.mk m D L st bV ln tk).cells 137 [I v]=(Bx.mk m D L st bV ln v).cells)/\(∀m D L ln tk,setCells aP 0 (Bx.mk m D L st bV ln tk).cells=(Bx.mk m D L st bV ln tk).cells):=by
 have ok:∀m D L ln tk,(Bx.mk m D L st bV ln tk).Ok:=λ_ _ _ _ _=>⟨O,M⟩
 exact⟨λ_ _ _ _ _=>Bx.len (ok ..),λ_ _ _ _ _=>Bx.whole (ok ..),λ_ _ _ _ _=>rfl,λ_ _ _ _ _=>rfl,λ_ _ _ _ _=>rfl,λm D L ln tk=>(Bx.Da (ok m D L ln tk)).1,λm D L ln tk=>(Bx.Da (ok m D L ln tk)).2,λm D L ln tk=>Bx.Uw (ok m D L ln tk),λm D L ln tk=>Bx.Ux (ok m D L ln tk),
  λ_ _ _ _ _ _=>rfl,λ_ _ _ _ _ _=>rfl,λ_ _ _ _ _ _=>rfl,λm D L ln tk v=>(Bx.u7 (ok m D L ln tk) v).1,λm D L ln tk v=>(Bx.u7 (ok m D L ln tk) v).2,λ_ _ _ _ _=>bp (by rw[Bx.len (ok ..)];rfl)⟩
theorem Wh:x.cells.length=6/\aB x.cells 0 (some 6)=some (.agg x.cells)/\x.cells[3]? =some (I x.lines)/\x.cells[5]? =some (B x.reset)/\∀y:Fr,setCells x.cells 0 y.cells=y.cells:=⟨rfl,rfl,rfl,rfl,λ_=>rfl⟩
end
section
variable{P:Program} (hm:P.follows .mixedOrders=true) {f:Nat}
include hm
section
variable {e f1 fC fG fM fP fR fT:Nat}
theorem Jk.ok(hc:oK true P f=some (bh fG fC fP fR fM fT f1)) (hG:p9.Spec (Pure P) fG) (hC:kH.Spec (Pure P) fC) (hP:qa.Spec (Pure P) fP) (hR:Bj.Spec (Pure P) fR) (hM:vt.Spec (Pure P) fM) (h0:sH.Spec (Pure P) f1) (hN:sK.Spec (Pure P) e f1) (hF:sL.Spec (Pure P) e f1) (hJ:sM.Spec (Pure P) e f1):Jk.Spec (Pure P) f:=by
 intro t b x ht hb V;obtain⟨m,M,L,st,bV,ln,tk⟩:=b;simp only at V;subst V
 have hl:=Tb.len ht
 have hp:=Tb.whole ht
 have aa:=aii ht
 have R:=hG x.fm
 have cC:=hC x.fm ln
 rw[wO]at cC;rw[Fr.vK]at R cC
 have ac:pG x.fm=Df x:=rfl
 rw[ac]at R
 have cP:=hP t ht
 have cM:=hM M
 have ae:gN M 0 9999+1=gU M:=rfl
 rw[ae]at cM
 have yQ:∀m M L ln tk,(Bx.mk m M L st bV ln tk).Ok:=λ_ _ _ _ _=>⟨hb.st,hb.bV⟩
 obtain⟨c1,c2,c3,c4,c5,c6,c7,c8,c9,d0,d1,d2,d3,d4,d5⟩:=bxF hb.st hb.bV;obtain⟨ad,f2,f3,f4,f5⟩:=Wh x
 obtain⟨g1,g2,g3,g4,g5⟩:=Wh (e9 x ln)
 have d6:aP.length=138:=rfl
 have p1:((gP t).map I).length=8:=by simp[gP,jd]
 have p2:setCells [.int .i64 0,.int .i64 0,.int .i64 0,.int .i64 0,.int .i64 0,.int .i64 0,.int .i64 0,.int .i64 0] 0 ((gP t).map I)=(gP t).map I:=bp (by rw[p1];rfl)
 have p3:setCells ((gP t).map I) 0 Gf=Gf:=rfl
 have p4:Gf.length=8:=rfl
 have p5:aB Gf 0 (some 8)=some (.agg Gf):=rfl
 have p6:setCells [.int .i64 0,.int .i64 0,.int .i64 0,.int .i64 0,.int .i64 0,.int .i64 0,.int .i64 0,.int .i64 0] 0 Gf=Gf:=rfl
 have ab:sN t ⟨1,M,L,st,bV,ln,tk⟩ (e9 x ln).lines=if decide (t.start<=gU M)then⟨2,0,L,st,bV,(e9 x ln).lines,IntKind.i64.wrap (tk+1)⟩else⟨1,gU M,L,st,bV,(e9 x ln).lines,IntKind.i64.wrap (tk+1)⟩:=rfl
 show(Pure P).c f _ (mJ (sN t ⟨1,M,L,st,bV,ln,tk⟩ (e9 x ln).lines) rdL (fy (Df x) ⟨1,M,L,st,bV,ln,tk⟩ (sN t ⟨1,M,L,st,bV,ln,tk⟩ (e9 x ln).lines))) none
 rw[ab];generalize e9 x ln=y at*;generalize gU M=v at*
 have D:=dC hl (dC hp (dC aa (dC c1 (dC c2 (dC c3 (dC c4 (dC c5 (dC c6 (dC c7 (dC c8 (dC c9 (dC d0 (dC d1 (dC d2 (dC d3 (dC d4 (dC d5 (dC d6 (dC ad (dC f2 (dC f3 (dC f4 (dC f5 (dC g1 (dC g2 (dC g3 (dC g4 (dC g5 (dC p1 (dC p2 (dC p3 (dC p4 (dC p5 (p6))))))))))))))))))))))))))))))))))
 rcases bf (Df x)with hg|hg<;>rcases bf (decide (t.start<=v))with h|h
 ·rw[hg]at R
  have O:fy false ⟨1,M,L,st,bV,ln,tk⟩ (Bx.mk 1 v L st bV y.lines (IntKind.i64.wrap (tk+1)))=[((IntKind.i64.wrap (tk+1)),5,0)]:=by simp[fy,yB]
  simp only[hg,h,il,eQ];rw[O];simp only[mJ,NN,ka,mi,reduceCtorEq,il];rw[Jj];refine aq hm hc [] rfl ?_;try simp only[RY,cm,↓KW,seval,bh,Z.H,D]
  first|refine af R ?_|refine aI R ?_
  try simp only[I,B,RY,cm,↓KW,↓dh,seval,D]
  first|refine af cC ?_|refine aI cC ?_
  try simp only[I,RY,cm,↓KW,↓dh,seval,D]
  first|refine af cP ?_|refine aI cP ?_
  try simp only[I,RY,cm,↓KW,↓dh,seval,D]
  first|refine af hR ?_|refine aI hR ?_
  try simp only[I,RY,cm,↓KW,↓dh,seval,D]
  first|refine af cM ?_|refine aI cM ?_
  try simp only[I,RY,cm,eZ,↓KW,↓dh,seval,h,D]
  refine⟨rfl,dI (hF (Bx.mk 1 v L st bV y.lines (IntKind.i64.wrap (tk+1))).cells (IntKind.i64.wrap (tk+1)) 5 0 (c7 ..)) ?_⟩;try simp only[I,RY,iH,cm,eZ,↓KW,↓dh,seval,D]
  refine⟨rfl,aE (hN (.sl [gb (IntKind.i64.wrap (tk+1)) 5 0]) (Bx.mk 1 v L st bV y.lines (IntKind.i64.wrap (tk+1))).cells 2 L) rfl rfl rfl rfl ?_⟩;try simp only[I,RY,iH,cm,eZ,↓KW,↓dh,seval,D]
  refine⟨rfl,aE (hN (.sl [gb (IntKind.i64.wrap (tk+1)) 5 0]) (Bx.mk 1 v L st bV y.lines (IntKind.i64.wrap (tk+1))).cells 1 1) rfl rfl rfl rfl ?_⟩;try simp only[I,RY,iH,cm,eZ,↓KW,↓dh,seval,D]
  refine⟨rfl,aE (hN (.sl [gb (IntKind.i64.wrap (tk+1)) 5 0]) (Bx.mk 1 v L st bV y.lines (IntKind.i64.wrap (tk+1))).cells 3 st.pre.ay) rfl rfl rfl rfl ?_⟩;try simp only[I,RY,iH,cm,eZ,↓KW,↓dh,seval,D]
  refine⟨rfl,aE (hN (.sl [gb (IntKind.i64.wrap (tk+1)) 5 0]) (Bx.mk 1 v L st bV y.lines (IntKind.i64.wrap (tk+1))).cells 4 st.rings.group) rfl rfl rfl rfl ?_⟩;try simp only[RY,iH,seval]
  refine ej rfl ?_;try simp only[I,RY,↓KW,seval,JJ,gb,D]
 ·rw[hg]at R
  have O:fy false ⟨1,M,L,st,bV,ln,tk⟩ (Bx.mk 2 0 L st bV y.lines (IntKind.i64.wrap (tk+1)))=[((IntKind.i64.wrap (tk+1)),5,0),((IntKind.i64.wrap (tk+1)),1,2)]:=by simp[fy,yB]
  simp only[hg,h,kv];rw[O];simp only[mJ,NN,ka,mi,reduceCtorEq,il];rw[Jj];refine aq hm hc [] rfl ?_;try simp only[RY,cm,↓KW,seval,bh,Z.H,D]
  first|refine af R ?_|refine aI R ?_
  try simp only[I,B,RY,cm,↓KW,↓dh,seval,D]
  first|refine af cC ?_|refine aI cC ?_
  try simp only[I,RY,cm,↓KW,↓dh,seval,D]
  first|refine af cP ?_|refine aI cP ?_
  try simp only[I,RY,cm,↓KW,↓dh,seval,D]
  first|refine af hR ?_|refine aI hR ?_
  try simp only[I,RY,cm,↓KW,↓dh,seval,D]
  first|refine af cM ?_|refine aI cM ?_
  try simp only[I,RY,cm,eZ,↓KW,↓dh,seval,h,D]
  refine⟨rfl,dI (hF (Bx.mk 2 0 L st bV y.lines (IntKind.i64.wrap (tk+1))).cells (IntKind.i64.wrap (tk+1)) 5 0 (c7 ..)) ?_⟩;try simp only[I,RY,iH,cm,eZ,↓KW,↓dh,seval,D]
  refine⟨rfl,aE (hN (.sl [gb (IntKind.i64.wrap (tk+1)) 5 0]) (Bx.mk 2 0 L st bV y.lines (IntKind.i64.wrap (tk+1))).cells 2 L) rfl rfl rfl rfl ?_⟩;try simp only[I,RY,iH,cm,eZ,↓KW,↓dh,seval,D]
  refine⟨rfl,aE (hJ [gb (IntKind.i64.wrap (tk+1)) 5 0] (Bx.mk 2 0 L st bV y.lines (IntKind.i64.wrap (tk+1))).cells (IntKind.i64.wrap (tk+1)) 1 2 (c7 ..) aaP (by simp[gb])) rfl rfl rfl rfl ?_⟩
  try simp only[I,RY,iH,cm,eZ,↓KW,↓dh,seval,D]
  refine⟨rfl,aE (hN (.sl [gb (IntKind.i64.wrap (tk+1)) 5 0,gb (IntKind.i64.wrap (tk+1)) 1 2]) (Bx.mk 2 0 L st bV y.lines (IntKind.i64.wrap (tk+1))).cells 3 st.pre.ay) rfl rfl rfl rfl ?_⟩;try simp only[I,RY,iH,cm,eZ,↓KW,↓dh,seval,D]
  refine⟨rfl,aE (hN (.sl [gb (IntKind.i64.wrap (tk+1)) 5 0,gb (IntKind.i64.wrap (tk+1)) 1 2]) (Bx.mk 2 0 L st bV y.lines (IntKind.i64.wrap (tk+1))).cells 4 st.rings.group) rfl rfl rfl rfl ?_⟩;try simp only[RY,iH,seval]
  refine ej rfl ?_;try simp only[I,RY,↓KW,seval,JJ,gb,D]
 ·rw[hg]at R
  have O:fy true ⟨1,M,L,st,bV,ln,tk⟩ (Bx.mk 1 v L st bV y.lines (IntKind.i64.wrap (tk+1)))=[]:=by simp[fy,yB]
  simp only[hg,h,il,eQ];rw[O];simp only[mJ,NN,mi,kv];rw[Jj];refine aq hm hc [] rfl ?_;try simp only[RY,cm,↓KW,seval,bh,Z.H,D]
  first|refine af R ?_|refine aI R ?_
  try simp only[I,B,RY,cm,↓KW,↓dh,seval,D]
  first|refine af cC ?_|refine aI cC ?_
  try simp only[I,RY,cm,↓KW,↓dh,seval,D]
  first|refine af cP ?_|refine aI cP ?_
  try simp only[I,RY,cm,↓KW,↓dh,seval,D]
  first|refine af hR ?_|refine aI hR ?_
  try simp only[I,RY,cm,↓KW,↓dh,seval,D]
  first|refine af cM ?_|refine aI cM ?_
  try simp only[I,RY,cm,eZ,↓KW,↓dh,seval,h,D]
  refine⟨rfl,aT (h0 .aU (Bx.mk 1 v L st bV y.lines (IntKind.i64.wrap (tk+1))) 5 0 (yQ ..)) ?_⟩;try simp only[I,RY,cm,eZ,↓KW,↓dh,seval,D]
  refine⟨rfl,aT (h0 .aU (Bx.mk 1 v L st bV y.lines (IntKind.i64.wrap (tk+1))) 2 L (yQ ..)) ?_⟩;try simp only[I,RY,cm,eZ,↓KW,↓dh,seval,D]
  refine⟨rfl,aT (h0 .aU (Bx.mk 1 v L st bV y.lines (IntKind.i64.wrap (tk+1))) 1 1 (yQ ..)) ?_⟩;try simp only[I,RY,cm,eZ,↓KW,↓dh,seval,D]
  refine⟨rfl,aT (h0 .aU (Bx.mk 1 v L st bV y.lines (IntKind.i64.wrap (tk+1))) 3 st.pre.ay (yQ ..)) ?_⟩;try simp only[I,RY,cm,eZ,↓KW,↓dh,seval,D]
  refine⟨rfl,aT (h0 .aU (Bx.mk 1 v L st bV y.lines (IntKind.i64.wrap (tk+1))) 4 st.rings.group (yQ ..)) ?_⟩;try simp only[RY,seval]
  refine ej rfl ?_;try simp only[RY,↓KW,seval,D]
 ·rw[hg]at R
  have O:fy true ⟨1,M,L,st,bV,ln,tk⟩ (Bx.mk 2 0 L st bV y.lines (IntKind.i64.wrap (tk+1)))=[((IntKind.i64.wrap (tk+1)),1,2)]:=by simp[fy,yB]
  simp only[hg,h,kv];rw[O];simp only[mJ,NN,ka,mi,reduceCtorEq,il];rw[Jj];refine aq hm hc [] rfl ?_;try simp only[RY,cm,↓KW,seval,bh,Z.H,D]
  first|refine af R ?_|refine aI R ?_
  try simp only[I,B,RY,cm,↓KW,↓dh,seval,D]
  first|refine af cC ?_|refine aI cC ?_
  try simp only[I,RY,cm,↓KW,↓dh,seval,D]
  first|refine af cP ?_|refine aI cP ?_
  try simp only[I,RY,cm,↓KW,↓dh,seval,D]
  first|refine af hR ?_|refine aI hR ?_
  try simp only[I,RY,cm,↓KW,↓dh,seval,D]
  first|refine af cM ?_|refine aI cM ?_
  try simp only[I,RY,cm,eZ,↓KW,↓dh,seval,h,D]
  refine⟨rfl,aT (h0 .aU (Bx.mk 2 0 L st bV y.lines (IntKind.i64.wrap (tk+1))) 5 0 (yQ ..)) ?_⟩;try simp only[I,RY,cm,eZ,↓KW,↓dh,seval,D]
  refine⟨rfl,aT (h0 .aU (Bx.mk 2 0 L st bV y.lines (IntKind.i64.wrap (tk+1))) 2 L (yQ ..)) ?_⟩;try simp only[I,RY,cm,eZ,↓KW,↓dh,seval,D]
  refine⟨rfl,dI (hF (Bx.mk 2 0 L st bV y.lines (IntKind.i64.wrap (tk+1))).cells (IntKind.i64.wrap (tk+1)) 1 2 (c7 ..)) ?_⟩;try simp only[I,RY,iH,cm,eZ,↓KW,↓dh,seval,D]
  refine⟨rfl,aE (hN (.sl [gb (IntKind.i64.wrap (tk+1)) 1 2]) (Bx.mk 2 0 L st bV y.lines (IntKind.i64.wrap (tk+1))).cells 3 st.pre.ay) rfl rfl rfl rfl ?_⟩;try simp only[I,RY,iH,cm,eZ,↓KW,↓dh,seval,D]
  refine⟨rfl,aE (hN (.sl [gb (IntKind.i64.wrap (tk+1)) 1 2]) (Bx.mk 2 0 L st bV y.lines (IntKind.i64.wrap (tk+1))).cells 4 st.rings.group) rfl rfl rfl rfl ?_⟩;try simp only[RY,iH,seval]
  refine ej rfl ?_;try simp only[I,RY,↓KW,seval,JJ,gb,D]
theorem Jl.ok(hc:oK true P f=some (bh fG fC fP fR fM fT f1)) (hG:p9.Spec (Pure P) fG) (hC:kH.Spec (Pure P) fC) (hP:qa.Spec (Pure P) fP) (hM:vt.Spec (Pure P) fM) (h0:sH.Spec (Pure P) f1) (hN:sK.Spec (Pure P) e f1) (hF:sL.Spec (Pure P) e f1) (hJ:sM.Spec (Pure P) e f1):Jl.Spec (Pure P) f:=by
 intro t b x ht hb aa;obtain⟨m,R,L,st,bV,ln,tk⟩:=b;simp only at aa;subst aa
 have hl:=Tb.len ht
 have hp:=Tb.whole ht
 have ab:=Va ht
 have O:=hG x.fm
 have V:=hC x.fm ln
 rw[wO]at V;rw[Fr.vK]at O V
 have ae:pG x.fm=Df x:=rfl
 rw[ae]at O
 have cP:=hP t ht
 have cM:=hM R
 have ak:gN R 0 9999+1=gU R:=rfl
 rw[ak]at cM
 have yQ:∀m R L ln tk,(Bx.mk m R L st bV ln tk).Ok:=λ_ _ _ _ _=>⟨hb.st,hb.bV⟩
 obtain⟨c1,c2,c3,c4,c5,c6,c7,c8,c9,d0,d1,d2,d3,d4,d5⟩:=bxF hb.st hb.bV;obtain⟨ag,f2,f3,f4,f5⟩:=Wh x
 obtain⟨g1,g2,g3,g4,g5⟩:=Wh (e9 x ln)
 have d6:aP.length=138:=rfl
 have p1:((gP t).map I).length=8:=by simp[gP,jd]
 have p2:setCells [.int .i64 0,.int .i64 0,.int .i64 0,.int .i64 0,.int .i64 0,.int .i64 0,.int .i64 0,.int .i64 0] 0 ((gP t).map I)=(gP t).map I:=bp (by rw[p1];rfl)
 have p3:setCells ((gP t).map I) 0 Gf=Gf:=rfl
 have p4:Gf.length=8:=rfl
 have p5:aB Gf 0 (some 8)=some (.agg Gf):=rfl
 have p6:setCells [.int .i64 0,.int .i64 0,.int .i64 0,.int .i64 0,.int .i64 0,.int .i64 0,.int .i64 0,.int .i64 0] 0 Gf=Gf:=rfl
 have p7:aB ((gP t).map I) 0 (some 8)=some (.agg ((gP t).map I)):=rfl
 have ad:∀y:Fr,sO t ⟨3,R,L,st,bV,ln,tk⟩ y.lines y.reset=if decide (t.least<=gU R)&&y.reset then⟨1,0,0,st,bV,y.lines,IntKind.i64.wrap (tk+1)⟩else⟨3,gU R,L,st,bV,y.lines,IntKind.i64.wrap (tk+1)⟩:=λ_=>rfl
 show(Pure P).c f _ (mJ (sO t ⟨3,R,L,st,bV,ln,tk⟩ (e9 x ln).lines (e9 x ln).reset) (gP t) (fy (Df x) ⟨3,R,L,st,bV,ln,tk⟩ (sO t ⟨3,R,L,st,bV,ln,tk⟩ (e9 x ln).lines (e9 x ln).reset))) none
 rw[ad];generalize e9 x ln=y at*;generalize gU R=v at*
 obtain⟨rs,ac⟩:∃r,r=y.reset:=⟨_,rfl⟩
 rw[<-ac]at g4⊢
 have D:=dC hl (dC hp (dC ab (dC c1 (dC c2 (dC c3 (dC c4 (dC c5 (dC c6 (dC c7 (dC c8 (dC c9 (dC d0 (dC d1 (dC d2 (dC d3 (dC d4 (dC d5 (dC d6 (dC ag (dC f2 (dC f3 (dC f4 (dC f5 (dC g1 (dC g2 (dC g3 (dC g4 (dC g5 (dC p1 (dC p2 (p7)))))))))))))))))))))))))))))))
 rcases bf (Df x)with hg|hg<;>rcases bf (decide (t.least<=v))with h|h<;>rcases bf rs with hr|hr
 ·rw[hg]at O
  rw[hr]at g4
  have M:fy false ⟨3,R,L,st,bV,ln,tk⟩ (Bx.mk 3 v L st bV y.lines (IntKind.i64.wrap (tk+1)))=[((IntKind.i64.wrap (tk+1)),5,0)]:=by simp[fy,yB]
  simp only[hg,h,hr,pd,il,eQ];rw[M];simp only[mJ,NN,ka,mi,reduceCtorEq,il];refine aq hm hc [] rfl ?_;try simp only[RY,cm,↓KW,seval,bh,Z.H,D]
  first|refine af O ?_|refine aI O ?_
  try simp only[I,B,RY,cm,↓KW,↓dh,seval,D]
  first|refine af V ?_|refine aI V ?_
  try simp only[I,RY,cm,↓KW,↓dh,seval,D]
  first|refine af cP ?_|refine aI cP ?_
  try simp only[I,RY,cm,↓KW,↓dh,seval,D]
  first|refine af cM ?_|refine aI cM ?_
  try simp only[I,RY,cm,eZ,↓KW,↓dh,seval,h,D]
  refine⟨rfl,dI (hF (Bx.mk 3 v L st bV y.lines (IntKind.i64.wrap (tk+1))).cells (IntKind.i64.wrap (tk+1)) 5 0 (c7 ..)) ?_⟩;try simp only[I,RY,iH,cm,eZ,↓KW,↓dh,seval,D]
  refine⟨rfl,aE (hN (.sl [gb (IntKind.i64.wrap (tk+1)) 5 0]) (Bx.mk 3 v L st bV y.lines (IntKind.i64.wrap (tk+1))).cells 2 L) rfl rfl rfl rfl ?_⟩;try simp only[I,RY,iH,cm,eZ,↓KW,↓dh,seval,D]
  refine⟨rfl,aE (hN (.sl [gb (IntKind.i64.wrap (tk+1)) 5 0]) (Bx.mk 3 v L st bV y.lines (IntKind.i64.wrap (tk+1))).cells 1 3) rfl rfl rfl rfl ?_⟩;try simp only[I,RY,iH,cm,eZ,↓KW,↓dh,seval,D]
  refine⟨rfl,aE (hN (.sl [gb (IntKind.i64.wrap (tk+1)) 5 0]) (Bx.mk 3 v L st bV y.lines (IntKind.i64.wrap (tk+1))).cells 3 st.pre.ay) rfl rfl rfl rfl ?_⟩;try simp only[I,RY,iH,cm,eZ,↓KW,↓dh,seval,D]
  refine⟨rfl,aE (hN (.sl [gb (IntKind.i64.wrap (tk+1)) 5 0]) (Bx.mk 3 v L st bV y.lines (IntKind.i64.wrap (tk+1))).cells 4 st.rings.group) rfl rfl rfl rfl ?_⟩;try simp only[RY,iH,seval]
  refine ej rfl ?_;try simp only[I,RY,↓KW,seval,JJ,gb,D]
 ·rw[hg]at O
  rw[hr]at g4
  have M:fy false ⟨3,R,L,st,bV,ln,tk⟩ (Bx.mk 3 v L st bV y.lines (IntKind.i64.wrap (tk+1)))=[((IntKind.i64.wrap (tk+1)),5,0)]:=by simp[fy,yB]
  simp only[hg,h,hr,pB,il,eQ];rw[M];simp only[mJ,NN,ka,mi,reduceCtorEq,il];refine aq hm hc [] rfl ?_;try simp only[RY,cm,↓KW,seval,bh,Z.H,D]
  first|refine af O ?_|refine aI O ?_
  try simp only[I,B,RY,cm,↓KW,↓dh,seval,D]
  first|refine af V ?_|refine aI V ?_
  try simp only[I,RY,cm,↓KW,↓dh,seval,D]
  first|refine af cP ?_|refine aI cP ?_
  try simp only[I,RY,cm,↓KW,↓dh,seval,D]
  first|refine af cM ?_|refine aI cM ?_
  try simp only[I,RY,cm,eZ,↓KW,↓dh,seval,h,D]
  refine⟨rfl,dI (hF (Bx.mk 3 v L st bV y.lines (IntKind.i64.wrap (tk+1))).cells (IntKind.i64.wrap (tk+1)) 5 0 (c7 ..)) ?_⟩;try simp only[I,RY,iH,cm,eZ,↓KW,↓dh,seval,D]
  refine⟨rfl,aE (hN (.sl [gb (IntKind.i64.wrap (tk+1)) 5 0]) (Bx.mk 3 v L st bV y.lines (IntKind.i64.wrap (tk+1))).cells 2 L) rfl rfl rfl rfl ?_⟩;try simp only[I,RY,iH,cm,eZ,↓KW,↓dh,seval,D]
  refine⟨rfl,aE (hN (.sl [gb (IntKind.i64.wrap (tk+1)) 5 0]) (Bx.mk 3 v L st bV y.lines (IntKind.i64.wrap (tk+1))).cells 1 3) rfl rfl rfl rfl ?_⟩;try simp only[I,RY,iH,cm,eZ,↓KW,↓dh,seval,D]
  refine⟨rfl,aE (hN (.sl [gb (IntKind.i64.wrap (tk+1)) 5 0]) (Bx.mk 3 v L st bV y.lines (IntKind.i64.wrap (tk+1))).cells 3 st.pre.ay) rfl rfl rfl rfl ?_⟩;try simp only[I,RY,iH,cm,eZ,↓KW,↓dh,seval,D]
  refine⟨rfl,aE (hN (.sl [gb (IntKind.i64.wrap (tk+1)) 5 0]) (Bx.mk 3 v L st bV y.lines (IntKind.i64.wrap (tk+1))).cells 4 st.rings.group) rfl rfl rfl rfl ?_⟩;try simp only[RY,iH,seval]
  refine ej rfl ?_;try simp only[I,RY,↓KW,seval,JJ,gb,D]
 ·rw[hg]at O
  rw[hr]at g4
  have M:fy false ⟨3,R,L,st,bV,ln,tk⟩ (Bx.mk 3 v L st bV y.lines (IntKind.i64.wrap (tk+1)))=[((IntKind.i64.wrap (tk+1)),5,0)]:=by simp[fy,yB]
  simp only[hg,h,hr,pd,il,eQ];rw[M];simp only[mJ,NN,ka,mi,reduceCtorEq,il];refine aq hm hc [] rfl ?_;try simp only[RY,cm,↓KW,seval,bh,Z.H,D]
  first|refine af O ?_|refine aI O ?_
  try simp only[I,B,RY,cm,↓KW,↓dh,seval,D]
  first|refine af V ?_|refine aI V ?_
  try simp only[I,RY,cm,↓KW,↓dh,seval,D]
  first|refine af cP ?_|refine aI cP ?_
  try simp only[I,RY,cm,↓KW,↓dh,seval,D]
  first|refine af cM ?_|refine aI cM ?_
  try simp only[I,B,RY,cm,eZ,↓KW,↓dh,seval,h,hr,D]
  refine⟨rfl,dI (hF (Bx.mk 3 v L st bV y.lines (IntKind.i64.wrap (tk+1))).cells (IntKind.i64.wrap (tk+1)) 5 0 (c7 ..)) ?_⟩;try simp only[I,RY,iH,cm,eZ,↓KW,↓dh,seval,D]
  refine⟨rfl,aE (hN (.sl [gb (IntKind.i64.wrap (tk+1)) 5 0]) (Bx.mk 3 v L st bV y.lines (IntKind.i64.wrap (tk+1))).cells 2 L) rfl rfl rfl rfl ?_⟩;try simp only[I,RY,iH,cm,eZ,↓KW,↓dh,seval,D]
  refine⟨rfl,aE (hN (.sl [gb (IntKind.i64.wrap (tk+1)) 5 0]) (Bx.mk 3 v L st bV y.lines (IntKind.i64.wrap (tk+1))).cells 1 3) rfl rfl rfl rfl ?_⟩;try simp only[I,RY,iH,cm,eZ,↓KW,↓dh,seval,D]
  refine⟨rfl,aE (hN (.sl [gb (IntKind.i64.wrap (tk+1)) 5 0]) (Bx.mk 3 v L st bV y.lines (IntKind.i64.wrap (tk+1))).cells 3 st.pre.ay) rfl rfl rfl rfl ?_⟩;try simp only[I,RY,iH,cm,eZ,↓KW,↓dh,seval,D]
  refine⟨rfl,aE (hN (.sl [gb (IntKind.i64.wrap (tk+1)) 5 0]) (Bx.mk 3 v L st bV y.lines (IntKind.i64.wrap (tk+1))).cells 4 st.rings.group) rfl rfl rfl rfl ?_⟩;try simp only[RY,iH,seval]
  refine ej rfl ?_;try simp only[I,RY,↓KW,seval,JJ,gb,D]
 ·rw[hg]at O
  rw[hr]at g4
  have M:fy false ⟨3,R,L,st,bV,ln,tk⟩ (Bx.mk 1 0 0 st bV y.lines (IntKind.i64.wrap (tk+1)))=[((IntKind.i64.wrap (tk+1)),5,0),((IntKind.i64.wrap (tk+1)),1,1)]:=by simp[fy,yB]
  simp only[hg,h,hr,pB,kv];rw[M];simp only[mJ,NN,ka,mi,reduceCtorEq,il];refine aq hm hc [] rfl ?_;try simp only[RY,cm,↓KW,seval,bh,Z.H,D]
  first|refine af O ?_|refine aI O ?_
  try simp only[I,B,RY,cm,↓KW,↓dh,seval,D]
  first|refine af V ?_|refine aI V ?_
  try simp only[I,RY,cm,↓KW,↓dh,seval,D]
  first|refine af cP ?_|refine aI cP ?_
  try simp only[I,RY,cm,↓KW,↓dh,seval,D]
  first|refine af cM ?_|refine aI cM ?_
  try simp only[I,B,RY,cm,eZ,↓KW,↓dh,seval,h,hr,D]
  refine⟨rfl,dI (hF (Bx.mk 1 0 0 st bV y.lines (IntKind.i64.wrap (tk+1))).cells (IntKind.i64.wrap (tk+1)) 5 0 (c7 ..)) ?_⟩;try simp only[I,RY,iH,cm,eZ,↓KW,↓dh,seval,D]
  refine⟨rfl,aE (hN (.sl [gb (IntKind.i64.wrap (tk+1)) 5 0]) (Bx.mk 1 0 0 st bV y.lines (IntKind.i64.wrap (tk+1))).cells 2 0) rfl rfl rfl rfl ?_⟩;try simp only[I,RY,iH,cm,eZ,↓KW,↓dh,seval,D]
  refine⟨rfl,aE (hJ [gb (IntKind.i64.wrap (tk+1)) 5 0] (Bx.mk 1 0 0 st bV y.lines (IntKind.i64.wrap (tk+1))).cells (IntKind.i64.wrap (tk+1)) 1 1 (c7 ..) aaP (by simp[gb])) rfl rfl rfl rfl ?_⟩
  try simp only[I,RY,iH,cm,eZ,↓KW,↓dh,seval,D]
  refine⟨rfl,aE (hN (.sl [gb (IntKind.i64.wrap (tk+1)) 5 0,gb (IntKind.i64.wrap (tk+1)) 1 1]) (Bx.mk 1 0 0 st bV y.lines (IntKind.i64.wrap (tk+1))).cells 3 st.pre.ay) rfl rfl rfl rfl ?_⟩;try simp only[I,RY,iH,cm,eZ,↓KW,↓dh,seval,D]
  refine⟨rfl,aE (hN (.sl [gb (IntKind.i64.wrap (tk+1)) 5 0,gb (IntKind.i64.wrap (tk+1)) 1 1]) (Bx.mk 1 0 0 st bV y.lines (IntKind.i64.wrap (tk+1))).cells 4 st.rings.group) rfl rfl rfl rfl ?_⟩;try simp only[RY,iH,seval]
  refine ej rfl ?_;try simp only[I,RY,↓KW,seval,JJ,gb,D]
 ·rw[hg]at O
  rw[hr]at g4
  have M:fy true ⟨3,R,L,st,bV,ln,tk⟩ (Bx.mk 3 v L st bV y.lines (IntKind.i64.wrap (tk+1)))=[]:=by simp[fy,yB]
  simp only[hg,h,hr,pd,il,eQ];rw[M];simp only[mJ,NN,mi,kv];refine aq hm hc [] rfl ?_;try simp only[RY,cm,↓KW,seval,bh,Z.H,D]
  first|refine af O ?_|refine aI O ?_
  try simp only[I,B,RY,cm,↓KW,↓dh,seval,D]
  first|refine af V ?_|refine aI V ?_
  try simp only[I,RY,cm,↓KW,↓dh,seval,D]
  first|refine af cP ?_|refine aI cP ?_
  try simp only[I,RY,cm,↓KW,↓dh,seval,D]
  first|refine af cM ?_|refine aI cM ?_
  try simp only[I,RY,cm,eZ,↓KW,↓dh,seval,h,D]
  refine⟨rfl,aT (h0 .aU (Bx.mk 3 v L st bV y.lines (IntKind.i64.wrap (tk+1))) 5 0 (yQ ..)) ?_⟩;try simp only[I,RY,cm,eZ,↓KW,↓dh,seval,D]
  refine⟨rfl,aT (h0 .aU (Bx.mk 3 v L st bV y.lines (IntKind.i64.wrap (tk+1))) 2 L (yQ ..)) ?_⟩;try simp only[I,RY,cm,eZ,↓KW,↓dh,seval,D]
  refine⟨rfl,aT (h0 .aU (Bx.mk 3 v L st bV y.lines (IntKind.i64.wrap (tk+1))) 1 3 (yQ ..)) ?_⟩;try simp only[I,RY,cm,eZ,↓KW,↓dh,seval,D]
  refine⟨rfl,aT (h0 .aU (Bx.mk 3 v L st bV y.lines (IntKind.i64.wrap (tk+1))) 3 st.pre.ay (yQ ..)) ?_⟩;try simp only[I,RY,cm,eZ,↓KW,↓dh,seval,D]
  refine⟨rfl,aT (h0 .aU (Bx.mk 3 v L st bV y.lines (IntKind.i64.wrap (tk+1))) 4 st.rings.group (yQ ..)) ?_⟩;try simp only[RY,seval]
  refine ej rfl ?_;try simp only[RY,↓KW,seval,D]
 ·rw[hg]at O
  rw[hr]at g4
  have M:fy true ⟨3,R,L,st,bV,ln,tk⟩ (Bx.mk 3 v L st bV y.lines (IntKind.i64.wrap (tk+1)))=[]:=by simp[fy,yB]
  simp only[hg,h,hr,pB,il,eQ];rw[M];simp only[mJ,NN,mi,kv];refine aq hm hc [] rfl ?_;try simp only[RY,cm,↓KW,seval,bh,Z.H,D]
  first|refine af O ?_|refine aI O ?_
  try simp only[I,B,RY,cm,↓KW,↓dh,seval,D]
  first|refine af V ?_|refine aI V ?_
  try simp only[I,RY,cm,↓KW,↓dh,seval,D]
  first|refine af cP ?_|refine aI cP ?_
  try simp only[I,RY,cm,↓KW,↓dh,seval,D]
  first|refine af cM ?_|refine aI cM ?_
  try simp only[I,RY,cm,eZ,↓KW,↓dh,seval,h,D]
  refine⟨rfl,aT (h0 .aU (Bx.mk 3 v L st bV y.lines (IntKind.i64.wrap (tk+1))) 5 0 (yQ ..)) ?_⟩;try simp only[I,RY,cm,eZ,↓KW,↓dh,seval,D]
  refine⟨rfl,aT (h0 .aU (Bx.mk 3 v L st bV y.lines (IntKind.i64.wrap (tk+1))) 2 L (yQ ..)) ?_⟩;try simp only[I,RY,cm,eZ,↓KW,↓dh,seval,D]
  refine⟨rfl,aT (h0 .aU (Bx.mk 3 v L st bV y.lines (IntKind.i64.wrap (tk+1))) 1 3 (yQ ..)) ?_⟩;try simp only[I,RY,cm,eZ,↓KW,↓dh,seval,D]
  refine⟨rfl,aT (h0 .aU (Bx.mk 3 v L st bV y.lines (IntKind.i64.wrap (tk+1))) 3 st.pre.ay (yQ ..)) ?_⟩;try simp only[I,RY,cm,eZ,↓KW,↓dh,seval,D]
  refine⟨rfl,aT (h0 .aU (Bx.mk 3 v L st bV y.lines (IntKind.i64.wrap (tk+1))) 4 st.rings.group (yQ ..)) ?_⟩;try simp only[RY,seval]
  refine ej rfl ?_;try simp only[RY,↓KW,seval,D]
 ·rw[hg]at O
  rw[hr]at g4
  have M:fy true ⟨3,R,L,st,bV,ln,tk⟩ (Bx.mk 3 v L st bV y.lines (IntKind.i64.wrap (tk+1)))=[]:=by simp[fy,yB]
  simp only[hg,h,hr,pd,il,eQ];rw[M];simp only[mJ,NN,mi,kv];refine aq hm hc [] rfl ?_;try simp only[RY,cm,↓KW,seval,bh,Z.H,D]
  first|refine af O ?_|refine aI O ?_
  try simp only[I,B,RY,cm,↓KW,↓dh,seval,D]
  first|refine af V ?_|refine aI V ?_
  try simp only[I,RY,cm,↓KW,↓dh,seval,D]
  first|refine af cP ?_|refine aI cP ?_
  try simp only[I,RY,cm,↓KW,↓dh,seval,D]
  first|refine af cM ?_|refine aI cM ?_
  try simp only[I,B,RY,cm,eZ,↓KW,↓dh,seval,h,hr,D]
  refine⟨rfl,aT (h0 .aU (Bx.mk 3 v L st bV y.lines (IntKind.i64.wrap (tk+1))) 5 0 (yQ ..)) ?_⟩;try simp only[I,RY,cm,eZ,↓KW,↓dh,seval,D]
  refine⟨rfl,aT (h0 .aU (Bx.mk 3 v L st bV y.lines (IntKind.i64.wrap (tk+1))) 2 L (yQ ..)) ?_⟩;try simp only[I,RY,cm,eZ,↓KW,↓dh,seval,D]
  refine⟨rfl,aT (h0 .aU (Bx.mk 3 v L st bV y.lines (IntKind.i64.wrap (tk+1))) 1 3 (yQ ..)) ?_⟩;try simp only[I,RY,cm,eZ,↓KW,↓dh,seval,D]
  refine⟨rfl,aT (h0 .aU (Bx.mk 3 v L st bV y.lines (IntKind.i64.wrap (tk+1))) 3 st.pre.ay (yQ ..)) ?_⟩;try simp only[I,RY,cm,eZ,↓KW,↓dh,seval,D]
  refine⟨rfl,aT (h0 .aU (Bx.mk 3 v L st bV y.lines (IntKind.i64.wrap (tk+1))) 4 st.rings.group (yQ ..)) ?_⟩;try simp only[RY,seval]
  refine ej rfl ?_;try simp only[RY,↓KW,seval,D]
 ·rw[hg]at O
  rw[hr]at g4
  have M:fy true ⟨3,R,L,st,bV,ln,tk⟩ (Bx.mk 1 0 0 st bV y.lines (IntKind.i64.wrap (tk+1)))=[((IntKind.i64.wrap (tk+1)),1,1)]:=by simp[fy,yB]
  simp only[hg,h,hr,pB,kv];rw[M];simp only[mJ,NN,ka,mi,reduceCtorEq,il];refine aq hm hc [] rfl ?_;try simp only[RY,cm,↓KW,seval,bh,Z.H,D]
  first|refine af O ?_|refine aI O ?_
  try simp only[I,B,RY,cm,↓KW,↓dh,seval,D]
  first|refine af V ?_|refine aI V ?_
  try simp only[I,RY,cm,↓KW,↓dh,seval,D]
  first|refine af cP ?_|refine aI cP ?_
  try simp only[I,RY,cm,↓KW,↓dh,seval,D]
  first|refine af cM ?_|refine aI cM ?_
  try simp only[I,B,RY,cm,eZ,↓KW,↓dh,seval,h,hr,D]
  refine⟨rfl,aT (h0 .aU (Bx.mk 1 0 0 st bV y.lines (IntKind.i64.wrap (tk+1))) 5 0 (yQ ..)) ?_⟩;try simp only[I,RY,cm,eZ,↓KW,↓dh,seval,D]
  refine⟨rfl,aT (h0 .aU (Bx.mk 1 0 0 st bV y.lines (IntKind.i64.wrap (tk+1))) 2 0 (yQ ..)) ?_⟩;try simp only[I,RY,cm,eZ,↓KW,↓dh,seval,D]
  refine⟨rfl,dI (hF (Bx.mk 1 0 0 st bV y.lines (IntKind.i64.wrap (tk+1))).cells (IntKind.i64.wrap (tk+1)) 1 1 (c7 ..)) ?_⟩;try simp only[I,RY,iH,cm,eZ,↓KW,↓dh,seval,D]
  refine⟨rfl,aE (hN (.sl [gb (IntKind.i64.wrap (tk+1)) 1 1]) (Bx.mk 1 0 0 st bV y.lines (IntKind.i64.wrap (tk+1))).cells 3 st.pre.ay) rfl rfl rfl rfl ?_⟩;try simp only[I,RY,iH,cm,eZ,↓KW,↓dh,seval,D]
  refine⟨rfl,aE (hN (.sl [gb (IntKind.i64.wrap (tk+1)) 1 1]) (Bx.mk 1 0 0 st bV y.lines (IntKind.i64.wrap (tk+1))).cells 4 st.rings.group) rfl rfl rfl rfl ?_⟩;try simp only[RY,iH,seval]
  refine ej rfl ?_;try simp only[I,RY,↓KW,seval,JJ,gb,D]
end
end
section
variable{P:Program} (hm:P.follows .mixedOrders=true) {f:Nat}
include hm
section
variable {L:bB} {e f1 fC fG fM fP fR fT:Nat} {st:bB} {t:Tb} {x:Fr}
theorem Vb(hc:oK true P f=some (bh fG fC fP fR fM fT f1)) (hG:p9.Spec (Pure P) fG) (hC:kH.Spec (Pure P) fC) (hP:qa.Spec (Pure P) fP) (h0:sH.Spec (Pure P) f1) (hN:sK.Spec (Pure P) e f1) (hF:sL.Spec (Pure P) e f1) (hJ:sM.Spec (Pure P) e f1) {bV D:Mn} {ti V ln tk F:Int} {O:List Int} (ht:t.Ok) (ae:st.Ok) (ab:bV.Ok) (aa:L.Ok) (R:D.Ok) (am:O.length=8) (cT:(Pure P).c fT [.agg t.cells,.agg (Bx.mk 2 ti V st bV (e9 x ln).lines (IntKind.i64.wrap (tk+1))).cells,.agg (e9 x ln).cells] (.de [.agg (Bx.mk 3 0 F L D (e9 x ln).lines (IntKind.i64.wrap (tk+1))).cells,.agg (O.map I)]) none):
  (Pure P).c f [.agg t.cells,.agg (Bx.mk 2 ti V st bV ln tk).cells,.agg x.cells] (mJ (Bx.mk 3 0 F L D (e9 x ln).lines (IntKind.i64.wrap (tk+1))) O (fy (Df x) (Bx.mk 2 ti V st bV ln tk) (Bx.mk 3 0 F L D (e9 x ln).lines (IntKind.i64.wrap (tk+1))))) none:=by
 have hl:=Tb.len ht
 have hp:=Tb.whole ht
 have cG:=hG x.fm
 have cC:=hC x.fm ln
 rw[wO]at cC;rw[Fr.vK]at cG cC
 have an:pG x.fm=Df x:=rfl
 rw[an]at cG
 have cP:=hP t ht
 have yQ:∀m ti V ln tk,(Bx.mk m ti V st bV ln tk).Ok:=λ_ _ _ _ _=>⟨ae,ab⟩
 have al:∀m ti V ln tk,(Bx.mk m ti V L D ln tk).Ok:=λ_ _ _ _ _=>⟨aa,R⟩
 obtain⟨c1,c2,c3,c4,c5,c6,c7,c8,c9,d0,d1,d2,d3,d4,d5⟩:=bxF ae ab;obtain⟨C1,C2,C3,C4,C5,C6,C7,C8,C9,D0,D1,D2,D3,D4,D5⟩:=bxF aa R
 have s1:∀m ti V ln tk m' ad ak ac ag,setCells (Bx.mk m ti V st bV ln tk).cells 0 (Bx.mk m' ad ak L D ac ag).cells=(Bx.mk m' ad ak L D ac ag).cells:=λ_ _ _ _ _ _ _ _ _ _=>bp (by rw[c1,C1])
 obtain⟨ao,f2,f3,f4,f5⟩:=Wh x
 obtain⟨g1,g2,g3,g4,g5⟩:=Wh (e9 x ln)
 have d6:aP.length=138:=rfl
 have p1:((gP t).map I).length=8:=by simp[gP,jd]
 have p2:setCells [.int .i64 0,.int .i64 0,.int .i64 0,.int .i64 0,.int .i64 0,.int .i64 0,.int .i64 0,.int .i64 0] 0 ((gP t).map I)=(gP t).map I:=bp (by rw[p1];rfl)
 have p3:(O.map I).length=8:=by simp[am]
 have p4:setCells ((gP t).map I) 0 (O.map I)=O.map I:=bp (by rw[p1,p3])
 have p5:aB (O.map I) 0 (some 8)=some (.agg (O.map I)):=by have:=mN (O.map I) 0 8 (by rw[p3];decide);rw[this,kh,<-p3,kf]
 have p6:setCells [.int .i64 0,.int .i64 0,.int .i64 0,.int .i64 0,.int .i64 0,.int .i64 0,.int .i64 0,.int .i64 0] 0 (O.map I)=O.map I:=bp (by rw[p3];rfl)
 generalize e9 x ln=y at*
 have M:=dC hl (dC hp (dC c1 (dC c2 (dC c3 (dC c4 (dC c5 (dC c6 (dC c7 (dC c8 (dC c9 (dC d0 (dC d1 (dC d2 (dC d3 (dC d4 (dC d5 (dC d6 (dC C1 (dC C2 (dC C3 (dC C4 (dC C5 (dC C6 (dC C7 (dC C8 (dC C9 (dC D5 (dC s1 (dC ao (dC f2 (dC f3 (dC f4 (dC f5 (dC g1 (dC g2 (dC g3 (dC g4 (dC g5 (dC p1 (dC p2 (dC p3 (dC p4 (dC p5 (p6))))))))))))))))))))))))))))))))))))))))))))
 rcases bf (Df x)with hg|hg
 all_goals
  rw[hg]at cG;simp only[fy,yB,hg,nz,nm,nf,zr,pA,pc,Int.reduceBEq,Int.reduceBNe,H2,xc,kv,il,eQ,ka,mi,mJ,NN,reduceCtorEq];refine aq hm hc [] rfl ?_
  try simp only[RY,cm,↓KW,seval,bh,Z.H,M]
  first|refine af cG ?_|refine aI cG ?_
  try simp only[I,B,RY,cm,↓KW,↓dh,seval,M]
  first|refine af cC ?_|refine aI cC ?_
  try simp only[I,RY,cm,↓KW,↓dh,seval,M]
  first|refine af cP ?_|refine aI cP ?_
  try simp only[I,RY,cm,↓KW,↓dh,seval,M]
  first|refine af cT ?_|refine aI cT ?_
  try simp only[I,RY,cm,eZ,↓KW,↓dh,seval,M]
 ·refine⟨rfl,dI (hF (Bx.mk 3 0 F L D y.lines (IntKind.i64.wrap (tk+1))).cells (IntKind.i64.wrap (tk+1)) 5 0 (C7 ..)) ?_⟩
  try simp only[I,RY,iH,cm,eZ,↓KW,↓dh,seval,M]
  refine⟨rfl,aE (hJ [gb (IntKind.i64.wrap (tk+1)) 5 0] (Bx.mk 3 0 F L D y.lines (IntKind.i64.wrap (tk+1))).cells (IntKind.i64.wrap (tk+1)) 2 F (C7 ..) aaP (by simp[gb])) rfl rfl rfl rfl ?_⟩
  try simp only[I,RY,iH,cm,eZ,↓KW,↓dh,seval,M]
  refine⟨rfl,aE (hJ [gb (IntKind.i64.wrap (tk+1)) 5 0,gb (IntKind.i64.wrap (tk+1)) 2 F] (Bx.mk 3 0 F L D y.lines (IntKind.i64.wrap (tk+1))).cells (IntKind.i64.wrap (tk+1)) 1 3 (C7 ..) aaP (by simp[gb])) rfl rfl rfl rfl ?_⟩
  try simp only[I,RY,iH,cm,eZ,↓KW,↓dh,seval,M]
  refine⟨rfl,aE (hN (.sl [gb (IntKind.i64.wrap (tk+1)) 5 0,gb (IntKind.i64.wrap (tk+1)) 2 F,gb (IntKind.i64.wrap (tk+1)) 1 3]) (Bx.mk 3 0 F L D y.lines (IntKind.i64.wrap (tk+1))).cells 3 L.pre.ay) rfl rfl rfl rfl ?_⟩;try simp only[I,RY,iH,cm,eZ,↓KW,↓dh,seval,M]
  refine⟨rfl,aE (hN (.sl [gb (IntKind.i64.wrap (tk+1)) 5 0,gb (IntKind.i64.wrap (tk+1)) 2 F,gb (IntKind.i64.wrap (tk+1)) 1 3]) (Bx.mk 3 0 F L D y.lines (IntKind.i64.wrap (tk+1))).cells 4 L.rings.group) rfl rfl rfl rfl ?_⟩;try simp only[RY,iH,seval]
  refine ej rfl ?_;try simp only[I,RY,↓KW,seval,JJ,gb,M]
 ·refine⟨rfl,aT (h0 .aU (Bx.mk 3 0 F L D y.lines (IntKind.i64.wrap (tk+1))) 5 0 (al ..)) ?_⟩
  try simp only[I,RY,cm,eZ,↓KW,↓dh,seval,M]
  refine⟨rfl,dI (hF (Bx.mk 3 0 F L D y.lines (IntKind.i64.wrap (tk+1))).cells (IntKind.i64.wrap (tk+1)) 2 F (C7 ..)) ?_⟩;try simp only[I,RY,iH,cm,eZ,↓KW,↓dh,seval,M]
  refine⟨rfl,aE (hJ [gb (IntKind.i64.wrap (tk+1)) 2 F] (Bx.mk 3 0 F L D y.lines (IntKind.i64.wrap (tk+1))).cells (IntKind.i64.wrap (tk+1)) 1 3 (C7 ..) aaP (by simp[gb])) rfl rfl rfl rfl ?_⟩
  try simp only[I,RY,iH,cm,eZ,↓KW,↓dh,seval,M]
  refine⟨rfl,aE (hN (.sl [gb (IntKind.i64.wrap (tk+1)) 2 F,gb (IntKind.i64.wrap (tk+1)) 1 3]) (Bx.mk 3 0 F L D y.lines (IntKind.i64.wrap (tk+1))).cells 3 L.pre.ay) rfl rfl rfl rfl ?_⟩;try simp only[I,RY,iH,cm,eZ,↓KW,↓dh,seval,M]
  refine⟨rfl,aE (hN (.sl [gb (IntKind.i64.wrap (tk+1)) 2 F,gb (IntKind.i64.wrap (tk+1)) 1 3]) (Bx.mk 3 0 F L D y.lines (IntKind.i64.wrap (tk+1))).cells 4 L.rings.group) rfl rfl rfl rfl ?_⟩;try simp only[RY,iH,seval]
  refine ej rfl ?_;try simp only[I,RY,↓KW,seval,JJ,gb,M]
theorem Vc(hc:oK true P f=some (bh fG fC fP fR fM fT f1)) (hG:p9.Spec (Pure P) fG) (hC:kH.Spec (Pure P) fC) (hP:qa.Spec (Pure P) fP) (h0:sH.Spec (Pure P) f1) (hN:sK.Spec (Pure P) e f1) (hF:sL.Spec (Pure P) e f1) (hJ:sM.Spec (Pure P) e f1) {bV D:Mn} {ti R ln tk M:Int} {la:List Int} (ht:t.Ok) (ae:st.Ok) (ac:bV.Ok) (ab:L.Ok) (aa:D.Ok) (al:la.length=8) (cT:(Pure P).c fT [.agg t.cells,.agg (Bx.mk 2 ti R st bV (e9 x ln).lines (IntKind.i64.wrap (tk+1))).cells,.agg (e9 x ln).cells] (.de [.agg (Bx.mk 2 M R L D (e9 x ln).lines (IntKind.i64.wrap (tk+1))).cells,.agg (la.map I)]) none):
  (Pure P).c f [.agg t.cells,.agg (Bx.mk 2 ti R st bV ln tk).cells,.agg x.cells] (mJ (Bx.mk 2 M R L D (e9 x ln).lines (IntKind.i64.wrap (tk+1))) la (fy (Df x) (Bx.mk 2 ti R st bV ln tk) (Bx.mk 2 M R L D (e9 x ln).lines (IntKind.i64.wrap (tk+1))))) none:=by
 have hl:=Tb.len ht
 have hp:=Tb.whole ht
 have cG:=hG x.fm
 have cC:=hC x.fm ln
 rw[wO]at cC;rw[Fr.vK]at cG cC
 have am:pG x.fm=Df x:=rfl
 rw[am]at cG
 have cP:=hP t ht
 have yQ:∀m ti R ln tk,(Bx.mk m ti R st bV ln tk).Ok:=λ_ _ _ _ _=>⟨ae,ac⟩
 have V:∀m ti R ln tk,(Bx.mk m ti R L D ln tk).Ok:=λ_ _ _ _ _=>⟨ab,aa⟩
 obtain⟨c1,c2,c3,c4,c5,c6,c7,c8,c9,d0,d1,d2,d3,d4,d5⟩:=bxF ae ac;obtain⟨C1,C2,C3,C4,C5,C6,C7,C8,C9,D0,D1,D2,D3,D4,D5⟩:=bxF ab aa
 have s1:∀m ti R ln tk m' M ak ad ag,setCells (Bx.mk m ti R st bV ln tk).cells 0 (Bx.mk m' M ak L D ad ag).cells=(Bx.mk m' M ak L D ad ag).cells:=λ_ _ _ _ _ _ _ _ _ _=>bp (by rw[c1,C1])
 obtain⟨an,f2,f3,f4,f5⟩:=Wh x
 obtain⟨g1,g2,g3,g4,g5⟩:=Wh (e9 x ln)
 have d6:aP.length=138:=rfl
 have p1:((gP t).map I).length=8:=by simp[gP,jd]
 have p2:setCells [.int .i64 0,.int .i64 0,.int .i64 0,.int .i64 0,.int .i64 0,.int .i64 0,.int .i64 0,.int .i64 0] 0 ((gP t).map I)=(gP t).map I:=bp (by rw[p1];rfl)
 have p3:(la.map I).length=8:=by simp[al]
 have p4:setCells ((gP t).map I) 0 (la.map I)=la.map I:=bp (by rw[p1,p3])
 have p5:aB (la.map I) 0 (some 8)=some (.agg (la.map I)):=by have:=mN (la.map I) 0 8 (by rw[p3];decide);rw[this,kh,<-p3,kf]
 have p6:setCells [.int .i64 0,.int .i64 0,.int .i64 0,.int .i64 0,.int .i64 0,.int .i64 0,.int .i64 0,.int .i64 0] 0 (la.map I)=la.map I:=bp (by rw[p3];rfl)
 generalize e9 x ln=y at*
 have O:=dC hl (dC hp (dC c1 (dC c2 (dC c3 (dC c4 (dC c5 (dC c6 (dC c7 (dC c8 (dC c9 (dC d0 (dC d1 (dC d2 (dC d3 (dC d4 (dC d5 (dC d6 (dC C1 (dC C2 (dC C3 (dC C4 (dC C5 (dC C6 (dC C7 (dC C8 (dC C9 (dC D5 (dC s1 (dC an (dC f2 (dC f3 (dC f4 (dC f5 (dC g1 (dC g2 (dC g3 (dC g4 (dC g5 (dC p1 (dC p2 (dC p3 (dC p4 (dC p5 (p6))))))))))))))))))))))))))))))))))))))))))))
 rcases bf (Df x)with hg|hg<;>rcases bf (L.pre.ay !=st.pre.ay)with h3|h3<;>rcases bf (L.rings.group !=st.rings.group)with h4|h4
 all_goals
  rw[hg]at cG;simp only[fy,yB,hg,h3,h4,nz,nm,nf,py,zr,pA,Int.reduceBEq,H2,xc,kv,il,eQ,ka,mi,mJ,NN,reduceCtorEq];refine aq hm hc [] rfl ?_
  try simp only[RY,cm,↓KW,seval,bh,Z.H,O]
  first|refine af cG ?_|refine aI cG ?_
  try simp only[I,B,RY,cm,↓KW,↓dh,seval,O]
  first|refine af cC ?_|refine aI cC ?_
  try simp only[I,RY,cm,↓KW,↓dh,seval,O]
  first|refine af cP ?_|refine aI cP ?_
  try simp only[I,RY,cm,↓KW,↓dh,seval,O]
  first|refine af cT ?_|refine aI cT ?_
  try simp only[I,RY,cm,eZ,↓KW,↓dh,seval,O]
 ·refine⟨rfl,dI (hF (Bx.mk 2 M R L D y.lines (IntKind.i64.wrap (tk+1))).cells (IntKind.i64.wrap (tk+1)) 5 0 (C7 ..)) ?_⟩
  try simp only[I,RY,iH,cm,eZ,↓KW,↓dh,seval,O]
  refine⟨rfl,aE (hN (.sl [gb (IntKind.i64.wrap (tk+1)) 5 0]) (Bx.mk 2 M R L D y.lines (IntKind.i64.wrap (tk+1))).cells 2 R) rfl rfl rfl rfl ?_⟩;try simp only[I,RY,iH,cm,eZ,↓KW,↓dh,seval,py,O]
  refine⟨rfl,aE (hN (.sl [gb (IntKind.i64.wrap (tk+1)) 5 0]) (Bx.mk 2 M R L D y.lines (IntKind.i64.wrap (tk+1))).cells 1 2) rfl rfl rfl rfl ?_⟩;try simp only[I,RY,iH,cm,eZ,↓KW,↓dh,seval,h3,O]
  refine⟨rfl,aE (hN (.sl [gb (IntKind.i64.wrap (tk+1)) 5 0]) (Bx.mk 2 M R L D y.lines (IntKind.i64.wrap (tk+1))).cells 3 L.pre.ay) rfl rfl rfl rfl ?_⟩;try simp only[I,RY,iH,cm,eZ,↓KW,↓dh,seval,h4,O]
  refine⟨rfl,aE (hN (.sl [gb (IntKind.i64.wrap (tk+1)) 5 0]) (Bx.mk 2 M R L D y.lines (IntKind.i64.wrap (tk+1))).cells 4 L.rings.group) rfl rfl rfl rfl ?_⟩;try simp only[RY,iH,seval]
  refine ej rfl ?_;try simp only[I,RY,↓KW,seval,JJ,gb,O]
 ·refine⟨rfl,dI (hF (Bx.mk 2 M R L D y.lines (IntKind.i64.wrap (tk+1))).cells (IntKind.i64.wrap (tk+1)) 5 0 (C7 ..)) ?_⟩
  try simp only[I,RY,iH,cm,eZ,↓KW,↓dh,seval,O]
  refine⟨rfl,aE (hN (.sl [gb (IntKind.i64.wrap (tk+1)) 5 0]) (Bx.mk 2 M R L D y.lines (IntKind.i64.wrap (tk+1))).cells 2 R) rfl rfl rfl rfl ?_⟩;try simp only[I,RY,iH,cm,eZ,↓KW,↓dh,seval,py,O]
  refine⟨rfl,aE (hN (.sl [gb (IntKind.i64.wrap (tk+1)) 5 0]) (Bx.mk 2 M R L D y.lines (IntKind.i64.wrap (tk+1))).cells 1 2) rfl rfl rfl rfl ?_⟩;try simp only[I,RY,iH,cm,eZ,↓KW,↓dh,seval,h3,O]
  refine⟨rfl,aE (hN (.sl [gb (IntKind.i64.wrap (tk+1)) 5 0]) (Bx.mk 2 M R L D y.lines (IntKind.i64.wrap (tk+1))).cells 3 L.pre.ay) rfl rfl rfl rfl ?_⟩;try simp only[I,RY,iH,cm,eZ,↓KW,↓dh,seval,h4,O]
  refine⟨rfl,aE (hJ [gb (IntKind.i64.wrap (tk+1)) 5 0] (Bx.mk 2 M R L D y.lines (IntKind.i64.wrap (tk+1))).cells (IntKind.i64.wrap (tk+1)) 4 L.rings.group (C7 ..) aaP (by simp[gb])) rfl rfl rfl rfl ?_⟩
  try simp only[RY,iH,seval]
  refine ej rfl ?_;try simp only[I,RY,↓KW,seval,JJ,gb,O]
 ·refine⟨rfl,dI (hF (Bx.mk 2 M R L D y.lines (IntKind.i64.wrap (tk+1))).cells (IntKind.i64.wrap (tk+1)) 5 0 (C7 ..)) ?_⟩
  try simp only[I,RY,iH,cm,eZ,↓KW,↓dh,seval,O]
  refine⟨rfl,aE (hN (.sl [gb (IntKind.i64.wrap (tk+1)) 5 0]) (Bx.mk 2 M R L D y.lines (IntKind.i64.wrap (tk+1))).cells 2 R) rfl rfl rfl rfl ?_⟩;try simp only[I,RY,iH,cm,eZ,↓KW,↓dh,seval,py,O]
  refine⟨rfl,aE (hN (.sl [gb (IntKind.i64.wrap (tk+1)) 5 0]) (Bx.mk 2 M R L D y.lines (IntKind.i64.wrap (tk+1))).cells 1 2) rfl rfl rfl rfl ?_⟩;try simp only[I,RY,iH,cm,eZ,↓KW,↓dh,seval,h3,O]
  refine⟨rfl,aE (hJ [gb (IntKind.i64.wrap (tk+1)) 5 0] (Bx.mk 2 M R L D y.lines (IntKind.i64.wrap (tk+1))).cells (IntKind.i64.wrap (tk+1)) 3 L.pre.ay (C7 ..) aaP (by simp[gb])) rfl rfl rfl rfl ?_⟩
  try simp only[I,RY,iH,cm,eZ,↓KW,↓dh,seval,h4,O]
  refine⟨rfl,aE (hN (.sl [gb (IntKind.i64.wrap (tk+1)) 5 0,gb (IntKind.i64.wrap (tk+1)) 3 L.pre.ay]) (Bx.mk 2 M R L D y.lines (IntKind.i64.wrap (tk+1))).cells 4 L.rings.group) rfl rfl rfl rfl ?_⟩;try simp only[RY,iH,seval]
  refine ej rfl ?_;try simp only[I,RY,↓KW,seval,JJ,gb,O]
 ·refine⟨rfl,dI (hF (Bx.mk 2 M R L D y.lines (IntKind.i64.wrap (tk+1))).cells (IntKind.i64.wrap (tk+1)) 5 0 (C7 ..)) ?_⟩
  try simp only[I,RY,iH,cm,eZ,↓KW,↓dh,seval,O]
  refine⟨rfl,aE (hN (.sl [gb (IntKind.i64.wrap (tk+1)) 5 0]) (Bx.mk 2 M R L D y.lines (IntKind.i64.wrap (tk+1))).cells 2 R) rfl rfl rfl rfl ?_⟩;try simp only[I,RY,iH,cm,eZ,↓KW,↓dh,seval,py,O]
  refine⟨rfl,aE (hN (.sl [gb (IntKind.i64.wrap (tk+1)) 5 0]) (Bx.mk 2 M R L D y.lines (IntKind.i64.wrap (tk+1))).cells 1 2) rfl rfl rfl rfl ?_⟩;try simp only[I,RY,iH,cm,eZ,↓KW,↓dh,seval,h3,O]
  refine⟨rfl,aE (hJ [gb (IntKind.i64.wrap (tk+1)) 5 0] (Bx.mk 2 M R L D y.lines (IntKind.i64.wrap (tk+1))).cells (IntKind.i64.wrap (tk+1)) 3 L.pre.ay (C7 ..) aaP (by simp[gb])) rfl rfl rfl rfl ?_⟩
  try simp only[I,RY,iH,cm,eZ,↓KW,↓dh,seval,h4,O]
  refine⟨rfl,aE (hJ [gb (IntKind.i64.wrap (tk+1)) 5 0,gb (IntKind.i64.wrap (tk+1)) 3 L.pre.ay] (Bx.mk 2 M R L D y.lines (IntKind.i64.wrap (tk+1))).cells (IntKind.i64.wrap (tk+1)) 4 L.rings.group (C7 ..) aaP (by simp[gb])) rfl rfl rfl rfl ?_⟩
  try simp only[RY,iH,seval]
  refine ej rfl ?_;try simp only[I,RY,↓KW,seval,JJ,gb,O]
 ·refine⟨rfl,aT (h0 .aU (Bx.mk 2 M R L D y.lines (IntKind.i64.wrap (tk+1))) 5 0 (V ..)) ?_⟩
  try simp only[I,RY,cm,eZ,↓KW,↓dh,seval,O]
  refine⟨rfl,aT (h0 .aU (Bx.mk 2 M R L D y.lines (IntKind.i64.wrap (tk+1))) 2 R (V ..)) ?_⟩;try simp only[I,RY,cm,eZ,↓KW,↓dh,seval,py,O]
  refine⟨rfl,aT (h0 .aU (Bx.mk 2 M R L D y.lines (IntKind.i64.wrap (tk+1))) 1 2 (V ..)) ?_⟩;try simp only[I,RY,cm,eZ,↓KW,↓dh,seval,h3,O]
  refine⟨rfl,aT (h0 .aU (Bx.mk 2 M R L D y.lines (IntKind.i64.wrap (tk+1))) 3 L.pre.ay (V ..)) ?_⟩;try simp only[I,RY,cm,eZ,↓KW,↓dh,seval,h4,O]
  refine⟨rfl,aT (h0 .aU (Bx.mk 2 M R L D y.lines (IntKind.i64.wrap (tk+1))) 4 L.rings.group (V ..)) ?_⟩;try simp only[RY,seval]
  refine ej rfl ?_;try simp only[RY,↓KW,seval,O]
 ·refine⟨rfl,aT (h0 .aU (Bx.mk 2 M R L D y.lines (IntKind.i64.wrap (tk+1))) 5 0 (V ..)) ?_⟩
  try simp only[I,RY,cm,eZ,↓KW,↓dh,seval,O]
  refine⟨rfl,aT (h0 .aU (Bx.mk 2 M R L D y.lines (IntKind.i64.wrap (tk+1))) 2 R (V ..)) ?_⟩;try simp only[I,RY,cm,eZ,↓KW,↓dh,seval,py,O]
  refine⟨rfl,aT (h0 .aU (Bx.mk 2 M R L D y.lines (IntKind.i64.wrap (tk+1))) 1 2 (V ..)) ?_⟩;try simp only[I,RY,cm,eZ,↓KW,↓dh,seval,h3,O]
  refine⟨rfl,aT (h0 .aU (Bx.mk 2 M R L D y.lines (IntKind.i64.wrap (tk+1))) 3 L.pre.ay (V ..)) ?_⟩;try simp only[I,RY,cm,eZ,↓KW,↓dh,seval,h4,O]
  refine⟨rfl,dI (hF (Bx.mk 2 M R L D y.lines (IntKind.i64.wrap (tk+1))).cells (IntKind.i64.wrap (tk+1)) 4 L.rings.group (C7 ..)) ?_⟩;try simp only[RY,iH,seval]
  refine ej rfl ?_;try simp only[I,RY,↓KW,seval,JJ,gb,O]
 ·refine⟨rfl,aT (h0 .aU (Bx.mk 2 M R L D y.lines (IntKind.i64.wrap (tk+1))) 5 0 (V ..)) ?_⟩
  try simp only[I,RY,cm,eZ,↓KW,↓dh,seval,O]
  refine⟨rfl,aT (h0 .aU (Bx.mk 2 M R L D y.lines (IntKind.i64.wrap (tk+1))) 2 R (V ..)) ?_⟩;try simp only[I,RY,cm,eZ,↓KW,↓dh,seval,py,O]
  refine⟨rfl,aT (h0 .aU (Bx.mk 2 M R L D y.lines (IntKind.i64.wrap (tk+1))) 1 2 (V ..)) ?_⟩;try simp only[I,RY,cm,eZ,↓KW,↓dh,seval,h3,O]
  refine⟨rfl,dI (hF (Bx.mk 2 M R L D y.lines (IntKind.i64.wrap (tk+1))).cells (IntKind.i64.wrap (tk+1)) 3 L.pre.ay (C7 ..)) ?_⟩;try simp only[I,RY,iH,cm,eZ,↓KW,↓dh,seval,h4,O]
  refine⟨rfl,aE (hN (.sl [gb (IntKind.i64.wrap (tk+1)) 3 L.pre.ay]) (Bx.mk 2 M R L D y.lines (IntKind.i64.wrap (tk+1))).cells 4 L.rings.group) rfl rfl rfl rfl ?_⟩;try simp only[RY,iH,seval]
  refine ej rfl ?_;try simp only[I,RY,↓KW,seval,JJ,gb,O]
 ·refine⟨rfl,aT (h0 .aU (Bx.mk 2 M R L D y.lines (IntKind.i64.wrap (tk+1))) 5 0 (V ..)) ?_⟩
  try simp only[I,RY,cm,eZ,↓KW,↓dh,seval,O]
  refine⟨rfl,aT (h0 .aU (Bx.mk 2 M R L D y.lines (IntKind.i64.wrap (tk+1))) 2 R (V ..)) ?_⟩;try simp only[I,RY,cm,eZ,↓KW,↓dh,seval,py,O]
  refine⟨rfl,aT (h0 .aU (Bx.mk 2 M R L D y.lines (IntKind.i64.wrap (tk+1))) 1 2 (V ..)) ?_⟩;try simp only[I,RY,cm,eZ,↓KW,↓dh,seval,h3,O]
  refine⟨rfl,dI (hF (Bx.mk 2 M R L D y.lines (IntKind.i64.wrap (tk+1))).cells (IntKind.i64.wrap (tk+1)) 3 L.pre.ay (C7 ..)) ?_⟩;try simp only[I,RY,iH,cm,eZ,↓KW,↓dh,seval,h4,O]
  refine⟨rfl,aE (hJ [gb (IntKind.i64.wrap (tk+1)) 3 L.pre.ay] (Bx.mk 2 M R L D y.lines (IntKind.i64.wrap (tk+1))).cells (IntKind.i64.wrap (tk+1)) 4 L.rings.group (C7 ..) aaP (by simp[gb])) rfl rfl rfl rfl ?_⟩
  try simp only[RY,iH,seval]
  refine ej rfl ?_;try simp only[I,RY,↓KW,seval,JJ,gb,O]
end
end
section
variable (t:Tb) (b:Bx) (x:Fr)
def FQ:Bx:=if HJ t b x !=0 then⟨3,0,HJ t b x,fQ t,ga,b.lines,b.tick⟩else⟨b.mode,gU b.time,b.fault,Cy t b x,Wg t b x,b.lines,b.tick⟩
def RF:List Int:=if HJ t b x !=0 then gP t else Pb t b x
def FR.Spec(C:aQ) (f:Nat):Prop:=∀(t:Tb) (b:Bx) (x:Fr),ad7 t b x->C.c f [.agg t.cells,.agg b.cells,.agg x.cells] (.de [.agg (FQ t b x).cells,.agg ((RF t b x).map I)]) none
theorem Bx.aek{b:Bx} (h:b.Ok) {s:bB} (M:s.Ok):setCells b.cells 3 s.cells=({b with st:=s}:Bx).cells:=by
 have D:=bB.len h.st
 have L:=bB.len M
 simp only[Bx.cells,setCells,L]
 show I b.mode::I b.time::I b.fault::_=_
 simp[D]
theorem Bx.Zq{b:Bx} (h:b.Ok) {m:Mn} (hm:m.Ok):setCells b.cells 120 m.cells=({b with bV:=m}:Bx).cells:=by
 have D:=bB.len h.st
 have L:=Bx.Uv h
 have M:m.cells.length=16:=Mn.len hm
 simp only[Bx.cells,setCells,M]
 show I b.mode::I b.time::I b.fault::_=_
 simp[D,L,ww]
theorem Zr(D L T:Int) {cs:List AV} (h:cs.length=117):((List.take 136 (List.take 135 (List.take 2 (List.take 1 (List.drop 1 aP)++[.int .i64 D]++List.drop 2 (List.drop 1 aP))++cs++List.drop 119 (List.take 1 (List.drop 1 aP)++[.int .i64 D]++List.drop 2 (List.drop 1 aP)))++[.int .i64 L]++List.drop 136 (List.take 2 (List.take 1 (List.drop 1 aP)++[.int .i64 D]++List.drop 2 (List.drop 1 aP))++cs++List.drop 119 (List.take 1 (List.drop 1 aP)++[.int .i64 D]++List.drop 2 (List.drop 1 aP))))++[.int .i64 T]++List.drop 137 (List.take 135 (List.take 2 (List.take 1 (List.drop 1 aP)++[.int .i64 D]++List.drop 2 (List.drop 1 aP))++cs++List.drop 119 (List.take 1 (List.drop 1 aP)++[.int .i64 D]++List.drop 2 (List.drop 1 aP)))++[.int .i64 L]++List.drop 136 (List.take 2 (List.take 1 (List.drop 1 aP)++[.int .i64 D]++List.drop 2 (List.drop 1 aP))++cs++List.drop 119 (List.take 1 (List.drop 1 aP)++[.int .i64 D]++List.drop 2 (List.drop 1 aP))))):List AV)=I 0::I D::(cs++(ga.cells++[I L,I T])):=by
 have O:((List.take 2 (List.take 1 (List.drop 1 aP)++[.int .i64 D]++List.drop 2 (List.drop 1 aP))++cs++List.drop 119 (List.take 1 (List.drop 1 aP)++[.int .i64 D]++List.drop 2 (List.drop 1 aP))):List AV)=I 0::I D::(cs++(ga.cells++[I 0,I 0])):=rfl
 have hm:ga.cells.length=16:=rfl
 have M:(List.take 135 (I 0::I D::(cs++(ga.cells++[I 0,I 0])))++[.int .i64 L]++List.drop 136 (I 0::I D::(cs++(ga.cells++[I 0,I 0]))):List AV)=I 0::I D::(cs++(ga.cells++[I L,I 0])):=by
  simp[M2,ww,h,hm]
  rw[jp aaN,mn aaN,mn aaN];rfl
 rw[O,M];simp[M2,ww,h,hm]
 rw[jp aaN,jp aaN,mn aaN,mn aaN];rfl
end
section
variable{P:Program} (hm:P.follows .mixedOrders=true) {f:Nat}
include hm
theorem FR.ok{fR fB fP fM:Nat} (hc:bF P f=some (tM fR fB fP fM)) (hR:FO.Spec (Pure P) fR) (hB:CW.Spec (Pure P) fB) (hP:qa.Spec (Pure P) fP) (hM:vt.Spec (Pure P) fM):FR.Spec (Pure P) f:=by
 intro t b x aa
 have cR:=hR t b x aa
 obtain⟨ht,ae,ak,V,al,ag⟩:=aa;obtain⟨ac,f2,f3,f4,f5⟩:=Wh x
 have hl:=Tb.len ht
 have hp:=Tb.whole ht
 have cP:=hP t ht
 have cM:=hM b.time
 have ad:gN b.time 0 9999+1=gU b.time:=rfl
 rw[ad]at cM
 have b1:=Bx.len V
 have b2:=Bx.whole V
 have b3:b.cells[1]? =some (I b.time):=rfl
 have b4:=(Bx.Da V).1
 have b5:=(Bx.Da V).2
 have L:(Cy t b x).Ok:=FB ..
 have l8:(Pb t b x).length=8:=lP _
 have M:(Wg t b x).Ok:=sJ (AA l8 _) 8
 have O:FQ t b x=if HJ t b x !=0 then⟨3,0,HJ t b x,fQ t,ga,b.lines,b.tick⟩else⟨b.mode,gU b.time,b.fault,Cy t b x,Wg t b x,b.lines,b.tick⟩:=rfl
 have R:RF t b x=if HJ t b x !=0 then gP t else Pb t b x:=rfl
 rw[ruR]at cR;generalize FQ t b x=B2 at*;generalize RF t b x=L2 at*;generalize HJ t b x=fo at*;generalize Cy t b x=s at*;generalize Wg t b x=m at*;generalize Pb t b x=la at*
 have s1:=bB.len L
 have s2:=bB.whole L
 have s3:setCells dA 0 s.cells=s.cells:=bp (by rw[s1];rfl)
 have s4:dA.length=117:=rfl
 have m1:=Mn.len M
 have m2:=Mn.whole M
 have m3:setCells fh 0 m.cells=m.cells:=bp (by rw[m1];rfl)
 have m4:fh.length=16:=rfl
 have n1:(la.map I).length=8:=by simp[l8]
 have n2:setCells [.int .i64 0,.int .i64 0,.int .i64 0,.int .i64 0,.int .i64 0,.int .i64 0,.int .i64 0,.int .i64 0] 0 (la.map I)=la.map I:=bp (by rw[n1];rfl)
 have n3:aB (la.map I) 0 (some 8)=some (.agg (la.map I)):=by have:=mN (la.map I) 0 8 (by rw[n1];decide);rw[this,kh,<-n1,kf]
 have z1:aP.length=138:=rfl
 have p1:((gP t).map I).length=8:=by simp[gP,jd]
 have p2:setCells [.int .i64 0,.int .i64 0,.int .i64 0,.int .i64 0,.int .i64 0,.int .i64 0,.int .i64 0,.int .i64 0] 0 ((gP t).map I)=(gP t).map I:=bp (by rw[p1];rfl)
 have p3:aB ((gP t).map I) 0 (some 8)=some (.agg ((gP t).map I)):=rfl
 have D:=dC hl (dC hp (dC ac (dC f2 (dC f5 (dC b1 (dC b2 (dC b3 (dC b4 (dC b5 (dC s1 (dC s2 (dC s3 (dC s4 (dC m1 (dC m2 (dC m3 (dC m4 (dC n1 (dC n2 (dC n3 (dC z1 (dC p1 (dC p2 (p3))))))))))))))))))))))))
 refine aq hm hc [] rfl ?_;try simp only[RY,↓KW,seval,tM,Z.H,D]
 refine af cR ?_;try simp only[I,RY,↓KW,seval,D]
 rcases bf (fo !=0)with h|h
 ·simp only[h,il,eQ]at O R
  rw[O,R]
  have q1:=Bx.aek V L
  have o1:({b with st:=s}:Bx).Ok:=⟨L,V.bV⟩
  have q2:=Bx.Zq o1 M
  have o2:(Bx.mk b.mode b.time b.fault s m b.lines b.tick).Ok:=⟨L,M⟩
  have o3:(Bx.mk b.mode (gU b.time) b.fault s m b.lines b.tick).Ok:=⟨L,M⟩
  have q3:setCells (Bx.mk b.mode b.time b.fault s m b.lines b.tick).cells 1 [I (gU b.time)]=(Bx.mk b.mode (gU b.time) b.fault s m b.lines b.tick).cells:=rfl
  have q4:=Bx.len o1
  have q5:=Bx.len o2
  have q6:=Bx.len o3
  have q7:=Bx.whole o3
  have q8:setCells aP 0 (Bx.mk b.mode (gU b.time) b.fault s m b.lines b.tick).cells=(Bx.mk b.mode (gU b.time) b.fault s m b.lines b.tick).cells:=bp (by rw[q6];rfl)
  try simp only[RY,↓KW,seval,h,D]
  refine ej rfl ?_;try simp only[I,RY,↓KW,seval,D]
  refine af cM ?_;try simp only[I,RY,↓KW,seval,q1,q2,q3,q4,q5,D]
  refine ej rfl ?_;try simp only[RY,↓KW,seval,q6,q7,q8,D]
 ·simp only[h,kv]at O R
  rw[O,R];try simp only[RY,↓KW,seval,h,D]
  have e0:=bB.len (sE t)
  have o4:(Bx.mk 3 0 fo (fQ t) ga b.lines b.tick).Ok:=⟨sE t,rfl,rfl⟩
  have q6:=Bx.len o4
  have q7:=Bx.whole o4
  have q8:setCells aP 0 (Bx.mk 3 0 fo (fQ t) ga b.lines b.tick).cells=(Bx.mk 3 0 fo (fQ t) ga b.lines b.tick).cells:=bp (by rw[q6];rfl)
  refine af (hB t ht.ln) ?_;try simp only[I,RY,↓KW,seval,e0,D]
  refine af cP ?_
  have q9:(.int .i64 3::I 0::I fo::((fQ t).cells++(ga.cells++[I b.lines,I b.tick])))=(Bx.mk 3 0 fo (fQ t) ga b.lines b.tick).cells:=rfl
  have ab:=Zr fo b.lines b.tick e0
  try simp only[I,RY,↓KW,seval,ab,q9,q6,q7,q8,D]
end
section
variable (t:Tb) (b:Bx) (x:Fr)
def ug(ln:Int):Bx:=⟨b.mode,b.time,b.fault,b.st,b.bV,ln,IntKind.i64.wrap (b.tick+1)⟩
def gG:Bx:=if b.mode=1 then sN t b (e9 x b.lines).lines else if b.mode=2 then FQ t (ug b (e9 x b.lines).lines) (e9 x b.lines)else sO t b (e9 x b.lines).lines (e9 x b.lines).reset
def AB:List Int:=if b.mode=1 then rdL else if b.mode=2 then RF t (ug b (e9 x b.lines).lines) (e9 x b.lines)else gP t
def evS:List (Int×Int×Int):=fy (Df x) b (gG t b x)
end
section
variable {b:Bx} {t:Tb} {x:Fr}
structure InS (t:Tb) (b:Bx) (x:Fr):Prop where
 tok:t.Ok
 fw:t.Fw
 nd:nDt t<=1000000
 t6:b.Ok
 mode:b.mode=1\/b.mode=2\/b.mode=3
 chs:(b.st.gH.getD []).length<=1000000
 Zp:(x.samples.getD []).length<=1000000
def FT.Spec(C:aQ) (f:Nat):Prop:=∀(t:Tb) (b:Bx) (x:Fr),InS t b x->C.c f [.agg t.cells,.agg b.cells,.agg x.cells] (mJ (gG t b x) (AB t b x) (evS t b x)) none
theorem aen(h:(x.samples.getD []).length<=1000000) (ln:Int):((e9 x ln).samples.getD []).length<=1000000:=by unfold e9;split;exact h;simp
theorem aeo(h:InS t b x):(gG t b x).Ok:=by
 have D:=h.t6
 unfold gG;split
 ·unfold sN;split<;>exact⟨D.st,D.bV⟩
 ·split
  ·unfold FQ;split
   ·exact⟨sE _,rfl,rfl⟩
   ·exact⟨FB ..,sJ (AA (lP _) _) 8⟩
  ·unfold sO;split<;>exact⟨D.st,D.bV⟩
theorem Vd(h:InS t b x):(gG t b x).mode=1\/(gG t b x).mode=2\/(gG t b x).mode=3:=by
 have hm:=h.mode
 unfold gG;split
 ·rename_i D;unfold sN;split
  ·exact .inr (.inl rfl)
  ·exact .inl D
 ·split
  ·rename_i L;unfold FQ;split
   ·exact .inr (.inr rfl)
   ·exact .inr (.inl L)
  ·unfold sO;split
   ·exact .inl rfl
   ·exact hm
end
section
variable{P:Program} (hm:P.follows .mixedOrders=true) {f:Nat}
include hm
theorem FT.ok{fG fC fP fR fM fT M e:Nat} (hc:oK true P f=some (bh fG fC fP fR fM fT M)) (hG:p9.Spec (Pure P) fG) (hC:kH.Spec (Pure P) fC) (hP:qa.Spec (Pure P) fP) (hR:Bj.Spec (Pure P) fR) (hM:vt.Spec (Pure P) fM) (hT:FR.Spec (Pure P) fT)
  (h0:sH.Spec (Pure P) M) (hN:sK.Spec (Pure P) e M) (hF:sL.Spec (Pure P) e M) (hJ:sM.Spec (Pure P) e M):FT.Spec (Pure P) f:=by
 intro t b x h
 rcases h.mode with h1|L|h3
 ·have R:gG t b x=sN t b (e9 x b.lines).lines:=ib h1
  have O:AB t b x=rdL:=ib h1
  have:=Jk.ok hm hc hG hC hP hR hM h0 hN hF hJ t b x h.tok h.t6 h1
  rw[evS,R,O];exact this
 ·have V:¬b.mode=1:=by rw[L];decide
  have R:gG t b x=FQ t (ug b (e9 x b.lines).lines) (e9 x b.lines):=by unfold gG;rw[ge V,ib L]
  have O:AB t b x=RF t (ug b (e9 x b.lines).lines) (e9 x b.lines):=by unfold AB;rw[ge V,ib L]
  have ab:ad7 t (ug b (e9 x b.lines).lines) (e9 x b.lines):=⟨h.tok,h.fw,h.nd,⟨h.t6.st,h.t6.bV⟩,h.chs,aen h.Zp _⟩
  have D:=hT t _ _ ab
  have Z:(Cy t (ug b (e9 x b.lines).lines) (e9 x b.lines)).Ok:=FB ..
  have aa:(Wg t (ug b (e9 x b.lines).lines) (e9 x b.lines)).Ok:=sJ (AA (lP _) _) 8
  have l8:(Pb t (ug b (e9 x b.lines).lines) (e9 x b.lines)).length=8:=lP _
  rw[evS,R,O];obtain⟨m,ti,fl,st,bV,ln,tk⟩:=b;simp only at L;subst L;unfold FQ RF at D⊢;simp only[ug]at D Z aa l8⊢
  rcases bf (HJ t (Bx.mk 2 ti fl st bV (e9 x ln).lines (IntKind.i64.wrap (tk+1))) (e9 x ln) !=0)with hf|hf
  ·simp only[hf,il,eQ]at D⊢
   exact Vc hm hc hG hC hP h0 hN hF hJ h.tok h.t6.st h.t6.bV Z aa l8 D
  ·simp only[hf,kv]at D⊢
   exact Vb hm hc hG hC hP h0 hN hF hJ h.tok h.t6.st h.t6.bV (sE t) ⟨rfl,rfl⟩ (by simp[gP,jd]) D
 ·have V:¬b.mode=1:=by rw[h3];decide
  have n2:¬b.mode=2:=by rw[h3];decide
  have R:gG t b x=sO t b (e9 x b.lines).lines (e9 x b.lines).reset:=by unfold gG;rw[ge V,ge n2]
  have O:AB t b x=gP t:=by unfold AB;rw[ge V,ge n2]
  have:=Jl.ok hm hc hG hC hP hM h0 hN hF hJ t b x h.tok h.t6 h3
  rw[evS,R,O];exact this
end
section
variable {b:Bx} {t:Tb} {x:Fr}
structure Inv (t:Tb) (b:Bx):Prop where
 t6:b.Ok
 mode:b.mode=1\/b.mode=2\/b.mode=3
 chs:(b.st.gH.getD []).length<=1000000
 lns:0<=b.lines/\b.lines<=15
structure CL (t:Tb):Prop where
 tok:t.Ok
 fw:t.Fw
 nd:nDt t<=1000000
theorem CL.table(l:Option (List Int)):CL (eJ l):=⟨Es l,TW l,tnd l⟩
theorem Inv.ins(D:CL t) (h:Inv t b) (L:(x.samples.getD []).length<=1000000):InS t b x:=⟨D.tok,D.fw,D.nd,h.t6,h.mode,h.chs,L⟩
theorem FU(t:Tb):((fQ t).gH.getD []).length<=1000000:=by simp[fQ,mq]
theorem Inv.Wi(t:Tb):Inv t (uf t):=⟨C0 t,.inl rfl,FU t,by simp[uf],by simp[uf]⟩
theorem Rh{ln:Int} (h:0<=ln/\ln<=15):0<=(e9 x ln).lines/\(e9 x ln).lines<=15:=by
 unfold e9;split
 ·rename_i D
  unfold Df pG Wb at D;simp only[ed,ii]at D;exact D.2
 ·exact h
theorem Inv.step(M:CL t) (h:Inv t b) (O:(x.samples.getD []).length<=1000000):Inv t (gG t b x):=by
 have L:=h.ins M O
 have D:=Rh (x:=x) h.lns
 refine⟨aeo L,Vd L,?_,?_⟩
 ·unfold gG
  split
  ·unfold sN;split<;>exact h.chs
  ·split
   ·unfold FQ;split
    ·exact FU t
    ·simp only[Cy,Re];exact M.nd
   ·unfold sO;split<;>exact h.chs
 ·unfold gG
  split
  ·unfold sN;split<;>exact D
  ·split
   ·unfold FQ ug;split<;>exact D
   ·unfold sO;split<;>exact D
def Bu(t:Tb) (D:List Fr):Nat->Bx
 |0=>uf t
 |i+1=>gG t (Bu t D i) (D.getD i default)
theorem Inv.run{t:Tb} (M:CL t) {D:List Fr} (L:Y8 D):∀i,i<=D.length->Inv t (Bu t D i)
 |0,_=>Inv.Wi t
 |i+1,h=>by
  have e:D.getD i default=D[i]:=by simp[show i<D.length by omega]
  exact(Inv.run M L i aaN).step M (by rw[e];exact L _ (xn _))
end
section
open Z
def t7(V R L g3 D O M Z:Nat):bE:=(⟨_,by conv=>lhs;ext y0 y1;cbv⟩:bT λ(y0 y1:List AV)=>cH 145 [.tmp 6] [V,R,L,g3,D,O,M,Z] [500,8,0,1,3] 0x143000e405e65f201c032003eecc2f018b2cc8100407870b29f0427869f75178639f3deacea2f0473e75c58041d1c132783e06f5607815c58055d0202fe98f0ff4890bc208405fcb142f4de527317f3c7c5cc5fcf1f007b17bd7c398bc01146a6609602af70c70c50bf7a60c5efdd05f0d082f0ff2c50bd2b949a05fcf1f16817f3c7c01c05ef5f0d02f00451a9982580abdc31c3142fae98317bf6917c340fa7e1f7902b9a4b020268c291c21885e0403847218207142f6117f028ebc050d062f7ec02f82032cc81004321830404ba2f99818c019001e7531780c6285e95ca58f1f1a78f802d0bdebe1545e002435331512c450beba60c5efd585f0913732960406d1a3811e05efc41385e05038272310206ca181408e06320264283e641460943374f080b19805e1200475c5a008843060815c4607142f4ae523417f3c7c4d05fcf1f003c17bd7c1a0bc01146a601412c0199193a786285f5d3062f86a2f8600b019001df2a1780c6285e95ca58f1f1a78f80188bdebe0b05e00243530162285f5d3062f7e5a2f8488b984b020368c5c08ec2f7e204a2f0281c0390c1038a17920bf81469e02868317bf2317c101943000cc4008121f04002d820883f101c178180c48048111b0d0bc060c2000e8e13104021e1f18500a8bc06062014084d84c5e0308317890bf8141de0206c222f0204c810 [y0,y1,[.aU,.int .i64 0,.int .i64 0,.int .i64 0,.int .i64 0,.bool false],[.int .i64 0,.int .i64 0,.int .i64 0,.int .i64 0,.int .i64 0,.int .i64 0,.int .i64 0,.int .i64 0]] [] [.V4 6 (.t 24) none (some (.k (.int .i64 500))),.mm true [.k (.int .i64 1),.t 39],.qi .u64 (.t 55),.qi .u64 (.t 70),.mm true [.k (.int .i64 1),.t 80],.eqc [.i,.i,.i,.i,.i,.i,.i,.i] true (.t 126) (.t 127)]).1 iR aP
def AD(O M L R D:Nat):bE:=(⟨_,by conv=>lhs;ext y0 y1;cbv⟩:bT λ(y0 y1:List AV)=>cH 47 [.tmp 0] [O,M,L,R,D] [0] 0x2800508386d0095b0040adfc078500d06381122cc18bdb91bfc18bc781bf80d063810547f05a0fc2806821c081a3faf0b0102141f0408302f98c0bc085c5fc0b062f1617f1297419e2cf1f001617bd7c098bc002662282f048090bf84a0059e3e00222f7af8e00091a0c5ebc3f0702de05cce252e893c59e3e018f5f1200113418bc542420c5f1c0a02f00832f9840810 [y1,y0,[.int .i64 0,.int .i64 0]]).1 Hh iR
end
end Go.Eng
