/- The engine and the library,part 9 of 18: what the proofs of this seat need of them. -/
import Derived.Test.YtkckiembbiiliaaGreatPk8
set_option linter.unnecessarySimpa false
set_option linter.unusedSimpArgs false
set_option linter.unusedVariables false
set_option linter.defProp false
set_option maxRecDepth 10000
set_option maxHeartbeats 4000000
namespace Go.Eng
open Go
class Kn (α:Type) where
 run:α->Prop
class WR where
 run:SV->List (Nat×Nat)->Prop
def wv{α:Type} (o:Option α) [k:Kn α]:Prop:=ah o k.run
theorem kQ{α:Type} (o:Option α) (k:α->Prop):ah o k=@wv α o ⟨k⟩:=rfl
theorem Nk{α:Type} (a:α) (k:α->Prop):@wv α (some a) ⟨k⟩=k a:=rfl
theorem Nl{α:Type} (k:α->Prop):@wv α none ⟨k⟩=False:=rfl
theorem Q7{α:Type} {o:Option α} {k:α->Prop} (a:α) (h:o=some a) (hk:k a):@wv α o ⟨k⟩:=by subst h;exact hk
def vF(C:bt) (f:Nat) (as:List AV) (id:Nat) (lv:List (Nat×Nat)) (k:SV->List (Nat×Nat)->Prop):Prop:=
 ∃r fr,C.c f as r fr/\k (.dat r (fr.map fun _=>id)) (match fr with|some e=>(id,e)::lv|none=>lv)
def cl(C:bt) (f:Nat) (as:List AV) (id:Nat) (lv:List (Nat×Nat)) [k:WR]:Prop:=vF C f as id lv k.run
theorem lM(C:bt) (f:Nat) (as:List AV) (id:Nat) (lv:List (Nat×Nat)) (k:SV->List (Nat×Nat)->Prop):vF C f as id lv k=@cl C f as id lv ⟨k⟩:=rfl
@[congr] theorem Vb {C:bt} (f:Nat) {as as':List AV} (id:Nat) (lv:List (Nat×Nat)) (k:SV->List (Nat×Nat)->Prop) (h:as=as'):vF C f as id lv k=vF C f as' id lv k:=by rw[h]
theorem aj{C:bt} {f:Nat} {as:List AV} {id:Nat} {lv:List (Nat×Nat)} {k:SV->List (Nat×Nat)->Prop} {r:AV} (h:C.c f as r none) (hk:k (.dat r none) lv):@cl C f as id lv ⟨k⟩:=⟨r,none,h,hk⟩
theorem G5{C:bt} {f:Nat} {as:List AV} {id:Nat} {lv:List (Nat×Nat)} {k:SV->List (Nat×Nat)->Prop} {r:AV} {e:Nat} (h:C.c f as r (some e)) (hk:k (.dat r (some id)) ((id,e)::lv)):@cl C f as id lv ⟨k⟩:=⟨r,some e,h,hk⟩
class WS where
 run:SV->List (Nat×bO)->List (Nat×Nat)->Prop
def xP(C:bt) (f:Nat) (css:List (List AV)) (as:List (Option AV)) (ids:List Nat) (id:Nat) (bx:List (Nat×bO)) (lv:List (Nat×Nat)) (k:SV->List (Nat×bO)->List (Nat×Nat)->Prop):Prop:=
 ∃r fr css',C.p f css as r fr css'/\k (.dat r (fr.map fun _=>id)) (cH ids css' bx) (match fr with|some e=>(id,e)::lv|none=>lv)
def Ww(C:bt) (f:Nat) (css:List (List AV)) (as:List (Option AV)) (ids:List Nat) (id:Nat) (bx:List (Nat×bO)) (lv:List (Nat×Nat)) [k:WS]:Prop:=xP C f css as ids id bx lv k.run
theorem gK(C:bt) (f:Nat) (css:List (List AV)) (as:List (Option AV)) (ids:List Nat) (id:Nat) (bx:List (Nat×bO)) (lv:List (Nat×Nat)) (k:SV->List (Nat×bO)->List (Nat×Nat)->Prop):xP C f css as ids id bx lv k=@Ww C f css as ids id bx lv ⟨k⟩:=rfl
theorem bg{C:bt} {f:Nat} {css:List (List AV)} {as:List (Option AV)} {ids:List Nat} {id:Nat} {bx:List (Nat×bO)} {lv:List (Nat×Nat)} {k:SV->List (Nat×bO)->List (Nat×Nat)->Prop} {r:AV} {css':List (List AV)} (h:C.p f css as r none css') (hk:k (.dat r none) (cH ids css' bx) lv):@Ww C f css as ids id bx lv ⟨k⟩:=⟨r,none,css',h,hk⟩
class WT where
 run:SV->Prop
def AH(C:bt) (f:Nat) (css:List (List AV)) (as:List (Option AV)) (k:SV->Prop):Prop:=∃r,C.p f css as r none css/\k (.dat r none)
def Wx(C:bt) (f:Nat) (css:List (List AV)) (as:List (Option AV)) [k:WT]:Prop:=AH C f css as k.run
theorem Q8(C:bt) (f:Nat) (css:List (List AV)) (as:List (Option AV)) (k:SV->Prop):AH C f css as k=@Wx C f css as ⟨k⟩:=rfl
theorem jJ{C:bt} {f:Nat} {css:List (List AV)} {as:List (Option AV)} {k:SV->Prop} {r:AV} (h:C.p f css as r none css) (hk:k (.dat r none)):@Wx C f css as ⟨k⟩:=⟨r,h,hk⟩
def Em(x:Option bO) (y:Option (List (List AV))):Option (List (List AV)):=
 match x,y with
 |some ⟨cs,[]⟩,some css=>some (cs::css)
 |_,_=>none
theorem Nm(ro:List Nat) (i:Nat):mI ro i []=[]:=rfl
theorem Q9(ro:List Nat) (i:Nat) (o:CO) (r:List CO):mI ro i (o::r)=(bif ro.contains i then o.ro else o)::mI ro (i+1) r:=rfl
theorem Vt(d:Option Nat) (o:bH) (g:Option (Nat×Bool)):CO.ro ⟨d,o,g⟩=⟨d,o.ro,g⟩:=rfl
theorem Ra(f:Nat) (as:List bl):bH.ro (.aK f as)=.wU f as:=rfl
def CO.pq(o:CO):CO:=match o.op with
 | .aK f args=>⟨o.dst,.rN f args,o.g⟩
 |_=>o
theorem Vu(d:Option Nat) (f:Nat) (as:List bl) (g:Option (Nat×Bool)):CO.pq ⟨d,.aK f as,g⟩=⟨d,.rN f as,g⟩:=rfl
theorem Kc(k:Nat) (dep:List Nat) (i:Nat):lH k dep i []=[]:=rfl
theorem Nn(k:Nat) (dep:List Nat) (i:Nat) (o:CO) (r:List CO):lH k dep i (o::r)=(bif i==k then o.pq else bif dep.contains i then⟨none,.mv (.k .lF),none⟩else o)::lH k dep (i+1) r:=by
 simp only[lH,uE,CO.pq,cond_eq_ite,beq_iff_eq];rfl
def Ke:List CO->List Nat
 |[]=>[]
 |⟨some d,_,_⟩::r=>d::Ke r
 |⟨none,_,_⟩::r=>Ke r
theorem No:Ke []=[]:=rfl
theorem Np(d:Nat) (o:bH) (g:Option (Nat×Bool)) (r:List CO):Ke (⟨some d,o,g⟩::r)=d::Ke r:=rfl
theorem Nq(o:bH) (g:Option (Nat×Bool)) (r:List CO):Ke (⟨none,o,g⟩::r)=Ke r:=rfl
theorem Dm:∀{l:List CO},(l.flatMap fun o=>o.dst.toList)=Ke l
 |[]=>rfl
 |⟨some d,_,_⟩::r=>by rw[List.flatMap_cons,Dm];rfl
 |⟨none,_,_⟩::r=>by rw[List.flatMap_cons,Dm];rfl
def pD:Nat->List CO->Option Nat
 |0,o::_=>o.dst
 |k+1,_::r=>pD k r
 |_,[]=>none
theorem MH:∀{k:Nat} {l:List CO},(l[k]?).bind CO.dst=pD k l
 |0,[]=>rfl
 |_+1,[]=>rfl
 |0,o::_=>rfl
 |k+1,_::r=>by rw[List.getElem?_cons_succ];exact MH
class WU where
 run:AV->List (List AV)->Prop
def AI(C:bt) (f:Nat) (css:List (List AV)) (as:List (Option AV)) (k:AV->List (List AV)->Prop):Prop:=∃v css',C.q f css as v css'/\k v css'
def Wy(C:bt) (f:Nat) (css:List (List AV)) (as:List (Option AV)) [k:WU]:Prop:=AI C f css as k.run
theorem Rb(C:bt) (f:Nat) (css:List (List AV)) (as:List (Option AV)) (k:AV->List (List AV)->Prop):AI C f css as k=@Wy C f css as ⟨k⟩:=rfl
theorem mh{C:bt} {f:Nat} {css:List (List AV)} {as:List (Option AV)} {k:AV->List (List AV)->Prop} {v:AV} {css':List (List AV)} (h:C.q f css as v css') (hk:k v css'):@Wy C f css as ⟨k⟩:=⟨v,css',h,hk⟩
theorem Rc(g:bl) (as:List bl):bH.ro (.gm g as)=.pG g as:=rfl
section
variable{C:bt} {Q:Exit->S->Prop} {K:SV->S->Prop} {J:S->Prop}
variable(sl:List (Nat×SV)) (bx:List (Nat×bO)) (lv:List (Nat×Nat)) (nx:Nat)
theorem BY(n m:Nat) (v:SV) (r:List (Nat×SV)):lk n ((m,v)::r)=bif n==m then some v else lk n r:=rfl
theorem vG(n m:Nat) (v:bO) (r:List (Nat×bO)):bY n ((m,v)::r)=bif n==m then some v else bY n r:=rfl
theorem tT(n m:Nat) (v:Nat) (r:List (Nat×Nat)):dU n ((m,v)::r)=bif n==m then some v else dU n r:=rfl
theorem qh(n:Nat):dU n []=none:=rfl
theorem Nr(n m:Nat) (b v:bO) (r:List (Nat×bO)):nq n b ((m,v)::r)=bif n==m then(m,b)::r else(m,v)::nq n b r:=rfl
theorem Ns(n m:Nat) (v:Nat) (r:List (Nat×Nat)):lG n ((m,v)::r)=bif n==m then lG n r else(m,v)::lG n r:=rfl
theorem Kf(n:Nat):lG n []=[]:=rfl
theorem Re(d:Nat) (v:SV):S.put ⟨sl,bx,lv,nx⟩ (some d) v=⟨(d,v)::sl,bx,lv,nx⟩:=rfl
theorem Nt(v:SV):S.put ⟨sl,bx,lv,nx⟩ none v=⟨sl,bx,lv,nx⟩:=rfl
theorem Nu(n:Nat):bC ⟨sl,bx,lv,nx⟩ (.t n)=lk n sl:=rfl
theorem Nv(v:AV):bC ⟨sl,bx,lv,nx⟩ (.k v)=some (.dat v none):=rfl
def Nw:Option SV->Option AV
 |some (.dat a _)=>some a
 |some (.rp cs)=>some (.ref cs)
 |_=>none
theorem Kg(cs:List AV):Nw (some (.rp cs))=some (.ref cs):=rfl
theorem Nx(a:AV) (q:Option Nat):Nw (some (.dat a q))=some a:=rfl
theorem Kh(n:Nat):aM ⟨sl,bx,lv,nx⟩ (.t n)=Nw (lk n sl):=rfl
theorem Ki(v:AV):aM ⟨sl,bx,lv,nx⟩ (.k v)=some v:=rfl
def MI:Option AV->Option (List AV)->Option (List AV)
 |some a,some as=>some (a::as)
 |_,_=>none
theorem Kj(a:AV) (as:List AV):MI (some a) (some as)=some (a::as):=rfl
theorem Kk(x:bl) (r:List bl):cQ ⟨sl,bx,lv,nx⟩ (x::r)=MI (aM ⟨sl,bx,lv,nx⟩ x) (cQ ⟨sl,bx,lv,nx⟩ r):=rfl
theorem G6:cQ ⟨sl,bx,lv,nx⟩ []=some []:=rfl
theorem Kl(b i:Nat):iT C b i [] J ⟨sl,bx,lv,nx⟩=J ⟨sl,bx,lv,nx⟩:=rfl
theorem Ny(b i:Nat) (d:Option Nat) (o:bH) (r:List CO):iT C b i (⟨d,o,none⟩::r) J ⟨sl,bx,lv,nx⟩=bD C (b+i) o (fun v s'=>iT C b (i+1) r J (s'.put d v)) ⟨sl,bx,lv,nx⟩:=rfl
def kR(want:Bool) (yes no:Prop):Option SV->Prop
 |some (.dat (.bool b) _)=>(b=want->yes)/\(b=!want->no)
 |some .undef=>no
 |_=>False
theorem Km(b i t:Nat) (w:Bool) (d:Option Nat) (o:bH) (r:List CO):iT C b i (⟨d,o,some (t,w)⟩::r) J ⟨sl,bx,lv,nx⟩=
  kR w (bD C (b+i) o (fun v s'=>iT C b (i+1) r J (s'.put d v)) ⟨sl,bx,lv,nx⟩) (iT C b (i+1) r J (S.put ⟨sl,bx,lv,nx⟩ d .undef)) (lk t sl):=by
 simp only[iT,dQ,kR]
 cases lk t sl with
 |none=>rfl
 |some v=>cases v with
  |dat a q=>cases a<;>rfl
  |ptr=>rfl
  |rp=>rfl
  |undef=>rfl
  |vs=>rfl
  |mM=>rfl
  |raw=>rfl
  |pt=>rfl
class KP where
 yes:Prop
 no:Prop
def gd(w:Bool) (v:Option SV) [k:KP]:Prop:=kR w k.yes k.no v
theorem lN(w:Bool) (yes no:Prop) (v:Option SV):kR w yes no v=@gd w v ⟨yes,no⟩:=rfl
theorem G7(w:Bool) (yes no:Prop):@gd w (some .undef) ⟨yes,no⟩=no:=rfl
theorem G8(yes no:Prop) (q:Option Nat):@gd true (some (.dat (.bool true) q)) ⟨yes,no⟩=yes:=by simp[gd,kR]
theorem Fu(yes no:Prop) (q:Option Nat):@gd true (some (.dat (.bool false) q)) ⟨yes,no⟩=no:=by simp[gd,kR]
theorem G9(yes no:Prop) (q:Option Nat):@gd false (some (.dat (.bool false) q)) ⟨yes,no⟩=yes:=by simp[gd,kR]
theorem Fv(yes no:Prop) (q:Option Nat):@gd false (some (.dat (.bool true) q)) ⟨yes,no⟩=no:=by simp[gd,kR]
theorem Vv(id:Nat) (x:bl):bD C id (.mv x) K ⟨sl,bx,lv,nx⟩=ah (bC ⟨sl,bx,lv,nx⟩ x) fun v=>K v ⟨sl,bx,lv,nx⟩:=rfl
def xQ(a b:Option SV) (k:SV->Prop):AV->Prop
 | .bool t=>ah a fun u=>ah b fun v=>(t=true->k u)/\(t=false->k v)
 |_=>False
theorem Nz(id:Nat) (c a b:bl):bD C id (.pick c a b) K ⟨sl,bx,lv,nx⟩=ah (aM ⟨sl,bx,lv,nx⟩ c) (xQ (bC ⟨sl,bx,lv,nx⟩ a) (bC ⟨sl,bx,lv,nx⟩ b) fun v=>K v ⟨sl,bx,lv,nx⟩):=rfl
def pk(a b:Option SV) (c:AV) [k:Kn SV]:Prop:=xQ a b k.run c
theorem lO(a b:Option SV) (k:SV->Prop) (c:AV):xQ a b k c=@pk a b c ⟨k⟩:=rfl
theorem Ko(k:SV->Prop) (b:Option SV) (v:SV):@pk (some v) b (.bool true) ⟨k⟩=ah b fun _=>k v:=by simp[pk,xQ]
theorem Kq(k:SV->Prop) (a:Option SV) (v:SV):@pk a (some v) (.bool false) ⟨k⟩=ah a fun _=>k v:=by
 cases a<;>simp[pk,xQ]
theorem Kr(id:Nat) (cs:List AV):bD C id (.alloc cs) K ⟨sl,bx,lv,nx⟩=K (.ptr id 0) ⟨sl,(id,⟨cs,[]⟩)::bx,lv,nx⟩:=rfl
theorem Rf(id:Nat) (x:bl):bD C id (.box x) K ⟨sl,bx,lv,nx⟩=ah (aM ⟨sl,bx,lv,nx⟩ x) fun a=>iQ a none=true/\K (.ptr id 0) ⟨sl,(id,⟨a.cells,[]⟩)::bx,lv,nx⟩:=rfl
def QF(sz:Option Nat) (bx:List (Nat×bO)) (k:SV->Prop):SV->Prop
 | .ptr b off=>ah (bY b bx) fun x=>ah (bF x.cells off sz) fun a=>k (.dat a (match sz with|none=>dU off x.tags|some _=>none))
 | .rp cs=>ah (bF cs 0 sz) fun a=>k (.dat a none)
 |_=>False
theorem Vw(id:Nat) (x:bl) (sz:Option Nat):bD C id (.ld x sz) K ⟨sl,bx,lv,nx⟩=ah (bC ⟨sl,bx,lv,nx⟩ x) (QF sz bx fun v=>K v ⟨sl,bx,lv,nx⟩):=rfl
theorem NA(k:SV->Prop) (b off:Nat):QF none bx k (.ptr b off)=ah (bY b bx) fun x=>ah (bF x.cells off none) fun a=>k (.dat a (dU off x.tags)):=rfl
theorem NB(k:SV->Prop) (b off n:Nat):QF (some n) bx k (.ptr b off)=ah (bY b bx) fun x=>ah (bF x.cells off (some n)) fun a=>k (.dat a none):=rfl
theorem Rh(k:SV->Prop) (sz:Option Nat) (cs:List AV):QF sz bx k (.rp cs)=ah (bF cs 0 sz) fun a=>k (.dat a none):=rfl
def fQ(off sz:Nat) (q:Option Nat) (tags:List (Nat×Nat)):List (Nat×Nat):=
 match q with
 |some q=>(off,q)::tags.filter (fun p=>p.1<off||off+sz<=p.1)
 |none=>tags.filter (fun p=>p.1<off||off+sz<=p.1)
def Ri(sz off:Nat) (x:bO) (k:bO->Prop):SV->Prop
 | .dat a q=>iQ a q=true/\a.cells.length=sz/\off+sz<=x.cells.length/\k ⟨setCells x.cells off a.cells,fQ off sz q x.tags⟩
 |_=>False
def Vc(sz:Nat) (bx:List (Nat×bO)) (v:Option SV) (k:List (Nat×bO)->Prop):SV->Prop
 | .ptr b off=>ah (bY b bx) fun x=>ah v (Ri sz off x fun y=>k (nq b y bx))
 |_=>False
theorem Vx(id:Nat) (x v:bl) (sz:Nat):bD C id (.st x v sz) K ⟨sl,bx,lv,nx⟩=ah (bC ⟨sl,bx,lv,nx⟩ x) (Vc sz bx (bC ⟨sl,bx,lv,nx⟩ v) fun b=>K .undef ⟨sl,b,lv,nx⟩):=by
 show ah _ _=ah _ _
 cases hx:bC ⟨sl,bx,lv,nx⟩ x with
 |none=>rfl
 |some p=>cases p with
  |ptr b off=>
   show ah _ _=ah _ _
   cases hb:bY b bx with
   |none=>rfl
   |some y=>
    show ah _ _=ah _ _
    cases hv:bC ⟨sl,bx,lv,nx⟩ v with
    |none=>rfl
    |some u=>cases u with
     |dat a q=>cases q<;>rfl
     |_=>rfl
  |_=>rfl
theorem Rj(sz b off:Nat) (v:Option SV) (k:List (Nat×bO)->Prop):Vc sz bx v k (.ptr b off)=ah (bY b bx) fun x=>ah v (Ri sz off x fun y=>k (nq b y bx)):=rfl
theorem Rk(sz off:Nat) (cs:List AV) (tg:List (Nat×Nat)) (k:bO->Prop) (a:AV) (q:Option Nat):Ri sz off ⟨cs,tg⟩ k (.dat a q)=(iQ a q=true/\a.cells.length=sz/\off+sz<=cs.length/\k ⟨setCells cs off a.cells,fQ off sz q tg⟩):=rfl
theorem Ks(off sz:Nat):fQ off sz none []=[]:=rfl
theorem Kt(off sz q:Nat):fQ off sz (some q) []=[(off,q)]:=rfl
def QG(off:Nat) (k:SV->Prop):SV->Prop
 | .ptr b o=>k (.ptr b (o+off))
 | .rp cs=>k (.rp (cs.drop off))
 | .pt 2 ps=>k (.pt 2 (ps.drop off))
 |_=>False
theorem Vy(id:Nat) (x:bl) (off:Nat):bD C id (.fa x off) K ⟨sl,bx,lv,nx⟩=ah (bC ⟨sl,bx,lv,nx⟩ x) (QG off fun v=>K v ⟨sl,bx,lv,nx⟩):=rfl
theorem Rm(k:SV->Prop) (b o off:Nat):QG off k (.ptr b o)=k (.ptr b (o+off)):=rfl
theorem Rp(k:SV->Prop) (cs:List AV) (off:Nat):QG off k (.rp cs)=k (.rp (cs.drop off)):=rfl
def Rq(d:Nat) (k:SV->Prop):SV->Prop
 | .ptr b o=>k (.ptr b (o+d))
 | .rp cs=>k (.rp (cs.drop d))
 |_=>False
theorem Rr(id:Nat) (x i:bl) (n z:Nat):bD C id (.C1 x i n z) K ⟨sl,bx,lv,nx⟩=ah (bC ⟨sl,bx,lv,nx⟩ x) fun p=>ah (aM ⟨sl,bx,lv,nx⟩ i) fun a=>ah (idxOf a) fun i=>(0<=i/\i<n)/\Rq (i.toNat*z) (fun v=>K v ⟨sl,bx,lv,nx⟩) p:=rfl
theorem Rs(k:SV->Prop) (b o d:Nat):Rq d k (.ptr b o)=k (.ptr b (o+d)):=rfl
theorem Rt(k:SV->Prop) (cs:List AV) (d:Nat):Rq d k (.rp cs)=k (.rp (cs.drop d)):=rfl
theorem Ru(k:IntKind) (i:Int):idxOf (.int k i)=some i:=rfl
def He(ia:Option AV) (z:Nat) (k:SV->Prop):SV->Prop
 | .dat l _=>ah ia fun a=>ah (idxOf a) fun i=>ah (rowsOf l) fun xs=>(0<=i/\i<xs.length)/\ah (xs[i.toNat]?) fun row=>row.length=z/\k (.rp row)
 | .vs b off n z'=>ah ia fun a=>ah (idxOf a) fun i=>(0<=i/\i<n)/\z'=z/\k (.ptr b (off+i.toNat*z))
 |_=>False
theorem Rv(id:Nat) (x i:bl) (z:Nat):bD C id (.wk x i z) K ⟨sl,bx,lv,nx⟩=ah (bC ⟨sl,bx,lv,nx⟩ x) (He (aM ⟨sl,bx,lv,nx⟩ i) z fun v=>K v ⟨sl,bx,lv,nx⟩):=by
 show ah _ _=ah _ _
 cases bC ⟨sl,bx,lv,nx⟩ x with
 |none=>rfl
 |some v=>cases v<;>rfl
theorem NC(ia:Option AV) (z:Nat) (k:SV->Prop) (l:AV) (q:Option Nat):He ia z k (.dat l q)=ah ia fun a=>ah (idxOf a) fun i=>ah (rowsOf l) fun xs=>(0<=i/\i<xs.length)/\ah (xs[i.toNat]?) fun row=>row.length=z/\k (.rp row):=rfl
theorem ND(ia:Option AV) (z:Nat) (k:SV->Prop) (b off n z':Nat):He ia z k (.vs b off n z')=ah ia fun a=>ah (idxOf a) fun i=>(0<=i/\i<n)/\z'=z/\k (.ptr b (off+i.toNat*z)):=rfl
@[congr] theorem Vz {ia ia':Option AV} (z:Nat) (k:SV->Prop) {v v':SV} (h:ia=ia') (hv:v=v'):He ia z k v=He ia' z k v':=by rw[h,hv]
theorem NF(xs:List (List AV)):rowsOf (.sl xs)=some xs:=rfl
theorem Ku:rowsOf .bI=some []:=rfl
def Dn(k:List AV->Prop):AV->Prop
 | .agg cs=>k cs
 |_=>False
theorem Rw(k:List AV->Prop) (cs:List AV):Dn k (.agg cs)=k cs:=rfl
theorem Rx(id:Nat) (x:bl) (off:Nat) (sz:Option Nat):bD C id (.QX x off sz) K ⟨sl,bx,lv,nx⟩=ah (aM ⟨sl,bx,lv,nx⟩ x) (Dn fun cs=>ah (bF cs off sz) fun a=>K (.dat a none) ⟨sl,bx,lv,nx⟩):=rfl
theorem Ry(id:Nat) (x i:bl) (n z:Nat) (sz:Option Nat):bD C id (.JC x i n z sz) K ⟨sl,bx,lv,nx⟩=ah (aM ⟨sl,bx,lv,nx⟩ x) (Dn fun cs=>ah (aM ⟨sl,bx,lv,nx⟩ i) fun a=>ah (idxOf a) fun i=>(0<=i/\i<n)/\ah (bF cs (i.toNat*z) sz) fun a=>K (.dat a none) ⟨sl,bx,lv,nx⟩):=rfl
theorem Rz(id:Nat) (op:BinOp) (x y:bl):bD C id (.bin op x y) K ⟨sl,bx,lv,nx⟩=ah (aM ⟨sl,bx,lv,nx⟩ x) fun a=>ah (aM ⟨sl,bx,lv,nx⟩ y) fun b=>ah (dI op a b) fun v=>K (.dat v none) ⟨sl,bx,lv,nx⟩:=rfl
theorem RA(id:Nat) (ks:List CK) (neg:Bool) (x y:bl):bD C id (.eqc ks neg x y) K ⟨sl,bx,lv,nx⟩=ah (aM ⟨sl,bx,lv,nx⟩ x) (Dn fun as=>ah (aM ⟨sl,bx,lv,nx⟩ y) (Dn fun bs=>ah (cO ks as bs) fun e=>K (.dat (.bool (e !=neg)) none) ⟨sl,bx,lv,nx⟩)):=rfl
theorem VA(id:Nat) (neg:Bool) (x y:bl):bD C id (.bb neg x y) K ⟨sl,bx,lv,nx⟩=ah (aM ⟨sl,bx,lv,nx⟩ x) fun a=>ah (aM ⟨sl,bx,lv,nx⟩ y) fun b=>ah (QC neg a b) fun v=>K (.dat v none) ⟨sl,bx,lv,nx⟩:=rfl
theorem VB(id:Nat) (op:UnOp) (x:bl):bD C id (.un op x) K ⟨sl,bx,lv,nx⟩=ah (aM ⟨sl,bx,lv,nx⟩ x) fun a=>ah (M0 op a) fun v=>K (.dat v none) ⟨sl,bx,lv,nx⟩:=rfl
theorem NG(id:Nat) (k:IntKind) (x:bl):bD C id (.nk k x) K ⟨sl,bx,lv,nx⟩=ah (aM ⟨sl,bx,lv,nx⟩ x) fun a=>ah (zg k a) fun v=>K (.dat v none) ⟨sl,bx,lv,nx⟩:=rfl
theorem NH(id:Nat) (k:FloatKind) (x:bl):bD C id (.Ag k x) K ⟨sl,bx,lv,nx⟩=ah (aM ⟨sl,bx,lv,nx⟩ x) fun a=>ah (wW k a) fun v=>K (.dat v none) ⟨sl,bx,lv,nx⟩:=rfl
theorem NI(id:Nat) (k:IntKind) (x:bl):bD C id (.Bu k x) K ⟨sl,bx,lv,nx⟩=ah (aM ⟨sl,bx,lv,nx⟩ x) fun a=>ah (vm k a) fun v=>K (.dat v none) ⟨sl,bx,lv,nx⟩:=rfl
def Hf(k:SV->Prop):SV->Prop
 | .dat a _=>ah (Ao a) fun v=>k (.dat v none)
 | .vs _ _ n _=>k (.dat (.int .i64 n) none)
 |_=>False
theorem NJ(id:Nat) (x:bl):bD C id (.jW x) K ⟨sl,bx,lv,nx⟩=ah (bC ⟨sl,bx,lv,nx⟩ x) (Hf fun v=>K v ⟨sl,bx,lv,nx⟩):=by
 show ah _ _=ah _ _
 cases bC ⟨sl,bx,lv,nx⟩ x with
 |none=>rfl
 |some v=>cases v<;>rfl
theorem Kv(k:SV->Prop) (a:AV) (q:Option Nat):Hf k (.dat a q)=ah (Ao a) fun v=>k (.dat v none):=rfl
theorem Kw(k:SV->Prop) (b o n z:Nat):Hf k (.vs b o n z)=k (.dat (.int .i64 n) none):=rfl
@[congr] theorem VC (k:SV->Prop) {v v':SV} (hv:v=v'):Hf k v=Hf k v':=by rw[hv]
theorem VD(id:Nat) (e:Xt) (x:bl):bD C id (.xt e x) K ⟨sl,bx,lv,nx⟩=ah (aM ⟨sl,bx,lv,nx⟩ x) fun a=>ah (QD e a) fun v=>K (.dat v none) ⟨sl,bx,lv,nx⟩:=rfl
theorem VE(b:Nat):QD .Bt (.float .f64 b)=some (.int .u64 b):=rfl
theorem VF(n:Int):QD .ffrom (.int .u64 n)=some (.float .f64 n.toNat):=rfl
theorem VG(b:Nat):QD .rte (.float .f64 b)=An b:=rfl
def NK(n z:Nat) (s:S) (k:SV->S->Prop):SV->Prop
 | .rp cs=>n*z<=cs.length/\k (.dat (.sl (bP z n cs)) none) s
 | .ptr b off=>4<=b/\ah (bY b s.boxes) fun bx=>n*z<=(bx.cells.drop off).length/\k (.dat (.sl (bP z n (bx.cells.drop off))) none) (gO [b] [bx.cells] s)
 |_=>False
theorem RB(id:Nat) (x:bl) (n z:Nat):bD C id (.E3 x n z) K ⟨sl,bx,lv,nx⟩=ah (bC ⟨sl,bx,lv,nx⟩ x) (NK n z ⟨sl,bx,lv,nx⟩ K):=by
 show ah _ _=ah _ _
 cases bC ⟨sl,bx,lv,nx⟩ x with
 |none=>rfl
 |some v=>cases v<;>rfl
theorem NL(n z:Nat) (s:S) (k:SV->S->Prop) (cs:List AV):NK n z s k (.rp cs)=(n*z<=cs.length/\k (.dat (.sl (bP z n cs)) none) s):=rfl
theorem NM(n z:Nat) (k:SV->S->Prop) (b off:Nat):NK n z ⟨sl,bx,lv,nx⟩ k (.ptr b off)=(4<=b/\ah (bY b bx) fun y=>n*z<=(y.cells.drop off).length/\k (.dat (.sl (bP z n (y.cells.drop off))) none) (gO [b] [y.cells] ⟨sl,bx,lv,nx⟩)):=rfl
def RC(s:S) (i:bl) (k:AV->Prop):AV->Prop
 | .str b=>ah (aM s i) fun a=>ah (idxOf a) fun j=>ah (DW b j) k
 |_=>False
theorem RD(id:Nat) (x i:bl):bD C id (.QY x i) K ⟨sl,bx,lv,nx⟩=ah (aM ⟨sl,bx,lv,nx⟩ x) (RC ⟨sl,bx,lv,nx⟩ i fun v=>K (.dat v none) ⟨sl,bx,lv,nx⟩):=by
 show ah _ _=ah _ _
 cases aM ⟨sl,bx,lv,nx⟩ x with
 |none=>rfl
 |some v=>cases v<;>rfl
theorem NN(s:S) (i:bl) (k:AV->Prop) (b:ByteArray):RC s i k (.str b)=ah (aM s i) fun a=>ah (idxOf a) fun j=>ah (DW b j) k:=rfl
theorem NO(id n:Nat):bD C id (.Gt n) K ⟨sl,bx,lv,nx⟩=K (.dat (.int .i64 n) none) ⟨sl,bx,lv,nx⟩:=rfl
theorem NP(id f:Nat) (args:List bl):bD C id (.call f args) K ⟨sl,bx,lv,nx⟩=ah (cQ ⟨sl,bx,lv,nx⟩ args) fun as=>vF C f as id lv fun v l=>K v ⟨sl,bx,l,nx⟩:=rfl
def AJ(C:bt) (id:Nat) (lv:List (Nat×Nat)) (as:List AV) (k:SV->List (Nat×Nat)->Prop):AV->Prop
 | .fn (.func f) first caps=>vF C f (first++as++caps) id lv k
 |_=>False
@[congr] theorem RE (id:Nat) (lv:List (Nat×Nat)) (as:List AV) (k:SV->List (Nat×Nat)->Prop) {v v':AV} (h:v=v'):AJ C id lv as k v=AJ C id lv as k v':=by rw[h]
def zD(h:Bool):Option SV->Option (List (Option AV)×List Nat)->Option (List (Option AV)×List Nat)
 |some (.dat a _),some p=>some (some a::p.1,p.2)
 |some (.rp cs),some p=>some (some (.ref cs)::p.1,p.2)
 |some (.ptr b 0),some p=>some (none::p.1,b::p.2)
 |some (.pt 0 [(b,0)]),some p=>bif h then some (some .hole::p.1,b::p.2)else none
 |_,_=>none
theorem Hg(h:Bool) (a:AV) (q:Option Nat) (p:List (Option AV)×List Nat):zD h (some (.dat a q)) (some p)=some (some a::p.1,p.2):=rfl
theorem Hh(h:Bool) (cs:List AV) (p:List (Option AV)×List Nat):zD h (some (.rp cs)) (some p)=some (some (.ref cs)::p.1,p.2):=rfl
theorem Hi(h:Bool) (b:Nat) (p:List (Option AV)×List Nat):zD h (some (.ptr b 0)) (some p)=some (none::p.1,b::p.2):=rfl
theorem NQ(h:Bool):cI h ⟨sl,bx,lv,nx⟩ []=some ([],[]):=rfl
theorem RF(h:Bool) (x:bl) (r:List bl):cI h ⟨sl,bx,lv,nx⟩ (x::r)=zD h (bC ⟨sl,bx,lv,nx⟩ x) (cI h ⟨sl,bx,lv,nx⟩ r):=by
 rw[cI];unfold zD
 cases bC ⟨sl,bx,lv,nx⟩ x with
 |none=>rfl
 |some v=>
  cases cI h ⟨sl,bx,lv,nx⟩ r with
  |none=>cases v with
   |ptr b o=>cases o<;>rfl
   |pt k ps=>match k,ps with
    |0,[(b,0)]=>rfl
    |0,[(b,o+1)]=>rfl
    |0,[]=>rfl
    |0,(_,0)::_::_=>rfl
    |0,(_,o+1)::_::_=>rfl
    |k+1,_=>rfl
   |_=>rfl
  |some p=>
   obtain⟨as,bs⟩:=p
   cases v with
   |ptr b o=>cases o<;>rfl
   |pt k ps=>match k,ps with
    |0,[(b,0)]=>rfl
    |0,[(b,o+1)]=>rfl
    |0,[]=>rfl
    |0,(_,0)::_::_=>rfl
    |0,(_,o+1)::_::_=>rfl
    |k+1,_=>rfl
   |_=>rfl
theorem Hj:aT bx []=some []:=rfl
def MJ:Option bO->Option (List (List AV))->Option (List (List AV))
 |some x,some css=>some (x.cells::css)
 |_,_=>none
theorem Kx(x:bO) (css:List (List AV)):MJ (some x) (some css)=some (x.cells::css):=rfl
theorem Ky(b:Nat) (bs:List Nat):aT bx (b::bs)=MJ (bY b bx) (aT bx bs):=rfl
theorem Hl:cz []=true:=rfl
theorem Kz(b:Nat) (bs:List Nat):cz (b::bs)=(!bs.contains b&&cz bs):=rfl
theorem KA(b:Nat) (bs:List Nat) (cs:List AV) (css:List (List AV)):cH (b::bs) (cs::css) bx=cH bs css (nq b ⟨cs,[]⟩ bx):=rfl
theorem Fx:dA bx []=some []:=rfl
theorem Ho(b:Nat) (bs:List Nat):dA bx (b::bs)=Em (bY b bx) (dA bx bs):=rfl
theorem Fy(cs:List AV) (css:List (List AV)):Em (some ⟨cs,[]⟩) (some css)=some (cs::css):=rfl
theorem Hp(css:List (List AV)):cH [] css bx=bx:=rfl
def AK(C:bt) (f id:Nat) (bx:List (Nat×bO)) (lv:List (Nat×Nat)) (k:SV->List (Nat×bO)->List (Nat×Nat)->Prop) (p:List (Option AV)×List Nat):Prop:=
 cz p.2=true/\ah (aT bx p.2) fun css=>xP C f css p.1 p.2 id bx lv k
theorem Hq(f id:Nat) (as:List (Option AV)) (ids:List Nat) (k:SV->List (Nat×bO)->List (Nat×Nat)->Prop):AK C f id bx lv k (as,ids)=(cz ids=true/\ah (aT bx ids) fun css=>xP C f css as ids id bx lv k):=rfl
def Hr(C:bt) (f:Nat) (bx:List (Nat×bO)) (k:SV->List (Nat×bO)->Prop) (p:List (Option AV)×List Nat):Prop:=
 cz p.2=true/\ah (aT bx p.2) fun css=>AI C f css p.1 fun v css'=>k (.dat v none) (cH p.2 css' bx)
theorem Hs(f:Nat) (as:List (Option AV)) (ids:List Nat) (k:SV->List (Nat×bO)->Prop):Hr C f bx k (as,ids)=(cz ids=true/\ah (aT bx ids) fun css=>AI C f css as fun v css'=>k (.dat v none) (cH ids css' bx)):=rfl
theorem KB(id f:Nat) (args:List bl):bD C id (.rN f args) K ⟨sl,bx,lv,nx⟩=ah (cI true ⟨sl,bx,lv,nx⟩ args) (Hr C f bx fun v b=>K v ⟨sl,b,lv,nx⟩):=rfl
theorem KC(id f:Nat) (args:List bl):bD C id (.aK f args) K ⟨sl,bx,lv,nx⟩=ah (cI true ⟨sl,bx,lv,nx⟩ args) (AK C f id bx lv fun v b l=>K v ⟨sl,b,l,nx⟩):=rfl
theorem KD(id:Nat) (g:bl) (args:List bl):bD C id (.ee g args) K ⟨sl,bx,lv,nx⟩=ah (aM ⟨sl,bx,lv,nx⟩ g) fun a=>ah (cQ ⟨sl,bx,lv,nx⟩ args) fun as=>AJ C id lv as (fun v l=>K v ⟨sl,bx,l,nx⟩) a:=by
 show ah _ _=ah _ _
 cases hx:aM ⟨sl,bx,lv,nx⟩ g with
 |none=>rfl
 |some a=>
  show(match a with| .fn (.func f) first caps=>_|_=>False)=_
  cases hy:cQ ⟨sl,bx,lv,nx⟩ args with
  |none=>cases a<;>first|rfl|(rename_i f _ _;cases f<;>rfl)
  |some as=>cases a<;>first|rfl|(rename_i f _ _;cases f<;>rfl)
theorem Ht(id f:Nat) (as first caps:List AV) (k:SV->List (Nat×Nat)->Prop):AJ C id lv as k (.fn (.func f) first caps)=vF C f (first++as++caps) id lv k:=rfl
def wz(C:bt) (id:Nat) (bx:List (Nat×bO)) (lv:List (Nat×Nat)) (p:List (Option AV)×List Nat) (k:SV->List (Nat×bO)->List (Nat×Nat)->Prop):AV->Prop
 | .fn (.func f) [] []=>AK C f id bx lv k p
 |_=>False
@[congr] theorem QH (id:Nat) (bx:List (Nat×bO)) (lv:List (Nat×Nat)) {p p':List (Option AV)×List Nat} (k:SV->List (Nat×bO)->List (Nat×Nat)->Prop) {v v':AV} (h1:p=p') (h:v=v'):wz C id bx lv p k v=wz C id bx lv p' k v':=by rw[h,h1]
theorem Hu(id:Nat) (g:bl) (args:List bl):bD C id (.gm g args) K ⟨sl,bx,lv,nx⟩=ah (aM ⟨sl,bx,lv,nx⟩ g) fun a=>ah (cI true ⟨sl,bx,lv,nx⟩ args) fun p=>wz C id bx lv p (fun v b l=>K v ⟨sl,b,l,nx⟩) a:=by
 show ah _ _=ah _ _
 cases hx:aM ⟨sl,bx,lv,nx⟩ g with
 |none=>rfl
 |some a=>
  show(match a with| .fn (.func f) [] []=>_|_=>False)=_
  cases hy:cI true ⟨sl,bx,lv,nx⟩ args with
  |none=>cases a<;>first|rfl|(rename_i f x y;cases f<;>first|rfl|(cases x<;>first|rfl|(cases y<;>rfl)))
  |some as=>cases a<;>first|rfl|(rename_i f x y;cases f<;>first|rfl|(cases x<;>first|rfl|(cases y<;>rfl)))
def AL(C:bt) (f:Nat) (bx:List (Nat×bO)) (k:SV->Prop) (p:List (Option AV)×List Nat):Prop:=
 cz p.2=true/\ah (dA bx p.2) fun css=>AH C f css p.1 k
theorem KE(id f:Nat) (args:List bl):bD C id (.wU f args) K ⟨sl,bx,lv,nx⟩=ah (cI true ⟨sl,bx,lv,nx⟩ args) (AL C f bx fun v=>K v ⟨sl,bx,lv,nx⟩):=rfl
theorem Hv(f:Nat) (as:List (Option AV)) (ids:List Nat) (k:SV->Prop):AL C f bx k (as,ids)=(cz ids=true/\ah (dA bx ids) fun css=>AH C f css as k):=rfl
def wA(C:bt) (bx:List (Nat×bO)) (p:List (Option AV)×List Nat) (k:SV->Prop):AV->Prop
 | .fn (.func f) [] []=>AL C f bx k p
 |_=>False
@[congr] theorem QI (bx:List (Nat×bO)) {p p':List (Option AV)×List Nat} (k:SV->Prop) {v v':AV} (h1:p=p') (h:v=v'):wA C bx p k v=wA C bx p' k v':=by rw[h,h1]
theorem Hw(id:Nat) (g:bl) (args:List bl):bD C id (.pG g args) K ⟨sl,bx,lv,nx⟩=ah (aM ⟨sl,bx,lv,nx⟩ g) fun a=>ah (cI true ⟨sl,bx,lv,nx⟩ args) fun p=>wA C bx p (fun v=>K v ⟨sl,bx,lv,nx⟩) a:=by
 show ah _ _=ah _ _
 cases hx:aM ⟨sl,bx,lv,nx⟩ g with
 |none=>rfl
 |some a=>
  show(match a with| .fn (.func f) [] []=>_|_=>False)=_
  cases hy:cI true ⟨sl,bx,lv,nx⟩ args with
  |none=>cases a<;>first|rfl|(rename_i f x y;cases f<;>first|rfl|(cases x<;>first|rfl|(cases y<;>rfl)))
  |some as=>cases a<;>first|rfl|(rename_i f x y;cases f<;>first|rfl|(cases x<;>first|rfl|(cases y<;>rfl)))
theorem Fz(f:Nat) (p:List (Option AV)×List Nat) (k:SV->Prop):wA C bx p k (.fn (.func f) [] [])=AL C f bx k p:=rfl
theorem FA(id f:Nat) (p:List (Option AV)×List Nat) (k:SV->List (Nat×bO)->List (Nat×Nat)->Prop):wz C id bx lv p k (.fn (.func f) [] [])=AK C f id bx lv k p:=rfl
theorem RG(id:Nat) (neg:Bool) (x:bl):bD C id (.Mw neg x) K ⟨sl,bx,lv,nx⟩=ah (aM ⟨sl,bx,lv,nx⟩ x) fun a=>ah (Bw neg a) fun v=>K (.dat (.bool v) none) ⟨sl,bx,lv,nx⟩:=rfl
theorem RH(id:Nat) (x:bl) (i:Nat):bD C id (.ext x i) K ⟨sl,bx,lv,nx⟩=ah (aM ⟨sl,bx,lv,nx⟩ x) fun a=>ah (Gv a i) fun v=>K (.dat v none) ⟨sl,bx,lv,nx⟩:=rfl
theorem NR(b:Nat) (cs:List AV) (b' o:Nat):jD b cs (.ptr b' o)=bif b'==b then .rp (cs.drop o)else .ptr b' o:=rfl
theorem NS(b:Nat) (cs:List AV) (a:AV) (q:Option Nat):jD b cs (.dat a q)=.dat a q:=rfl
theorem NT(b:Nat) (cs cs':List AV):jD b cs (.rp cs')=.rp cs':=rfl
theorem NU(b:Nat) (cs:List AV):jD b cs .undef=.undef:=rfl
theorem NV(b:Nat) (cs:List AV) (b' o n z:Nat):jD b cs (.vs b' o n z)=bif b'==b&&decide (n*z<=(cs.drop o).length)then .dat (.sl (bP z n (cs.drop o))) none else .vs b' o n z:=rfl
theorem KH(b:Nat) (cs:List AV):wZ b cs []=[]:=rfl
theorem NW(b:Nat) (cs:List AV) (t:Nat) (v:SV) (r:List (Nat×SV)):wZ b cs ((t,v)::r)=(t,jD b cs v)::wZ b cs r:=rfl
theorem KI(n:Nat):kz n []=[]:=rfl
theorem NX(n m:Nat) (v:bO) (r:List (Nat×bO)):kz n ((m,v)::r)=bif n==m then kz n r else(m,v)::kz n r:=rfl
theorem KJ(css:List (List AV)) (s:S):gO [] css s=s:=rfl
theorem NY(b:Nat) (bs:List Nat) (cs:List AV) (css:List (List AV)):gO (b::bs) (cs::css) ⟨sl,bx,lv,nx⟩=gO bs css ⟨wZ b cs sl,kz b bx,lv,nx⟩:=rfl
theorem Hx(css:List (List AV)):lg [] css=[]:=by cases css<;>rfl
theorem Hy(a:AV) (as:List (Option AV)) (css:List (List AV)):lg (some a::as) css=a::lg as css:=by cases css<;>rfl
theorem Hz(as:List (Option AV)) (cs:List AV) (css:List (List AV)):lg (none::as) (cs::css)=.ref cs::lg as css:=rfl
theorem NZ:iS []=true:=rfl
theorem RI(b:Nat) (bs:List Nat):iS (b::bs)=(decide (4<=b)&&iS bs):=rfl
def RJ(fn:Fn) (as:List AV) (s:S) (k:SV->S->Prop) (p:List (Option AV)×List Nat):Prop:=
 (cz p.2&&iS p.2)=true/\ah (aT s.boxes p.2) fun css=>k (.dat (.fn fn as (lg p.1 css)) none) (gO p.2 css s)
theorem N0(fn:Fn) (as:List AV) (k:SV->S->Prop) (ps:List (Option AV)) (ids:List Nat):RJ fn as ⟨sl,bx,lv,nx⟩ k (ps,ids)=((cz ids&&iS ids)=true/\ah (aT bx ids) fun css=>k (.dat (.fn fn as (lg ps css)) none) (gO ids css ⟨sl,bx,lv,nx⟩)):=rfl
theorem RM(id:Nat) (fn:Fn) (a b:List bl):bD C id (.Ai fn a b) K ⟨sl,bx,lv,nx⟩=ah (cQ ⟨sl,bx,lv,nx⟩ a) fun as=>ah (cI false ⟨sl,bx,lv,nx⟩ b) (RJ fn as ⟨sl,bx,lv,nx⟩ K):=rfl
def RO(mx:Bool) (k:AV->Prop):List AV->Prop
 |[]=>False
 |a::r=>ah (r.foldlM (My mx) a) k
theorem VH(id:Nat) (mx:Bool) (args:List bl):bD C id (.mm mx args) K ⟨sl,bx,lv,nx⟩=ah (cQ ⟨sl,bx,lv,nx⟩ args) (RO mx fun v=>K (.dat v none) ⟨sl,bx,lv,nx⟩):=by
 show ah _ _=ah _ _
 cases cQ ⟨sl,bx,lv,nx⟩ args with
 |none=>rfl
 |some l=>cases l<;>rfl
theorem RQ(mx:Bool) (k:AV->Prop) (a b:AV):RO mx k [a,b]=ah (My mx a b) k:=by simp[RO]
theorem RR(kd:IntKind) (x y:Int):My true (.int kd x) (.int kd y)=some (.int kd (if y>x then y else x)):=rfl
theorem N5(kd:IntKind) (x y:Int):My false (.int kd x) (.int kd y)=some (.int kd (if y<x then y else x)):=rfl
theorem KK(id:Nat) (zs:List AV) (parts:List (Nat×Nat×bl)):bD C id (.build zs parts) K ⟨sl,bx,lv,nx⟩=ah (iR ⟨sl,bx,lv,nx⟩ parts) fun ps=>K (.dat (.agg (gS zs ps)) none) ⟨sl,bx,lv,nx⟩:=rfl
def En(off sz:Nat):Option AV->Option (List (Nat×List AV))->Option (List (Nat×List AV))
 |some a,some ps=>if a.cells.length=sz/\iQ a none=true then some ((off,a.cells)::ps)else none
 |_,_=>none
theorem HA(off sz:Nat) (x:bl) (r:List (Nat×Nat×bl)):iR ⟨sl,bx,lv,nx⟩ ((off,sz,x)::r)=En off sz (aM ⟨sl,bx,lv,nx⟩ x) (iR ⟨sl,bx,lv,nx⟩ r):=rfl
theorem FB:iR ⟨sl,bx,lv,nx⟩ []=some []:=rfl
theorem gq(off sz:Nat) (a:AV) (ps:List (Nat×List AV)) (h:a.cells.length=sz) (h':iQ a none=true):En off sz (some a) (some ps)=some ((off,a.cells)::ps):=by simp[En,h,h']
theorem RS(id e z:Nat) (xs:List bl):bD C id (.gA e z xs) K ⟨sl,bx,lv,nx⟩=ah (lf ⟨sl,bx,lv,nx⟩ z xs) fun rows=>K (.dat (.sl rows) (some id)) ⟨sl,bx,(id,e)::lv,nx⟩:=rfl
def N6(z:Nat):Option AV->Option (List (List AV))->Option (List (List AV))
 |some a,some rows=>if a.cells.length=z/\iQ a none=true then some (a.cells::rows)else none
 |_,_=>none
theorem KL(z:Nat) (x:bl) (r:List bl):lf ⟨sl,bx,lv,nx⟩ z (x::r)=N6 z (aM ⟨sl,bx,lv,nx⟩ x) (lf ⟨sl,bx,lv,nx⟩ z r):=rfl
theorem HB(z:Nat):lf ⟨sl,bx,lv,nx⟩ z []=some []:=rfl
theorem jn(z:Nat) (a:AV) (rows:List (List AV)) (h:a.cells.length=z) (h':iQ a none=true):N6 z (some a) (some rows)=some (a.cells::rows):=by simp[N6,h,h']
theorem RU(id e z bytes:Nat) (x y:bl):bD C id (.app e z bytes x y) K ⟨sl,bx,lv,nx⟩=ah (bC ⟨sl,bx,lv,nx⟩ x) fun
   | .dat a q=>ah (rowsOf a) fun xs=>ah (aM ⟨sl,bx,lv,nx⟩ y) fun b=>ah (rowsOf b) fun ys=>
     (xs.length+ys.length)*bytes<=140737488355328/\(∀r∈xs,r.length=z)/\(∀r∈ys,r.length=z)/\
     (match a,q with
      | .bI,_=>if ys=[]then K (.dat .bI none) ⟨sl,bx,lv,nx⟩else K (.dat (.sl (xs++ys)) (some id)) ⟨sl,bx,(id,e)::lv,nx⟩
      | .sl _,some q=>dU q lv=some e/\K (.dat (.sl (xs++ys)) (some id)) ⟨sl,bx,(id,e)::lG q lv,nx⟩
      |_,_=>False)
   |_=>False:=rfl
theorem RZ(id z:Nat) (x:bl) (lo hi:Option bl):bD C id (.JD z x lo hi) K ⟨sl,bx,lv,nx⟩=ah (aM ⟨sl,bx,lv,nx⟩ x) fun a=>ah (rowsOf a) fun xs=>ah (wX ⟨sl,bx,lv,nx⟩ lo) fun l=>ah (wY ⟨sl,bx,lv,nx⟩ xs hi) fun h=>(0<=l/\l<=h/\h<=xs.length)/\(∀r∈xs,r.length=z)/\K (.dat (C5 a xs l h) none) ⟨sl,bx,lv,nx⟩:=rfl
theorem KM:wX ⟨sl,bx,lv,nx⟩ none=some 0:=rfl
theorem N7(x:bl):wX ⟨sl,bx,lv,nx⟩ (some x)=uD (aM ⟨sl,bx,lv,nx⟩ x):=by cases h:aM ⟨sl,bx,lv,nx⟩ x<;>simp[wX,uD,h]
theorem KN(xs:List (List AV)):wY ⟨sl,bx,lv,nx⟩ xs none=some (xs.length:Int):=rfl
theorem N8(xs:List (List AV)) (x:bl):wY ⟨sl,bx,lv,nx⟩ xs (some x)=uD (aM ⟨sl,bx,lv,nx⟩ x):=by cases h:aM ⟨sl,bx,lv,nx⟩ x<;>simp[wY,uD,h]
theorem N9(k:IntKind) (i:Int):uD (some (.int k i))=some i:=rfl
theorem R5(xs ys:List (List AV)) (l h:Int):C5 (.sl ys) xs l h=.sl ((xs.take h.toNat).drop l.toNat):=rfl
theorem Oa(xs:List (List AV)) (l h:Int):C5 .bI xs l h=.bI:=rfl
def QJ(k:SV->Prop):SV->Prop
 | .ptr b o=>k (.ptr b o)
 | .rp cs=>k (.rp cs)
 | .dat (.fn (.func f) as bs) q=>k (.dat (.fn (.func f) as bs) q)
 | .dat (.ref cs) _=>k (.rp cs)
 |_=>False
theorem VI(id:Nat) (x:bl):bD C id (.nc x) K ⟨sl,bx,lv,nx⟩=ah (bC ⟨sl,bx,lv,nx⟩ x) (QJ fun v=>K v ⟨sl,bx,lv,nx⟩):=by
 show ah _ _=ah _ _
 cases bC ⟨sl,bx,lv,nx⟩ x with
 |none=>rfl
 |some v=>cases v with
  |dat a q=>cases a<;>first|rfl|(rename_i f _ _;cases f<;>rfl)
  |_=>rfl
theorem R6(k:SV->Prop) (b o:Nat):QJ k (.ptr b o)=k (.ptr b o):=rfl
theorem R7(k:SV->Prop) (cs:List AV) (q:Option Nat):QJ k (.dat (.ref cs) q)=k (.rp cs):=rfl
theorem R8(k:SV->Prop) (cs:List AV):QJ k (.rp cs)=k (.rp cs):=rfl
theorem Ob:aw C .skip Q ⟨sl,bx,lv,nx⟩=Q .normal ⟨sl,bx,lv,nx⟩:=rfl
def y5(k:S->Prop) (n:Nat):S->Prop:=fun s=>k {s with nx:=n}
theorem R9(ops:List CO):aw C (.zf ops) Q ⟨sl,bx,lv,nx⟩=iT C nx 0 ops (y5 (Q .normal) (nx+ops.length)) ⟨sl,bx,lv,nx⟩:=rfl
def KO(ops:List CO) (dr:List (Nat×Nat)) (s:S) (F:List CO->S->Prop):Prop:=∃ids,(cz ids&&iS ids)=true/\ah (aT s.boxes ids) fun css=>∃ro,pM (mI ro 0 ops) dr (gO ids css s).nx (gO ids css s).slots=true/\F (mI ro 0 ops) (gO ids css s)
class KF where
 k:List CO->S->Prop
def dg(ops:List CO) (dr:List (Nat×Nat)) (s:S) [k:KF]:Prop:=KO ops dr s k.k
theorem VJ(ops:List CO) (dr:List (Nat×Nat)) (s:S) (F:List CO->S->Prop):KO ops dr s F=@dg ops dr s ⟨F⟩:=rfl
theorem BZ{ops:List CO} {dr:List (Nat×Nat)} {s:S} {F:List CO->S->Prop} (h:pM ops dr s.nx s.slots=true) (hk:F ops s):@dg ops dr s ⟨F⟩:=⟨[],rfl,[],by rw[oo];exact h,by rw[oo];exact hk⟩
theorem HC{ops:List CO} {dr:List (Nat×Nat)} {s:S} {F:List CO->S->Prop} (ro:List Nat) (h:pM (mI ro 0 ops) dr s.nx s.slots=true) (hk:F (mI ro 0 ops) s):@dg ops dr s ⟨F⟩:=⟨[],rfl,ro,h,hk⟩
def QK(C:bt) (nx:Nat) (K:S->Prop) (ops:List CO) (s:S):Prop:=iT C nx 0 ops K s
theorem Sa(nx:Nat) (K:S->Prop) (o:CO) (ops:List CO):QK C nx K (o::ops) ⟨sl,bx,lv,nx⟩=iT C nx 0 (o::ops) K ⟨sl,bx,lv,nx⟩:=rfl
theorem HD(ops:List CO) (dr:List (Nat×Nat)):aw C (.uC ops dr) Q ⟨sl,bx,lv,nx⟩=KO ops dr ⟨sl,bx,lv,nx⟩ (QK C nx (y5 (Q .normal) (nx+ops.length))):=by
 show(∃ids,_/\ah _ _)=(∃ids,_/\ah _ _)
 congr 1;funext ids;congr 2;funext css
 show E7 _ _ _ _ _=_
 unfold E7 QK;simp only[qR];rfl
def VK(ops:List CO) (dr:List (Nat×Nat)) (k:Nat) (dep:List Nat) (s:S) (F G:List CO->S->Prop):Prop:=KO ops dr s F\/(pM (lH k dep 0 ops) dr s.nx s.slots=true/\G (lH k dep 0 ops) s)
class KG where
 k:List CO->S->Prop
 q:List CO->S->Prop
def pg(ops:List CO) (dr:List (Nat×Nat)) (k:Nat) (dep:List Nat) (s:S) [h:KG]:Prop:=VK ops dr k dep s h.k h.q
theorem VL(ops:List CO) (dr:List (Nat×Nat)) (k:Nat) (dep:List Nat) (s:S) (F G:List CO->S->Prop):VK ops dr k dep s F G=@pg ops dr k dep s ⟨F,G⟩:=rfl
section
variable{ops:List CO} {dr:List (Nat×Nat)} {k:Nat} {dep:List Nat} {s:S} {F G:List CO->S->Prop}
theorem xR(h:pM ops dr s.nx s.slots=true) (hk:F ops s):@pg ops dr k dep s ⟨F,G⟩:=.inl (BZ h hk)
theorem xS(h:pM (lH k dep 0 ops) dr s.nx s.slots=true) (hk:G (lH k dep 0 ops) s):@pg ops dr k dep s ⟨F,G⟩:=.inr ⟨h,hk⟩
end
def HE:Option SV->Option AV
 |some (.dat p none)=>some p
 |_=>none
theorem Oc(p:AV):HE (some (.dat p none))=some p:=rfl
def Od(d:Option Nat) (ds:List Nat) (X:AV->S->Prop) (s:S):Prop:=ah d fun d=>ah (HE (lk d s.slots)) fun p=>X p (sE ds s)
theorem Oe(d:Option Nat) (ds:List Nat) (X:AV->S->Prop):Od d ds X ⟨sl,bx,lv,nx⟩=ah d fun d=>ah (HE (lk d sl)) fun p=>X p ⟨mK ds sl,bx,lv,nx⟩:=rfl
theorem Of(ops:List CO) (dr:List (Nat×Nat)) (k:Nat) (dep:List Nat):aw C (.vW ops dr k dep) Q ⟨sl,bx,lv,nx⟩=VK ops dr k dep ⟨sl,bx,lv,nx⟩ (QK C nx (y5 (Q .normal) (nx+ops.length))) (QK C nx (Od (pD k ops) (Ke ops) fun p=>y5 (Q (.panic (dz p))) (nx+ops.length))):=by
 show(_\/_)=(_\/_)
 congr 1
 ·exact HD sl bx lv nx ops dr
 ·unfold M5 QK
  congr 1
  rw[Dm,MH]
  congr 1
  funext s
  unfold Od
  apply propext
  constructor
  ·rintro⟨d,p,h1,h2,h3⟩
   rw[h1]
   show ah (HE (lk d s.slots)) _
   rw[h2];exact h3
  ·intro h
   cases hd:pD k ops with
   |none=>rw[hd]at h;exact h.elim
   |some d=>
    rw[hd]at h
    have h:ah (HE (lk d s.slots)) _:=h
    cases hp:lk d s.slots with
    |none=>rw[hp]at h;exact h.elim
    |some v=>cases v with
     |dat p q=>cases q with
      |none=>rw[hp]at h;exact⟨d,p,rfl,hp,h⟩
      |some _=>rw[hp]at h;exact h.elim
     |_=>rw[hp]at h;exact h.elim
theorem Og(k:S->Prop) (n:Nat):y5 k n ⟨sl,bx,lv,nx⟩=k ⟨sl,bx,lv,n⟩:=rfl
theorem Sb(a b:aX):aw C (.seq a b) Q ⟨sl,bx,lv,nx⟩=aw C a (jE (aw C b Q) Q) ⟨sl,bx,lv,nx⟩:=rfl
theorem HF(a b:aX):aw C (.join a b) Q ⟨sl,bx,lv,nx⟩=aw C a (jE (down (aw C b Q)) Q) ⟨sl,bx,lv,nx⟩:=rfl
def rX(a b:Prop):AV->Prop
 | .bool t=>(t=true->a)/\(t=false->b)
 |_=>False
theorem Oh(c:bl) (a b:aX):aw C (.cond c a b) Q ⟨sl,bx,lv,nx⟩=ah (aM ⟨sl,bx,lv,nx⟩ c) (rX (aw C a Q ⟨sl,bx,lv,nx⟩) (aw C b Q ⟨sl,bx,lv,nx⟩)):=rfl
def Sc(n z:Nat) (a:Option AV) (k:SV->Prop):SV->Prop
 | .ptr b off=>ah a fun a=>ah (idxOf a) fun h=>(0<=h/\h<=n)/\k (.vs b off h.toNat z)
 |_=>False
theorem Sd(id:Nat) (x:bl) (n z:Nat) (hi:bl):bD C id (.Qw x n z hi) K ⟨sl,bx,lv,nx⟩=ah (bC ⟨sl,bx,lv,nx⟩ x) (Sc n z (aM ⟨sl,bx,lv,nx⟩ hi) fun v=>K v ⟨sl,bx,lv,nx⟩):=by
 show ah _ _=ah _ _
 cases bC ⟨sl,bx,lv,nx⟩ x with
 |none=>rfl
 |some v=>cases v<;>rfl
theorem Oi(n z:Nat) (a:Option AV) (k:SV->Prop) (b off:Nat):Sc n z a k (.ptr b off)=ah a fun a=>ah (idxOf a) fun h=>(0<=h/\h<=n)/\k (.vs b off h.toNat z):=rfl
theorem Oj(k:SV->Prop) (ps:List (Nat×Nat)) (off:Nat):QG off k (.pt 2 ps)=k (.pt 2 (ps.drop off)):=rfl
theorem HG(b:Nat) (p:List (Option AV)×List Nat):zD true (some (.pt 0 [(b,0)])) (some p)=some (some .hole::p.1,b::p.2):=rfl
def Dp(k:SV->Prop):Option Nat->List (Nat×Nat)->Prop
 |none,(b,o)::_=>k (.ptr b o)
 |some n,ps=>n<=ps.length/\k (.pt 0 (ps.take n))
 |_,_=>False
def KQ(sz:Option Nat) (k:SV->Prop):SV->Prop
 | .pt 2 ps=>Dp k sz ps
 |_=>False
theorem Se(id:Nat) (x:bl) (sz:Option Nat):bD C id (.jC x sz) K ⟨sl,bx,lv,nx⟩=ah (bC ⟨sl,bx,lv,nx⟩ x) (KQ sz fun v=>K v ⟨sl,bx,lv,nx⟩):=by
 show ah _ _=ah _ _
 cases bC ⟨sl,bx,lv,nx⟩ x with
 |none=>rfl
 |some v=>cases v with
  |pt k ps=>match k,sz,ps with
   |2,none,(_,_)::_=>rfl
   |2,none,[]=>rfl
   |2,some _,[]=>rfl
   |2,some _,_::_=>rfl
   |0,_,_=>rfl
   |1,_,_=>rfl
   |k+3,_,_=>rfl
  |_=>rfl
theorem Ol(sz:Option Nat) (k:SV->Prop) (ps:List (Nat×Nat)):KQ sz k (.pt 2 ps)=Dp k sz ps:=rfl
theorem Om(k:SV->Prop) (b o:Nat) (ps:List (Nat×Nat)):Dp k none ((b,o)::ps)=k (.ptr b o):=rfl
theorem On(k:SV->Prop) (b o:Nat) (ps:List (Nat×Nat)):Dp k (some 1) ((b,o)::ps)=k (.pt 0 [(b,o)]):=by simp[Dp]
@[congr] theorem VM (sz:Option Nat) (k:SV->Prop) {v v':SV} (h:v=v'):KQ sz k v=KQ sz k v':=by rw[h]
@[congr] theorem VN (k:SV->Prop) (sz:Option Nat) {v v':List (Nat×Nat)} (h:v=v'):Dp k sz v=Dp k sz v':=by rw[h]
theorem Oo(b:Nat) (cs:List AV) (k:Nat) (ps:List (Nat×Nat)):jD b cs (.pt k ps)=.pt k ps:=rfl
def Eo(a b:Prop):AV->Prop
 | .bool t=>(t=true->a)/\(t=false->b)
 |_=>False
def HH(id e z bytes:Nat) (s:S) (K:SV->S->Prop) (b off n z':Nat):SV->Prop
 | .ptr b' _=>(b'=b/\z'=z)/\ah (bY b s.boxes) fun y=>(n*z<=(y.cells.drop off).length/\n*bytes<=140737488355328)/\
   Eo (K (.dat .bI none) s) (K (.dat (.sl (bP z n (y.cells.drop off))) (some id)) {s with live:=(id,e)::s.live}) (.bool (n==0))
 |_=>False
def MK(id e z bytes:Nat) (s:S) (K:SV->S->Prop) (x:Option SV):SV->Prop
 | .vs b off n z'=>ah x (HH id e z bytes s K b off n z')
 |_=>False
theorem HI(a b:Prop) (n:Nat):Eo a b (.bool (n==0))=(if n=0 then a else b):=by
 by_cases h:n=0
 ·subst h;simp[Eo]
 ·simp[Eo,h]
theorem Oq(id e z bytes:Nat) (y x:bl):bD C id (.Aj e z bytes y x) K ⟨sl,bx,lv,nx⟩=ah (bC ⟨sl,bx,lv,nx⟩ y) (MK id e z bytes ⟨sl,bx,lv,nx⟩ K (bC ⟨sl,bx,lv,nx⟩ x)):=by
 show ah _ _=ah _ _
 cases bC ⟨sl,bx,lv,nx⟩ y with
 |none=>rfl
 |some v=>
  cases v<;>try rfl
  show ah _ _=ah _ _
  cases bC ⟨sl,bx,lv,nx⟩ x with
  |none=>rfl
  |some u=>
   cases u<;>try rfl
   show(_/\ah _ _)=(_/\ah _ _)
   congr 2
   funext y
   rw[HI]
theorem KR(id e z bytes:Nat) (K:SV->S->Prop) (x:Option SV) (b off n z':Nat):MK id e z bytes ⟨sl,bx,lv,nx⟩ K x (.vs b off n z')=ah x (HH id e z bytes ⟨sl,bx,lv,nx⟩ K b off n z'):=rfl
theorem KS(id e z bytes:Nat) (K:SV->S->Prop) (b off n z' b' o:Nat):HH id e z bytes ⟨sl,bx,lv,nx⟩ K b off n z' (.ptr b' o)=((b'=b/\z'=z)/\ah (bY b bx) fun y=>(n*z<=(y.cells.drop off).length/\n*bytes<=140737488355328)/\
   rX (K (.dat .bI none) ⟨sl,bx,lv,nx⟩) (K (.dat (.sl (bP z n (y.cells.drop off))) (some id)) ⟨sl,bx,(id,e)::lv,nx⟩) (.bool (n==0))):=rfl
def cd(c:AV) [k:KP]:Prop:=rX k.yes k.no c
theorem lP(a b:Prop) (c:AV):rX a b c=@cd c ⟨a,b⟩:=rfl
theorem KT(a b:Prop):@cd (.bool true) ⟨a,b⟩=a:=by simp[cd,rX]
theorem KU(a b:Prop):@cd (.bool false) ⟨a,b⟩=b:=by simp[cd,rX]
theorem KV(id:Nat) (c:aX):aw C (.block id c) Q ⟨sl,bx,lv,nx⟩=aw C c (gn id Q) ⟨sl,bx,lv,nx⟩:=rfl
theorem Ot(id:Nat):aw C (.exit id) Q ⟨sl,bx,lv,nx⟩=Q (.exit id) ⟨sl,bx,lv,nx⟩:=rfl
theorem Sf:aw C .ret Q ⟨sl,bx,lv,nx⟩=Q .ret ⟨sl,bx,lv,nx⟩:=rfl
theorem KY(l:Nat) (c r:aX):aw C (.scope l c r) Q ⟨sl,bx,lv,nx⟩=aw C c (lY l (aw C r (vX Q)) Q) ⟨sl,bx,lv,nx⟩:=rfl
theorem KZ(l:Nat):aw C (.label l) Q ⟨sl,bx,lv,nx⟩=Q .normal ⟨sl,bx,lv,nx⟩:=rfl
theorem Ou(l:Nat):aw C (.goto l) Q ⟨sl,bx,lv,nx⟩=Q (.goto l) ⟨sl,bx,lv,nx⟩:=rfl
theorem K0(k:S->Prop) (s:S) (l:Nat):jE k Q (.goto l) s=Q (.goto l) s:=rfl
theorem Ov(id:Nat) (s:S) (l:Nat):gn id Q (.goto l) s=Q (.goto l) s:=rfl
theorem Sg(l:Nat) (k:S->Prop) (s:S):lY l k Q .normal s=Q .normal s:=rfl
theorem Si(l:Nat) (k:S->Prop) (s:S):lY l k Q .ret s=Q .ret s:=rfl
theorem Sj(l:Nat) (k:S->Prop) (s:S) (id:Nat):lY l k Q (.exit id) s=Q (.exit id) s:=rfl
theorem Sk(l:Nat) (k:S->Prop) (s:S) (l':Nat):lY l k Q (.goto l') s=(l'=l/\k s):=rfl
theorem Sl(s:S):vX Q .normal s=Q .normal s:=rfl
theorem Sm(s:S):vX Q .ret s=Q .ret s:=rfl
theorem Sn(s:S) (id:Nat):vX Q (.exit id) s=Q (.exit id) s:=rfl
theorem K1(k:S->Prop) (s:S):jE k Q .normal s=k s:=rfl
theorem K2(k:S->Prop) (s:S):jE k Q .ret s=Q .ret s:=rfl
theorem K3(k:S->Prop) (s:S) (id:Nat):jE k Q (.exit id) s=Q (.exit id) s:=rfl
theorem Ow(id:Nat) (s:S):gn id Q .normal s=Q .normal s:=rfl
theorem Ox(id:Nat) (s:S):gn id Q .ret s=Q .ret s:=rfl
theorem Oy(id:Nat) (s:S):gn id Q (.exit id) s=Q .normal s:=by simp[gn]
theorem jo(id id':Nat) (s:S) (h:(id'==id)=false):gn id Q (.exit id') s=Q (.exit id') s:=by
 have:id'≠id:=by simpa using h
 simp[gn,this]
end
section
variable{C:bt} {Q:Exit->S->Prop} {K:SV->S->Prop} {J:S->Prop}
@[congr] theorem Vd {α:Type} {o o':Option α} (k:α->Prop) (h:o=o'):ah o k=ah o' k:=by rw[h]
@[congr] theorem Wz (id:Nat) (o:bH) (s:S):bD C id o K s=bD C id o K s:=rfl
@[congr] theorem VO (b i:Nat) (l:List CO) (s:S):iT C b i l J s=iT C b i l J s:=rfl
@[congr] theorem WV (c:aX) (s:S):aw C c Q s=aw C c Q s:=rfl
@[congr] theorem Ve (e:Exit) (s:S):jE J Q e s=jE J Q e s:=rfl
@[congr] theorem So {J:S->Prop} (l:Nat) (e:Exit) (s:S):lY l J Q e s=lY l J Q e s:=rfl
@[congr] theorem VP (e:Exit) (s:S):vX Q e s=vX Q e s:=rfl
@[congr] theorem Sq (id:Nat) (e:Exit) (s:S):gn id Q e s=gn id Q e s:=rfl
@[congr] theorem VQ (n:Nat) (s:S):y5 J n s=y5 J n s:=rfl
@[congr] theorem VR {s s':S} (h:s=s'):down J s=down J s':=by rw[h]
@[congr] theorem Sr (w:Bool) (yes no:Prop) {g g':Option SV} (h:g=g'):kR w yes no g=kR w yes no g':=by rw[h]
@[congr] theorem Vf {a a' b b':Option SV} (k:SV->Prop) {c c':AV} (ha:a=a') (hb:b=b') (hc:c=c'):xQ a b k c=xQ a' b' k c':=by rw[ha,hb,hc]
@[congr] theorem Vg (a b:Prop) {c c':AV} (h:c=c'):rX a b c=rX a b c':=by rw[h]
@[congr] theorem WA (sz:Option Nat) (bx:List (Nat×bO)) (k:SV->Prop) {v v':SV} (h:v=v'):QF sz bx k v=QF sz bx k v':=by rw[h]
@[congr] theorem WB (off:Nat) (k:SV->Prop) {v v':SV} (h:v=v'):QG off k v=QG off k v':=by rw[h]
@[congr] theorem WC {d d':Nat} (k:SV->Prop) {v v':SV} (h:v=v') (hd:d=d'):Rq d k v=Rq d' k v':=by rw[h,hd]
@[congr] theorem WD (sz:Nat) (bx:List (Nat×bO)) {u u':Option SV} (k:List (Nat×bO)->Prop) {v v':SV} (hu:u=u') (h:v=v'):Vc sz bx u k v=Vc sz bx u' k v':=by rw[h,hu]
@[congr] theorem WE (sz off:Nat) (x:bO) (k:bO->Prop) {v v':SV} (h:v=v'):Ri sz off x k v=Ri sz off x k v':=by rw[h]
@[congr] theorem VS (k:List AV->Prop) {v v':AV} (h:v=v'):Dn k v=Dn k v':=by rw[h]
@[congr] theorem WG (m:Bool) (k:AV->Prop) {v v':List AV} (h:v=v'):RO m k v=RO m k v':=by rw[h]
@[congr] theorem WH (k:SV->Prop) {v v':SV} (h:v=v'):QJ k v=QJ k v':=by rw[h]
end
section
variable(k:IntKind) (x y:Int)
theorem Ss:dI .add (.int k x) (.int k y)=some (.int k (k.wrap (x+y))):=by simp[dI,o8]
theorem St:dI .sub (.int k x) (.int k y)=some (.int k (k.wrap (x-y))):=by simp[dI,o8]
theorem Su:dI .mul (.int k x) (.int k y)=some (.int k (k.wrap (x*y))):=by simp[dI,o8]
theorem Sv:dI .eql (.int k x) (.int k y)=some (.bool (x==y)):=by simp[dI,o8]
theorem Sw:dI .neq (.int k x) (.int k y)=some (.bool (x !=y)):=by simp[dI,o8]
theorem Sx:dI .lss (.int k x) (.int k y)=some (.bool (decide (x<y))):=by simp[dI,o8]
theorem Sy:dI .leq (.int k x) (.int k y)=some (.bool (decide (x<=y))):=by simp[dI,o8]
theorem Sz:dI .gtr (.int k x) (.int k y)=some (.bool (decide (y<x))):=by simp[dI,o8]
theorem SA:dI .geq (.int k x) (.int k y)=some (.bool (decide (y<=x))):=by simp[dI,o8]
def oC(k:IntKind) (x y:Int):Int:=k.wrap (BitVec.ofInt k.bits x&&&BitVec.ofInt k.bits y).toNat
def Jy(k:IntKind) (x y:Int):Int:=k.wrap (BitVec.ofInt k.bits x|||BitVec.ofInt k.bits y).toNat
def qi(k:IntKind) (x y:Int):Int:=k.wrap (BitVec.ofInt k.bits x^^^BitVec.ofInt k.bits y).toNat
def mV(k:IntKind) (x y:Int):Int:=k.wrap (BitVec.ofInt k.bits x&&& ~~~BitVec.ofInt k.bits y).toNat
theorem SB:dI .and (.int k x) (.int k y)=some (.int k (oC k x y)):=by simp[dI,o8,vl,oC]
theorem VT:dI .or (.int k x) (.int k y)=some (.int k (Jy k x y)):=by simp[dI,o8,vl,Jy]
theorem SC:dI .xor (.int k x) (.int k y)=some (.int k (qi k x y)):=by simp[dI,o8,vl,qi]
theorem HJ:dI .andNot (.int k x) (.int k y)=some (.int k (mV k x y)):=by simp[dI,o8,vl,mV]
def oY(c:Prop) [Decidable c] (v:AV):Option AV:=if c then some v else none
theorem K4(c:Prop) [Decidable c] (v:AV) (K:AV->Prop):@wv _ (oY c v) ⟨K⟩=(c/\K v):=by
 rw[<-kQ];unfold oY;split<;>simp_all
theorem SD:dI .quo (.int k x) (.int k y)=oY (y≠0) (.int k (k.wrap (x.tdiv y))):=by
 by_cases h:y=0<;>simp[dI,o8,oY,h]
theorem SE:dI .rem (.int k x) (.int k y)=oY (y≠0) (.int k (x.tmod y)):=by
 by_cases h:y=0<;>simp[dI,o8,oY,h]
theorem SF(k':IntKind):dI .shl (.int k x) (.int k' y)=oY (0<=y) (.int k (k.wrap (x*2^min y.toNat k.bits))):=by
 by_cases h:0<=y
 ·have:¬y<0:=by omega
  simp[dI,pH,oY,h,this]
 ·have:y<0:=by omega
  simp[dI,pH,oY,this]
theorem SG(k':IntKind):dI .shr (.int k x) (.int k' y)=oY (0<=y) (.int k (x.fdiv (2^min y.toNat k.bits))):=by
 by_cases h:0<=y
 ·have:¬y<0:=by omega
  simp[dI,pH,oY,h,this]
 ·have:y<0:=by omega
  simp[dI,pH,oY,this]
theorem SH(x y:Bool):QC false (.bool x) (.bool y)=some (.bool (x==y)):=rfl
theorem SI(x y:Bool):QC true (.bool x) (.bool y)=some (.bool (x !=y)):=rfl
theorem SJ(b:Bool):M0 .not (.bool b)=some (.bool !b):=rfl
theorem SK:M0 .neg (.int k x)=some (.int k (k.wrap (0-x))):=rfl
theorem SL:Bw false .bI=some true:=rfl
theorem SM:Bw true .bI=some false:=rfl
theorem SN(xs:List (List AV)):Bw false (.sl xs)=some false:=rfl
theorem SO(xs:List (List AV)):Bw true (.sl xs)=some true:=rfl
theorem SP:Ao .bI=some (.int .i64 0):=rfl
theorem VU(xs:List (List AV)):Ao (.sl xs)=some (.int .i64 xs.length):=rfl
theorem VV(k':IntKind):zg k (.int k' x)=some (.int k (k.wrap x)):=rfl
theorem VW(k':IntKind) (f:FloatKind):wW f (.int k' x)=some (.float f (f.nearest x)):=rfl
theorem SQ(vs:List AV) (i:Nat):Gv (.o7 vs) i=vs[i]?:=rfl
theorem SR(cs:List AV):iQ (.agg cs) none=true:=rfl
theorem SS(q:Option Nat):iQ (.int k x) q=true:=rfl
theorem SU(b:Bool) (q:Option Nat):iQ (.bool b) q=true:=rfl
theorem SW(f:FloatKind) (n:Nat) (q:Option Nat):iQ (.float f n) q=true:=rfl
theorem SX(q:Option Nat):iQ .bI q=true:=rfl
theorem SY(xs:List (List AV)) (q:Option Nat):iQ (.sl xs) q=true:=rfl
theorem SZ(b:ByteArray) (q:Option Nat):iQ (.str b) q=true:=rfl
theorem Ta(f:Fn) (as bs:List AV) (q:Option Nat):iQ (.fn f as bs) q=true:=rfl
theorem Oz(cs:List AV) (q:Option Nat):iQ (.ref cs) q=true:=rfl
theorem Tc(q:Option Nat):iQ .wT q=true:=rfl
theorem FC(cs:List AV):AV.cells (.agg cs)=cs:=rfl
theorem FD:AV.cells (.int k x)=[.int k x]:=rfl
theorem Dq(b:Bool):AV.cells (.bool b)=[.bool b]:=rfl
theorem B1(f:FloatKind) (n:Nat):AV.cells (.float f n)=[.float f n]:=rfl
theorem Dr:AV.cells .bI=[.bI]:=rfl
theorem FE(cs:List AV):AV.cells (.ref cs)=[.ref cs]:=rfl
theorem HK(f:Fn) (as bs:List AV):AV.cells (.fn f as bs)=[.fn f as bs]:=rfl
theorem HL(xs:List (List AV)):AV.cells (.sl xs)=[.sl xs]:=rfl
theorem uP(cs:List AV) (off:Nat):bF cs off none=cs[off]?:=rfl
theorem gW(cs:List AV) (off n:Nat) (h:off+n<=cs.length):bF cs off (some n)=some (.agg ((cs.drop off).take n)):=by simp[bF,h]
end
theorem bz{w:Bool} {yes no:Prop} {t:Bool} {q:Option Nat} (h1:t=true->@gd w (some (.dat (.bool true) q)) ⟨yes,no⟩) (h2:t=false->@gd w (some (.dat (.bool false) q)) ⟨yes,no⟩):@gd w (some (.dat (.bool t) q)) ⟨yes,no⟩:=by
 cases t
 ·exact h2 rfl
 ·exact h1 rfl
theorem ax{a b:Prop} {t:Bool} (h1:t=true->a) (h2:t=false->b):@cd (.bool t) ⟨a,b⟩:=by
 cases t
 ·simpa[cd,rX]using h2 rfl
 ·simpa[cd,rX]using h1 rfl
theorem cv{a b:Option SV} {k:SV->Prop} {t:Bool} (h1:t=true->@pk a b (.bool true) ⟨k⟩) (h2:t=false->@pk a b (.bool false) ⟨k⟩):@pk a b (.bool t) ⟨k⟩:=by
 cases t
 ·exact h2 rfl
 ·exact h1 rfl
theorem K5(p:Nat) (ps:List Nat) (x:AV) (xs:List AV) (s:S):pN (p::ps) (x::xs) s=pN ps xs (s.put (some p) (.dat x none)):=rfl
theorem HM(s:S):pN [] [] s=s:=rfl
theorem OA(wr:List Nat) (sl:List (Nat×SV)) (bx:List (Nat×bO)) (lv:List (Nat×Nat)) (nx:Nat):sE wr ⟨sl,bx,lv,nx⟩=⟨mK wr sl,bx,lv,nx⟩:=rfl
theorem K6(wr:List Nat):mK wr []=[]:=rfl
theorem OB(wr:List Nat) (t:Nat) (v:SV) (r:List (Nat×SV)):mK wr ((t,v)::r)=bif wr.contains t then mK wr r else(t,v)::mK wr r:=rfl
theorem OC(wr:List Nat) (F:S->Prop) (Q:Exit->S->Prop) (s:S):D0 wr F Q .normal s=down F (sE wr s):=rfl
theorem OD(wr:List Nat) (F:S->Prop) (Q:Exit->S->Prop) (s:S):D0 wr F Q .ret s=Q .ret (sE wr s):=rfl
theorem OE(wr:List Nat) (F:S->Prop) (Q:Exit->S->Prop) (id:Nat) (s:S):D0 wr F Q (.exit id) s=Q (.exit id) (sE wr s):=rfl
theorem K7(K:S->Prop) (s:S):tH K .normal s=K s:=rfl
def WW:=
 And.intro @Nk (And.intro @Nl (And.intro @Nm (And.intro @Q9 (And.intro @Vt (And.intro @Ra (And.intro @Vu (And.intro @Kc (And.intro @Nn (And.intro @No (And.intro @Np (And.intro @Nq (And.intro @Rc (And.intro @BY (And.intro @vG (And.intro @tT (And.intro @qh (And.intro @Nr (And.intro @Ns (And.intro @Kf (And.intro @Re (And.intro @Nt (And.intro @Nu (And.intro @Nv (And.intro @Kg (And.intro @Nx (And.intro @Kh (And.intro @Ki (And.intro @Kj (@Kk)))))))))))))))))))))))))))))
def WX:=
 And.intro @G6 (And.intro @Kl (And.intro @Ny (And.intro @Km (And.intro @G7 (And.intro @G8 (And.intro @Fu (And.intro @G9 (And.intro @Fv (And.intro @Vv (And.intro @Nz (And.intro @Ko (And.intro @Kq (And.intro @Kr (And.intro @Rf (And.intro @Vw (And.intro @NA (And.intro @NB (And.intro @Rh (And.intro @Vx (And.intro @Rj (And.intro @Rk (And.intro @Ks (And.intro @Kt (And.intro @Vy (And.intro @Rm (And.intro @Rp (And.intro @Rr (And.intro @Rs (@Rt)))))))))))))))))))))))))))))
def WY:=
 And.intro @Ru (And.intro @Rv (And.intro @NC (And.intro @ND (And.intro @NF (And.intro @Ku (And.intro @Rw (And.intro @Rx (And.intro @Ry (And.intro @Rz (And.intro @RA (And.intro @VA (And.intro @VB (And.intro @NG (And.intro @NH (And.intro @NI (And.intro @NJ (And.intro @Kv (And.intro @Kw (And.intro @VD (And.intro @VE (And.intro @VF (And.intro @VG (And.intro @RB (And.intro @NL (And.intro @NM (And.intro @RD (And.intro @NN (And.intro @NO (@NP)))))))))))))))))))))))))))))
def WZ:=
 And.intro @Hg (And.intro @Hh (And.intro @Hi (And.intro @NQ (And.intro @RF (And.intro @Hj (And.intro @Kx (And.intro @Ky (And.intro @Hl (And.intro @Kz (And.intro @KA (And.intro @Fx (And.intro @Ho (And.intro @Fy (And.intro @Hp (And.intro @Hq (And.intro @Hs (And.intro @KB (And.intro @KC (And.intro @KD (And.intro @Ht (And.intro @Hu (And.intro @KE (And.intro @Hv (And.intro @Hw (And.intro @Fz (And.intro @FA (And.intro @RG (And.intro @RH (@NR)))))))))))))))))))))))))))))
def W0:=
 And.intro @NS (And.intro @NT (And.intro @NU (And.intro @NV (And.intro @KH (And.intro @NW (And.intro @KI (And.intro @NX (And.intro @KJ (And.intro @NY (And.intro @Hx (And.intro @Hy (And.intro @Hz (And.intro @NZ (And.intro @RI (And.intro @N0 (And.intro @RM (And.intro @VH (And.intro @RQ (And.intro @RR (And.intro @N5 (And.intro @KK (And.intro @HA (And.intro @FB (And.intro @RS (And.intro @KL (And.intro @HB (And.intro @RU (And.intro @RZ (@KM)))))))))))))))))))))))))))))
def W4:=
 And.intro @N7 (And.intro @KN (And.intro @N8 (And.intro @N9 (And.intro @R5 (And.intro @Oa (And.intro @VI (And.intro @R6 (And.intro @R7 (And.intro @R8 (And.intro @Ob (And.intro @R9 (And.intro @Sa (And.intro @HD (And.intro @Oc (And.intro @Oe (And.intro @Of (And.intro @Og (And.intro @Sb (And.intro @HF (And.intro @Oh (And.intro @Sd (And.intro @Oi (And.intro @Oj (And.intro @HG (And.intro @Se (And.intro @Ol (And.intro @Om (And.intro @On (@Oo)))))))))))))))))))))))))))))
def W5:=
 And.intro @Oq (And.intro @KR (And.intro @KS (And.intro @KT (And.intro @KU (And.intro @KV (And.intro @Ot (And.intro @Sf (And.intro @KY (And.intro @KZ (And.intro @Ou (And.intro @K0 (And.intro @Ov (And.intro @Sg (And.intro @Si (And.intro @Sj (And.intro @Sk (And.intro @Sl (And.intro @Sm (And.intro @Sn (And.intro @K1 (And.intro @K2 (And.intro @K3 (And.intro @Ow (And.intro @Ox (And.intro @Oy (And.intro @Ss (And.intro @St (And.intro @Su (@Sv)))))))))))))))))))))))))))))
def W6:=
 And.intro @Sw (And.intro @Sx (And.intro @Sy (And.intro @Sz (And.intro @SA (And.intro @SB (And.intro @VT (And.intro @SC (And.intro @HJ (And.intro @K4 (And.intro @SD (And.intro @SE (And.intro @SF (And.intro @SG (And.intro @SH (And.intro @SI (And.intro @SJ (And.intro @SK (And.intro @SL (And.intro @SM (And.intro @SN (And.intro @SO (And.intro @SP (And.intro @VU (And.intro @VV (And.intro @VW (And.intro @SQ (And.intro @SR (And.intro @SS (@SU)))))))))))))))))))))))))))))
def W7:=
 And.intro @SW (And.intro @SX (And.intro @SY (And.intro @SZ (And.intro @Ta (And.intro @Oz (And.intro @Tc (And.intro @FC (And.intro @FD (And.intro @Dq (And.intro @B1 (And.intro @Dr (And.intro @FE (And.intro @HK (And.intro @HL (And.intro @uP (And.intro @K5 (And.intro @HM (And.intro @OA (And.intro @K6 (And.intro @OB (And.intro @OC (And.intro @OD (And.intro @OE (@K7))))))))))))))))))))))))
def EV:=
 And.intro @WW (And.intro @WX (And.intro @WY (And.intro @WZ (And.intro @W0 (And.intro @W4 (And.intro @W5 (And.intro @W6 (@W7))))))))
section
variable{C:bt}
theorem tU{id:Nat} {o:bH} {K K':SV->S->Prop} {s:S} (hk:∀v s',K v s'->K' v s') (h:bD C id o K s):bD C id o K' s:=by
 obtain⟨v,d,hK,_,_,hs⟩:=pX h;exact hs.2 s .refl K' (hk _ _ hK)
theorem nS{base:Nat}:∀{l:List CO} {i:Nat} {s:S} {K K':S->Prop},(∀s,K s->K' s)->iT C base i l K s->iT C base i l K' s
 |[],i,s,K,K',hk,h=>hk s h
 |o::l,i,s,K,K',hk,h=>by
  rw[j9]at h⊢;obtain⟨v,d,hd,hk',_⟩:=d7 h;exact hd.2 s .refl _ (nS hk hk')
theorem FF{id:Nat} {o:Bv} {K K':SV->S->Prop} {X X':AV->S->Prop} {s:S} (hk:∀v s',K v s'->K' v s') (hx:∀p s',X p s'->X' p s') (h:bu C id o K X s):bu C id o K' X' s:=by
 cases o with
 |o c=>exact tU hk h
 |call f args=>
  simp only[bu]at h⊢
  rcases h with h|h
  ·exact .inl (tU hk h)
  ·obtain⟨as,has,h⟩:=af h
   rw[has]
   rcases h with⟨cs,h1,h2⟩|⟨p,h1,h2⟩|⟨rows,e,z,h1,h2,h3⟩
   ·exact .inr (.inl ⟨cs,h1,hk _ _ h2⟩)
   ·exact .inr (.inr (.inl ⟨p,h1,hx _ _ h2⟩))
   ·exact .inr (.inr (.inr ⟨rows,e,z,h1,h2,hk _ _ h3⟩))
 |MZ e z bytes y=>
  obtain⟨a,ha,h⟩:=af h;obtain⟨rows,hr,h1,h2,h3⟩:=af h;simp only[bu,ha,hr,az];exact⟨h1,h2,hk _ _ h3⟩
 |aK f args=>
  simp only[bu]at h⊢
  rcases h with h|h
  ·exact .inl (tU hk h)
  ·obtain⟨p,hp,hn,h⟩:=af h
   obtain⟨css,hcs,h⟩:=af h;rw[hp];refine .inr ⟨hn,?_⟩;rw[hcs]
   rcases h with⟨v,css',h1,h2⟩|⟨tg,r,css',tg',h1,h2⟩
   ·exact .inl ⟨v,css',h1,hx _ _ h2⟩
   ·obtain⟨qo,hq,h2⟩:=af h2
    exact .inr ⟨tg,r,css',tg',h1,by rw[hq];exact hk _ _ h2⟩
 |ee b g args=>
  simp only[bu]at h⊢;split at h
  ·obtain⟨p,hp,hn,h⟩:=af h
   obtain⟨css,hcs,h⟩:=af h;rw[hp];refine⟨hn,?_⟩;rw[hcs]
   rcases h with⟨r,fr,css',h1,h2⟩|⟨v,css',h1,h2⟩|⟨tg,r,css',tg',h1,h2⟩
   ·exact .inl ⟨r,fr,css',h1,hk _ _ h2⟩
   ·exact .inr (.inl ⟨v,css',h1,hx _ _ h2⟩)
   ·obtain⟨qo,hq,h2⟩:=af h2
    exact .inr (.inr ⟨tg,r,css',tg',h1,by rw[hq];exact hk _ _ h2⟩)
  ·exact tU hk h
 |E4 x=>
  obtain⟨p,hp,h⟩:=af h;simp only[bu,hp,az]
  cases p<;>first|exact hk _ _ h|exact h.elim
 |rJ x=>
  obtain⟨p,hp,h⟩:=af h;simp only[bu,hp,az]
  cases p<;>try(exact h.elim)
  rename_i k ps
  cases k<;>first|exact hk _ _ h|exact h.elim
 |QB x v=>
  obtain⟨p,hp,h⟩:=af h;simp only[bu,hp,az]
  cases p<;>try(exact h.elim)
  rename_i b o
  cases o<;>try(exact h.elim)
  obtain⟨q,hq,h⟩:=af h;simp only[hq,az]
  cases q<;>try(exact h.elim)
  rename_i k ps
  cases k<;>try(exact h.elim)
  obtain⟨y,hy,h1,h2⟩:=af h;simp only[hy,az];exact⟨h1,hk _ _ h2⟩
 |Ak xs=>obtain⟨p,hp,h⟩:=af h;simp only[bu,hp];exact hk _ _ h
 |JF x i=>
  obtain⟨p,hp,h⟩:=af h;simp only[bu,hp,az]
  cases p<;>try(exact h.elim)
  rename_i k ps
  match k,h with
  |1,h=>
   obtain⟨a,ha,h⟩:=af h;obtain⟨j,hj,h1,h2⟩:=af h;simp only[ha,az,hj];exact⟨h1,hk _ _ h2⟩
  |0,h=>exact h.elim
  |k+2,h=>exact h.elim
 |JG x=>
  obtain⟨p,hp,h⟩:=af h;simp only[bu,hp,az]
  cases p<;>try(exact h.elim)
  rename_i k ps
  match k,h with
  |1,h=>exact hk _ _ h
  |0,h=>exact h.elim
  |k+2,h=>exact h.elim
 |zc g args=>
  obtain⟨av,hav,h⟩:=af h;simp only[bu,hav,az]
  cases av<;>try(exact h.elim)
  rename_i fn first caps
  cases fn<;>try(exact h.elim)
  cases first<;>try(exact h.elim)
  cases caps<;>try(exact h.elim)
  obtain⟨p,hp,hn,h⟩:=af h;obtain⟨css,hcs,j,o,b,h1,h2,h3⟩:=af h;simp only[hp,az,hcs];exact⟨hn,j,o,b,h1,h2,hk _ _ h3⟩
 |QZ f caps=>obtain⟨p,hp,h⟩:=af h;simp only[bu,hp];exact hk _ _ h
 |Gm x=>obtain⟨a,ha,h1,h2⟩:=af h;simp only[bu,ha];exact⟨h1,hx _ _ h2⟩
 |Gn t x=>obtain⟨a,ha,h1,h2⟩:=af h;simp only[bu,ha];exact⟨h1,hk _ _ h2⟩
 |Mx t z x=>
  obtain⟨a,ha,h⟩:=af h;obtain⟨v,hv,h⟩:=af h;simp only[bu,ha,az,hv];exact hk _ _ h
 |Qx neg x=>
  obtain⟨a,ha,h⟩:=af h;obtain⟨v,hv,h⟩:=af h;simp only[bu,ha,az,hv];exact hk _ _ h
 |JE neg x=>
  obtain⟨a,ha,h⟩:=af h;obtain⟨v,hv,h⟩:=af h;simp only[bu,ha,az,hv];exact hk _ _ h
 |Qy e bytes l c=>
  obtain⟨a,ha,h⟩:=af h;obtain⟨l',hl,h⟩:=af h;obtain⟨b,hb,h⟩:=af h;obtain⟨c',hc,h1,h⟩:=af h;simp only[bu,ha,az,hl,hb,hc];exact⟨h1,hk _ _ h⟩
 |Qz e x y=>
  obtain⟨p,hp,h⟩:=af h;simp only[bu,hp,az]
  cases p<;>try(exact h.elim)
  obtain⟨b,hb,h⟩:=af h;obtain⟨ys,hy,h1,h2,h⟩:=af h;simp only[hb,az,hy];exact⟨h1,h2,hk _ _ h⟩
theorem B3{s:S} {g:Option (Nat×Bool)} {y y' n n':Prop} (hy:y->y') (hn:n->n') (h:dQ s g y n):dQ s g y' n':=by
 unfold dQ at h⊢;split at h
 ·exact hy h
 ·split at h
  ·exact⟨fun e=>hy (h.1 e),fun e=>hn (h.2 e)⟩
  ·exact hn h
  ·exact h.elim
theorem sV{base:Nat}:∀{l:List XO} {i:Nat} {s:S} {K K':S->Prop} {X X':AV->S->Prop},(∀s,K s->K' s)->(∀p s',X p s'->X' p s')->dZ C base i l K X s->dZ C base i l K' X' s
 |[],i,s,K,K',X,X',hk,hx,h=>hk s h
 |o::l,i,s,K,K',X,X',hk,hx,h=>B3 (FF (fun v s' h=>sV hk hx h) hx) (sV hk hx) h
theorem rj{F:S->Prop} {s:S} (h:down F s):∃s',F s'/\∀F':S->Prop,F' s'->down F' s:=by
 obtain⟨s1,⟨hl,hF|⟨ids,hok,hF⟩⟩|hF⟩:=h
 ·exact⟨s1,hF,fun F' h=>qS hl h⟩
 ·obtain⟨css,hcs,hF⟩:=af hF
  exact⟨_,hF,fun F' h=>w7 hl ⟨ids,hok,by rw[hcs];exact h⟩⟩
 ·exact⟨s,hF,fun F' h=>iJ h⟩
theorem kg{F G:S->Prop} (h:∀s,F s->G s) {s:S} (hd:down F s):down G s:=by
 obtain⟨s1,⟨hl,hF|⟨ids,hok,hF⟩⟩|hF⟩:=hd
 ·exact qS hl (h _ hF)
 ·obtain⟨css,hcs,hF⟩:=af hF
  exact w7 hl ⟨ids,hok,by rw[hcs];exact h _ hF⟩
 ·exact⟨s1,.inr (h _ hF)⟩
theorem gX{F G:S->Prop} {Q Q':Exit->S->Prop} (h:∀s,F s->G s) (hq:∀e s,Q e s->Q' e s) {e:Exit} {s:S} (ha:jE F Q e s):jE G Q' e s:=by
 cases e<;>first|exact h _ ha|exact hq _ _ ha
theorem B4{id:Nat} {Q Q':Exit->S->Prop} (hq:∀e s,Q e s->Q' e s) {e:Exit} {s:S} (ha:gn id Q e s):gn id Q' e s:=by
 cases e with
 |exit i=>
  simp only[gn]at ha⊢;split
  ·rename_i hi;rw[if_pos hi]at ha;exact hq _ _ ha
  ·rename_i hi;rw[if_neg hi]at ha;exact hq _ _ ha
 |_=>exact hq _ _ ha
theorem oD{F G:(Exit->S->Prop)->S->Prop} (hF:∀Q Q' s,(∀e s,Q e s->Q' e s)->F Q s->G Q' s) {Q Q':Exit->S->Prop} (hq:∀e s,Q e s->Q' e s):∀{n:Nat} {s:S},mN F Q n s->mN G Q' n s
 |0,s,h=>h
 |n+1,s,h=>hF _ _ s (fun e s ha=>gX (fun s hd=>kg (fun s h=>oD hF hq h) hd) hq ha) h
theorem HN{wr:List Nat} {F:S->Prop} {Q Q':Exit->S->Prop} (hq:∀e s,Q e s->Q' e s) {e:Exit} {s:S} (h:D0 wr F Q e s):D0 wr F Q' e s:=by
 cases e<;>first|exact h|exact hq _ _ h
theorem gL:∀{c:aX} {Q Q':Exit->S->Prop} {s:S},(∀e s,Q e s->Q' e s)->aw C c Q s->aw C c Q' s:=by
 intro c
 induction c with
 |skip=>intro Q Q' s hq h;exact hq _ _ h
 |zf ops=>intro Q Q' s hq h;exact nS (fun s h=>hq _ _ h) h
 |aF ops=>intro Q Q' s hq h;exact sV (fun s h=>hq _ _ h) (fun p s h=>hq _ _ h) h
 |uC ops dr=>
  intro Q Q' s hq h;obtain⟨ids,hids,h⟩:=h;obtain⟨css,hcss,ro,hd,h⟩:=af h
  exact⟨ids,hids,by rw[hcss];exact⟨ro,hd,nS (fun s h=>hq _ _ h) h⟩⟩
 |vW ops dr k dep=>
  intro Q Q' s hq h
  rcases h with⟨ids,hids,h⟩|h
  ·obtain⟨css,hcss,ro,hd,h⟩:=af h
   exact .inl ⟨ids,hids,by rw[hcss];exact⟨ro,hd,nS (fun s h=>hq _ _ h) h⟩⟩
  ·exact .inr ⟨h.1,nS (fun s ⟨d,p,h1,h2,h3⟩=>⟨d,p,h1,h2,hq _ _ h3⟩) h.2⟩
 |seq a b iha ihb=>intro Q Q' s hq h;exact iha (fun e s ha=>gX (fun s h=>ihb hq h) hq ha) h
 |join a b iha ihb=>intro Q Q' s hq h;exact iha (fun e s ha=>gX (fun s h=>kg (fun s h=>ihb hq h) h) hq ha) h
 |cond c a b iha ihb=>
  intro Q Q' s hq h;simp only[aw]at h⊢;obtain⟨v,hv,h⟩:=af h;rw[hv]
  cases v<;>try(exact h.elim)
  exact⟨fun e=>iha hq (h.1 e),fun e=>ihb hq (h.2 e)⟩
 |block id c ih=>intro Q Q' s hq h;exact ih (fun e s ha=>B4 hq ha) h
 |loop c ih=>
  intro Q Q' s hq h
  exact kg (fun s ⟨n,h⟩=>⟨n,oD (F:=aw C c) (G:=aw C c) (fun Q Q' s hq h=>ih hq h) hq h⟩) h
 |exit id=>intro Q Q' s hq h;exact hq _ _ h
 |ret=>intro Q Q' s hq h;exact hq _ _ h
 |label l=>intro Q Q' s hq h;exact hq _ _ h
 |goto l=>intro Q Q' s hq h;exact hq _ _ h
 |scope l c r ihc ihr=>
  intro Q Q' s hq h
  refine ihc (fun e s ha=>?_) h
  cases e with
  |goto l'=>
   refine⟨ha.1,ihr (fun e s hb=>?_) ha.2⟩
   cases e<;>first|exact hb|exact hq _ _ hb
  |_=>exact hq _ _ ha
 |yW g ps wr as bd iha ihb=>
  intro Q Q' s hq h;simp only[aw]at h⊢;obtain⟨gv,hgv,xs,h1,h2,F,h3,h4,h5,h6⟩:=af h;rw[hgv]
  refine⟨xs,h1,h2,F,h3,h4,fun i x s' hx hs=>iha (fun e s ha=>?_) (h5 i x s' hx hs),fun s' hs=>hq _ _ (h6 s' hs)⟩
  cases e<;>first|exact ha.elim|exact ihb (fun e s hb=>HN hq hb) ha
def flat(keep:List Nat):Nat->aX->aX×Nat
 |i,.join a b=>
  let p:=flat keep (i+1) a
  let q:=flat keep p.2 b
  (if keep.contains i then .join p.1 q.1 else .seq p.1 q.1,q.2)
 |i,.seq a b=>
  let p:=flat keep i a
  let q:=flat keep p.2 b
  (.seq p.1 q.1,q.2)
 |i,.cond c a b=>
  let p:=flat keep i a
  let q:=flat keep p.2 b
  (.cond c p.1 q.1,q.2)
 |i,.block id c=>(.block id (flat keep i c).1,(flat keep i c).2)
 |i,.yW g ps wr as bd=>
  let p:=flat keep i as
  let q:=flat keep p.2 bd
  (.yW g ps wr p.1 q.1,q.2)
 |i,.loop c=>(.loop (flat keep i c).1,(flat keep i c).2)
 |i,.scope l c r=>
  let p:=flat keep i c
  let q:=flat keep p.2 r
  (.scope l p.1 q.1,q.2)
 |i,c=>(c,i)
theorem ay{keep:List Nat}:∀{c:aX} {i:Nat} {Q:Exit->S->Prop} {s:S},aw C (flat keep i c).1 Q s->aw C c Q s:=by
 intro c
 induction c with
 |join a b iha ihb=>
  intro i Q s h;simp only[flat]at h;split at h
  ·exact iha (gL (fun e s ha=>gX (fun s h=>kg (fun s h=>ihb h) h) (fun _ _ h=>h) ha) h)
  ·exact iha (gL (fun e s ha=>gX (fun s h=>iJ (ihb h)) (fun _ _ h=>h) ha) h)
 |seq a b iha ihb=>intro i Q s h;exact iha (gL (fun e s ha=>gX (fun s h=>ihb h) (fun _ _ h=>h) ha) h)
 |cond c a b iha ihb=>
  intro i Q s h;simp only[flat,aw]at h⊢;obtain⟨v,hv,h⟩:=af h;rw[hv]
  cases v<;>try(exact h.elim)
  exact⟨fun e=>iha (h.1 e),fun e=>ihb (h.2 e)⟩
 |block id c ih=>intro i Q s h;exact ih h
 |scope l c r ihc ihr=>
  intro i Q s h
  refine ihc (gL (fun e s ha=>?_) h)
  cases e with
  |goto l'=>exact⟨ha.1,ihr ha.2⟩
  |_=>exact ha
 |yW g ps wr as bd iha ihb=>
  intro i Q s h;simp only[flat,aw]at h⊢;obtain⟨gv,hgv,xs,h1,h2,F,h3,h4,h5,h6⟩:=af h;rw[hgv]
  refine⟨xs,h1,h2,F,h3,h4,fun i x s' hx hs=>iha (gL (fun e s ha=>?_) (h5 i x s' hx hs)),h6⟩
  cases e<;>first|exact ha.elim|exact ihb ha
 |loop c ih=>
  intro i Q s h
  exact kg (fun s ⟨n,h⟩=>⟨n,oD (F:=aw C (flat keep i c).1) (G:=aw C c) (fun Q Q' s hq h=>gL hq (ih h)) (fun _ _ h=>h) h⟩) h
 |_=>intro i Q s h;exact h
theorem K8{c:aX} {Q:Exit->S->Prop} {α:Type} (hd:α->S) (μ:α->Nat) (I:α->Prop)
  (round:∀x,I x->aw C c (jE (down fun s=>∃y,s=hd y/\I y/\μ y<μ x) Q) (hd x)) {x:α} (hx:I x) {s:S} (h0:Le s (hd x)\/s=hd x):aw C (.loop c) Q s:=by
 have key:∀n x,I x->μ x<n->mN (aw C c) Q n (hd x):=by
  intro n
  induction n with
  |zero=>intro x _ h;omega
  |succ n ih=>
   intro x hx hn;refine gL ?_ (round x hx);intro e s ha
   refine gX ?_ (fun _ _ h=>h) ha
   intro s hd;refine kg ?_ hd
   rintro s ⟨y,rfl,hy,hlt⟩
   exact ih y hy (by omega)
 rcases h0 with h0|rfl
 ·exact qS h0 ⟨μ x+1,key _ x hx (by omega)⟩
 ·exact iJ ⟨μ x+1,key _ x hx (by omega)⟩
end
theorem Td(k:IntKind) (n:Int):jb (.int k n)=.dat (.int k n) none:=rfl
theorem OF(b:Bool):jb (.bool b)=.dat (.bool b) none:=rfl
theorem K9(k:FloatKind) (n:Nat):jb (.float k n)=.dat (.float k n) none:=rfl
theorem Te(s:ByteArray):jb (.str s)=.dat (.str s) none:=rfl
theorem OG:jb .lF=.dat .lF none:=rfl
theorem OH:jb .bI=.dat .bI none:=rfl
theorem VX(xs:List (List AV)):jb (.sl xs)=.dat (.sl xs) none:=rfl
theorem VY(f:Fn) (as bs:List AV):jb (.fn f as bs)=.dat (.fn f as bs) none:=rfl
theorem Tf(cs:List AV):jb (.agg cs)=.dat (.agg cs) none:=rfl
theorem Tg(cs:List AV):jb (.ref cs)=.rp cs:=rfl
theorem La(i:Nat) (a:AV) (r:List AV):slotsOf i (a::r)=(i,jb a)::slotsOf (i+1) r:=rfl
theorem HO(i:Nat):slotsOf i []=[]:=rfl
theorem OI(as:List AV):G4 as=⟨slotsOf 0 as,[],[],4⟩:=rfl
theorem OJ(i k:Nat) (q:IntKind) (n:Int) (r:List (Option AV)):bV i k (some (.int q n)::r)=(i,.dat (.int q n) none)::bV (i+1) k r:=rfl
theorem Lb(i k:Nat) (b:Bool) (r:List (Option AV)):bV i k (some (.bool b)::r)=(i,.dat (.bool b) none)::bV (i+1) k r:=rfl
theorem HP(i k:Nat) (q:FloatKind) (n:Nat) (r:List (Option AV)):bV i k (some (.float q n)::r)=(i,.dat (.float q n) none)::bV (i+1) k r:=rfl
theorem OK(i k:Nat) (b:ByteArray) (r:List (Option AV)):bV i k (some (.str b)::r)=(i,.dat (.str b) none)::bV (i+1) k r:=rfl
theorem Lc(i k:Nat) (r:List (Option AV)):bV i k (some (.lF)::r)=(i,.dat .lF none)::bV (i+1) k r:=rfl
theorem Ld(i k:Nat) (r:List (Option AV)):bV i k (some (.bI)::r)=(i,.dat .bI none)::bV (i+1) k r:=rfl
theorem Th(i k:Nat) (xs:List (List AV)) (r:List (Option AV)):bV i k (some (.sl xs)::r)=(i,.dat (.sl xs) none)::bV (i+1) k r:=rfl
theorem Ti(i k:Nat) (g:Fn) (as bs:List AV) (r:List (Option AV)):bV i k (some (.fn g as bs)::r)=(i,.dat (.fn g as bs) none)::bV (i+1) k r:=rfl
theorem OL(i k:Nat) (cs:List AV) (r:List (Option AV)):bV i k (some (.agg cs)::r)=(i,.dat (.agg cs) none)::bV (i+1) k r:=rfl
theorem OM(i k:Nat) (cs:List AV) (r:List (Option AV)):bV i k (some (.ref cs)::r)=(i,.rp cs)::bV (i+1) k r:=rfl
theorem ON(i k:Nat) (t:Nat) (a:AV) (r:List (Option AV)):bV i k (some (.iface t a)::r)=(i,.dat (.iface t a) none)::bV (i+1) k r:=rfl
theorem OO(i k:Nat) (r:List (Option AV)):bV i k (some (.eH)::r)=(i,.dat .eH none)::bV (i+1) k r:=rfl
theorem OP(i k:Nat) (r:List (Option AV)):bV i k (some (.gR)::r)=(i,.dat .gR none)::bV (i+1) k r:=rfl
theorem Lf(i k:Nat) (r:List (Option AV)):bV i k (some .hole::r)=(i,.pt 0 [(k,0)])::bV (i+1) (k+1) r:=rfl
def FG:=And.intro @OJ (And.intro @Lb (And.intro @HP (And.intro @OK (And.intro @Lc (And.intro @Ld (And.intro @Th (And.intro @Ti (And.intro @OL (And.intro @OM (And.intro @ON (And.intro @OO (And.intro @OP @Lf))))))))))))
theorem FH(i k:Nat) (r:List (Option AV)):bV i k (none::r)=(i,.ptr k 0)::bV (i+1) (k+1) r:=rfl
theorem FI(i k:Nat):bV i k []=[]:=rfl
theorem HQ(k:Nat) (cs:List AV) (css:List (List AV)):qf k (cs::css)=(k,⟨cs,[]⟩)::qf (k+1) css:=rfl
theorem FJ(k:Nat):qf k []=[]:=rfl
theorem Lh(css:List (List AV)) (as:List (Option AV)):nP css as=⟨bV 0 0 as,qf 0 css,[],4⟩:=rfl
theorem OQ(res:List eZ) (r:AV) (s:S):fin res r none .normal s=ah (d5 s res) fun p=>p.1=r:=by simp[fin,C2]
theorem OR(res:List eZ) (r:AV) (s:S):fin res r none .ret s=ah (d5 s res) fun p=>p.1=r:=by simp[fin,C2]
theorem OS(res:List eZ) (r:AV) (e:Nat) (s:S):fin res r (some e) .normal s=ah (d5 s res) fun p=>p.1=r/\C2 (some e) p.2 s.live:=rfl
theorem OT(res:List eZ) (r:AV) (e:Nat) (s:S):fin res r (some e) .ret s=ah (d5 s res) fun p=>p.1=r/\C2 (some e) p.2 s.live:=rfl
theorem VZ(e q:Nat) (lv:List (Nat×Nat)):C2 (some e) (some q) lv=(dU q lv=some e):=rfl
theorem Li(res:List eZ) (r:AV) (css:List (List AV)) (s:S):AG res r none css .normal s=ah (d5 s res) fun p=>p.1=r/\fJ s.boxes 0 css:=by simp[AG,C2]
theorem Lj(res:List eZ) (r:AV) (css:List (List AV)) (s:S):AG res r none css .ret s=ah (d5 s res) fun p=>p.1=r/\fJ s.boxes 0 css:=by simp[AG,C2]
theorem Lk(l:List (Nat×bO)) (k:Nat):fJ l k []=True:=rfl
theorem OU(l:List (Nat×bO)) (k:Nat) (cs:List AV) (css:List (List AV)):fJ l k (cs::css)=(ah (bY k l) (fun x=>x.cells=cs)/\fJ l (k+1) css):=rfl
def Tj:Option SV->Option (AV×Option Nat)
 |some (.dat a q)=>some (a,q)
 |_=>none
theorem OV(a:AV) (q:Option Nat):Tj (some (.dat a q))=some (a,q):=rfl
theorem OW(s:S) (t:Nat):d5 s [.tmp t]=Tj (lk t s.slots):=rfl
def HR(sz:Option Nat) (bx:List (Nat×bO)):Option SV->Option (AV×Option Nat)
 |some (.ptr b off)=>match bY b bx with
  |some x=>match bF x.cells off sz with
   |some a=>some (a,match sz with|none=>dU off x.tags|some _=>none)
   |none=>none
  |none=>none
 |_=>none
def zE(off:Nat) (sz:Option Nat):Option bO->Option (AV×Option Nat)
 |some x=>match bF x.cells off sz with
  |some a=>some (a,match sz with|none=>dU off x.tags|some _=>none)
  |none=>none
 |none=>none
theorem OX(s:S) (t:Nat) (sz:Option Nat):d5 s [.cell t sz]=HR sz s.boxes (lk t s.slots):=rfl
theorem Ll(sz:Option Nat) (bx:List (Nat×bO)) (b off:Nat):HR sz bx (some (.ptr b off))=zE off sz (bY b bx):=by
 simp only[HR,zE]
theorem Lm(off n:Nat) (x:bO):zE off (some n) (some x)=(bF x.cells off (some n)).map fun a=>(a,none):=by
 simp only[zE]<;>cases bF x.cells off (some n)<;>rfl
theorem Lo(off:Nat) (x:bO):zE off none (some x)=(x.cells[off]?).map fun a=>(a,dU off x.tags):=by
 simp only[zE,bF]<;>cases x.cells[off]?<;>rfl
theorem OY(s:S):d5 s []=some (.o7 [],none):=rfl
theorem OZ(s:S) (x y:eZ) (r:List eZ):d5 s (x::y::r)=(mg s (x::y::r)).map fun as=>(.o7 as,none):=rfl
def HS:Option (AV×Option Nat)->Option (List AV)->Option (List AV)
 |some p,some as=>some (p.1::as)
 |_,_=>none
theorem Lp(a:AV) (q:Option Nat) (as:List AV):HS (some (a,q)) (some as)=some (a::as):=rfl
theorem O0(s:S) (x:eZ) (r:List eZ):mg s (x::r)=HS (d5 s [x]) (mg s r):=by
 simp only[mg,HS,d5]<;>cases Ft s x<;>cases mg s r<;>rfl
theorem Lq(s:S):mg s []=some []:=rfl
def W8:=
 And.intro @Td (And.intro @OF (And.intro @K9 (And.intro @Te (And.intro @OG (And.intro @OH (And.intro @VX (And.intro @VY (And.intro @Tf (And.intro @Tg (And.intro @La (And.intro @HO (And.intro @OI (And.intro @FG (And.intro @FH (And.intro @FI (And.intro @HQ (And.intro @FJ (And.intro @Lh (And.intro @OQ (And.intro @OR (And.intro @OS (And.intro @OT (And.intro @VZ (And.intro @Li (And.intro @Lj (And.intro @Lk (And.intro @OU (And.intro @OV (@OW)))))))))))))))))))))))))))))
def W9:=
 And.intro @OX (And.intro @Ll (And.intro @Lm (And.intro @Lo (And.intro @OY (And.intro @OZ (And.intro @Lp (And.intro @O0 (@Lq))))))))
def EW:=
 And.intro @W8 (@W9)
abbrev I (n:Int):AV:=.int .i64 n
abbrev B (b:Bool):AV:=.bool b
abbrev D (n:Nat):AV:=.float .f64 n
def bL(n:Int):Int:=IntKind.i64.wrap n
def aJ{α:Type} (f:α->List AV):Option (List α)->AV
 |none=>.bI
 |some l=>.sl (l.map f)
def aG(n:Int):List AV:=[I n]
structure Ph where
 on:Bool
 min:Int
 B5:Int
 max:Int
 top:Int
 step:Int
 d8:Int
 red:Int
 walk:Int
 ep:Int
 gY:Int
 lock:Bool
 rest:Bool
 deriving Inhabited,DecidableEq
def Ph.cells(p:Ph):List AV:=[B p.on,I p.min,I p.B5,I p.max,I p.top,I p.step,I p.d8,I p.red,I p.walk,I p.ep,I p.gY,B p.lock,B p.rest]
structure gQ where
 phase:Int
 on:Nat
 off:Nat
 delay:Nat
 extend:Nat
 maxOn:Int
 kS:Int
 deriving Inhabited,DecidableEq
def gQ.cells(d:gQ):List AV:=[I d.phase,D d.on,D d.off,D d.delay,D d.extend,I d.maxOn,I d.kS]
structure Rl where
 bars:Int
 clear:Int
 jK:Int
 exit:Int
 delay:Int
 green:Int
 kT:Int
 hold:Int
 stay:Int
 most:Int
 limit:Int
 deriving Inhabited,DecidableEq
def Rl.cells(r:Rl):List AV:=[I r.bars,I r.clear,I r.jK,I r.exit,I r.delay,I r.green,I r.kT,I r.hold,I r.stay,I r.most,I r.limit]
structure Bs where
 set:Int
 lock:Int
 deriving Inhabited,DecidableEq
def Bs.cells(b:Bs):List AV:=[I b.set,I b.lock]
structure Gr where
 a:Option (List Int)
 b:Option (List Int)
 deriving Inhabited,DecidableEq
def Gr.cells(g:Gr):List AV:=[aJ aG g.a,aJ aG g.b]
structure Tb where
 phases:List Ph
 groups:Option (List Gr)
 conflict:List Int
 aI:Option (List gQ)
 aZ:Option (List Rl)
 bS:Option (List Bs)
 extend:Int
 dB:Int
 start:Int
 revert:Int
 least:Int
 bA:List Int
 d9:Int
 share:Int
 deriving Inhabited,DecidableEq
def Tb.cells(t:Tb):List AV:=
 t.phases.flatMap Ph.cells++(aJ Gr.cells t.groups::(t.conflict.map I++(aJ gQ.cells t.aI::aJ Rl.cells t.aZ::aJ Bs.cells t.bS::
  I t.extend::I t.dB::I t.start::I t.revert::I t.least::(t.bA.map I++[I t.d9,I t.share]))))
structure Tb.Ok (t:Tb):Prop where
 phases:t.phases.length=8
 conflict:t.conflict.length=8
 bA:t.bA.length=8
 groups:(t.groups.getD []).length<=1048576
 rows:∀g∈t.groups.getD [],(g.a.getD []).length<=1048576/\(g.b.getD []).length<=1048576
 Xa:(t.aI.getD []).length<=1048576
 aZ:(t.aZ.getD []).length<=1048576
 bS:(t.bS.getD []).length<=1048576
theorem aV{α:Type} {f:α->List AV} {z:Nat} (hf:∀x,(f x).length=z):∀{l:List α},(l.flatMap f).length=l.length*z
 |[]=>by simp
 |x::l=>by simp[List.flatMap_cons,hf,aV hf (l:=l),Nat.add_mul];omega
theorem Ph.len(p:Ph):p.cells.length=13:=rfl
theorem Tb.len{t:Tb} (h:t.Ok):t.cells.length=131:=by
 simp[Tb.cells,aV Ph.len,h.phases,h.conflict,h.bA]
theorem wC{α:Type}:∀{l:List α} {i:Nat} {x:α},l[i]? =some x->l=l.take i++x::l.drop (i+1)
 |[],i,x,h=>by simp at h
 |y::l,0,x,h=>by
  simp at h;subst h;simp
 |y::l,i+1,x,h=>by
  have:=wC (l:=l) (i:=i) (x:=x) (by simpa using h)
  simp only[List.take_succ_cons,List.drop_succ_cons,List.cons_append]
  exact congrArg (y:: ·) this
theorem xT{α:Type} {f:α->List AV} {l:List α} {i:Nat} {x:α} (h:l[i]? =some x):l.flatMap f=(l.take i).flatMap f++(f x++(l.drop (i+1)).flatMap f):=by
 conv=>lhs;rw[wC h]
 rw[List.flatMap_append,List.flatMap_cons]
theorem tV{α:Type} {l:List α} {i:Nat} {x:α} (h:l[i]? =some x):(l.take i).length=i:=by
 have:=(List.getElem?_eq_some_iff.1 h).1
 simp;omega
theorem B6{pre mid post:List AV} {off z:Nat} (h1:pre.length=off) (h2:mid.length=z):bF (pre++(mid++post)) off (some z)=some (.agg mid):=by
 subst h1 h2
 have hle:pre.length+mid.length<=(pre++(mid++post)).length:=by simp
 simp only[bF,hle,if_true,Option.some.injEq,AV.agg.injEq];simp
theorem Lr{pre mid post ps:List AV} {off:Nat} (h1:pre.length=off) (h2:mid.length=ps.length):setCells (pre++(mid++post)) off ps=pre++(ps++post):=by
 subst h1;simp only[setCells];rw[<-h2];simp[List.drop_append]
theorem gu{cs ps:List AV} (h:cs.length=ps.length):setCells cs 0 ps=ps:=by
 simp only[setCells,List.take_zero,List.nil_append,Nat.zero_add,<-h,List.drop_length,List.append_nil]
theorem Tb.xU{t:Tb} {i:Nat} {p:Ph} (h:t.phases[i]? =some p):bF t.cells (i*13) (some 13)=some (.agg p.cells):=by
 unfold Tb.cells;rw[xT h,List.append_assoc,List.append_assoc]
 exact B6 (by rw[aV Ph.len,tV h]) rfl
theorem O1{α:Type} {l:List α} {i:Nat} {x y:α} (h:l[i]? =some x):l.set i y=l.take i++y::l.drop (i+1):=by
 have hlt:=(List.getElem?_eq_some_iff.1 h).1
 rw[List.set_eq_take_append_cons_drop,if_pos hlt]
theorem Tb.FK{t:Tb} {i:Nat} {p q:Ph} (h:t.phases[i]? =some p):setCells t.cells (i*13) q.cells={t with phases:=t.phases.set i q}.cells:=by
 unfold Tb.cells;simp only;rw[O1 h,List.flatMap_append,List.flatMap_cons]
 conv=>lhs;rw[xT h]
 rw[List.append_assoc,List.append_assoc,List.append_assoc,List.append_assoc]
 exact Lr (by rw[aV Ph.len,tV h]) rfl
end Go.Eng
namespace Go.Eng.Z
open Go
def o(d:Nat) (x:bH):CO:=⟨some d,x,none⟩
def p(d:Nat) (x:bH) (g:Nat):CO:=⟨some d,x,some (g,true)⟩
def q(d:Nat) (x:bH) (g:Nat):CO:=⟨some d,x,some (g,false)⟩
def n(x:bH):CO:=⟨none,x,none⟩
def M(d x:Nat):CO:=⟨some d,.mv (.t x),none⟩
def V(d:Nat) (v:AV):CO:=⟨some d,.mv (.k v),none⟩
def m(x:Nat):bH:=.mv (.t x)
def v(x:AV):bH:=.mv (.k x)
def l(x:Nat):bH:=.ld (.t x) none
def L(x z:Nat):bH:=.ld (.t x) (some z)
def f(x z:Nat):bH:=.fa (.t x) z
def s(x y z:Nat):bH:=.st (.t x) (.t y) z
def ss(x:Nat) (y:AV) (z:Nat):bH:=.st (.t x) (.k y) z
def A(x y a b:Nat):bH:=.C1 (.t x) (.t y) a b
def a(x y z:Nat):bH:=.wk (.t x) (.t y) z
def P(x y:Nat):bH:=.pick (.t x) (.t y) (.k (.bool false))
def Q(x y:Nat):bH:=.pick (.t x) (.k (.bool true)) (.t y)
def h(x:Nat):bH:=.jW (.t x)
def w(x:Nat):bH:=.box (.t x)
def b(g:BinOp) (x y:Nat):bH:=.bin g (.t x) (.t y)
def bb(g:BinOp) (x:Nat) (y:AV):bH:=.bin g (.t x) (.k y)
def e(x y:Nat):bH:=.ext (.t x) y
def i(x:Int):AV:=.int .i64 x
def t(x:Nat):bl:=.t x
def k(x:AV):bl:=.k x
def r(x:List CO) (y:aX):aX:=.seq (.zf x) y
def R(x:List CO):aX:=.zf x
def j(x y:aX):aX:=.join x y
def c(x:Nat) (y z:aX):aX:=.cond (.t x) y z
def u(x:Nat) (y:aX):aX:=.block x y
def y:aX:=.ret
def z:aX:=.skip
def T:AV:=.bool true
def F:AV:=.bool false
def H:=
 And.intro @o.eq_1 (And.intro @p.eq_1 (And.intro @q.eq_1 (And.intro @n.eq_1 (And.intro @M.eq_1 (And.intro @V.eq_1 (And.intro @m.eq_1 (And.intro @v.eq_1 (And.intro @l.eq_1 (And.intro @L.eq_1 (And.intro @f.eq_1 (And.intro @s.eq_1 (And.intro @ss.eq_1 (And.intro @A.eq_1 (And.intro @a.eq_1 (And.intro @P.eq_1 (And.intro @Q.eq_1 (And.intro @h.eq_1 (And.intro @w.eq_1 (And.intro @b.eq_1 (And.intro @bb.eq_1 (And.intro @e.eq_1 (And.intro @i.eq_1 (And.intro @t.eq_1 (And.intro @k.eq_1 (And.intro @r.eq_1 (And.intro @R.eq_1 (And.intro @j.eq_1 (And.intro @c.eq_1 (And.intro @u.eq_1 (And.intro @y.eq_1 (And.intro @z.eq_1 (And.intro @T.eq_1 @F.eq_1))))))))))))))))))))))))))))))))
end Go.Eng.Z
