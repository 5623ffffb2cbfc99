/- The engine and the library,part 9 of 21: what the proofs of this seat need of them. -/
import Derived.Test.YtkckiembbiiliaaGreatPk8
set_option linter.unnecessarySimpa false
set_option linter.unusedSimpArgs false
set_option linter.unusedVariables false
set_option linter.defProp false
set_option maxRecDepth 10000
set_option maxHeartbeats 4000000
namespace Go.Eng
open Go
class Kn (α:Type) where
 run:α->Prop
class XR where
 run:SV->List (Nat×Nat)->Prop
def wv{α:Type} (o:Option α) [k:Kn α]:Prop:=aj o k.run
theorem lR{α:Type} (o:Option α) (k:α->Prop):aj o k=@wv α o ⟨k⟩:=rfl
theorem OC{α:Type} (a:α) (k:α->Prop):@wv α (some a) ⟨k⟩=k a:=rfl
theorem OD{α:Type} (k:α->Prop):@wv α none ⟨k⟩=False:=rfl
theorem Sw{α:Type} {o:Option α} {k:α->Prop} (a:α) (h:o=some a) (hk:k a):@wv α o ⟨k⟩:=by subst h;exact hk
def xk(C:bw) (f:Nat) (as:List AV) (id:Nat) (lv:List (Nat×Nat)) (k:SV->List (Nat×Nat)->Prop):Prop:=
 ∃r fr,C.c f as r fr/\k (.dat r (fr.map fun _=>id)) (match fr with|some e=>(id,e)::lv|none=>lv)
def cl(C:bw) (f:Nat) (as:List AV) (id:Nat) (lv:List (Nat×Nat)) [k:XR]:Prop:=xk C f as id lv k.run
theorem mA(C:bw) (f:Nat) (as:List AV) (id:Nat) (lv:List (Nat×Nat)) (k:SV->List (Nat×Nat)->Prop):xk C f as id lv k=@cl C f as id lv ⟨k⟩:=rfl
@[congr] theorem V6 {C:bw} (f:Nat) {as as':List AV} (id:Nat) (lv:List (Nat×Nat)) (k:SV->List (Nat×Nat)->Prop) (h:as=as'):xk C f as id lv k=xk C f as' id lv k:=by rw[h]
theorem ai{C:bw} {f:Nat} {as:List AV} {id:Nat} {lv:List (Nat×Nat)} {k:SV->List (Nat×Nat)->Prop} {r:AV} (h:C.c f as r none) (hk:k (.dat r none) lv):@cl C f as id lv ⟨k⟩:=⟨r,none,h,hk⟩
theorem uU{C:bw} {f:Nat} {as:List AV} {id:Nat} {lv:List (Nat×Nat)} {k:SV->List (Nat×Nat)->Prop} {r:AV} {e:Nat} (h:C.c f as r (some e)) (hk:k (.dat r (some id)) ((id,e)::lv)):@cl C f as id lv ⟨k⟩:=⟨r,some e,h,hk⟩
class XS where
 run:SV->List (Nat×bY)->List (Nat×Nat)->Prop
def yZ(C:bw) (f:Nat) (css:List (List AV)) (as:List (Option AV)) (ids:List Nat) (id:Nat) (bx:List (Nat×bY)) (lv:List (Nat×Nat)) (k:SV->List (Nat×bY)->List (Nat×Nat)->Prop):Prop:=
 ∃r fr css',C.p f css as r fr css'/\k (.dat r (fr.map fun _=>id)) (dz ids css' bx) (match fr with|some e=>(id,e)::lv|none=>lv)
def XA(C:bw) (f:Nat) (css:List (List AV)) (as:List (Option AV)) (ids:List Nat) (id:Nat) (bx:List (Nat×bY)) (lv:List (Nat×Nat)) [k:XS]:Prop:=yZ C f css as ids id bx lv k.run
theorem ig(C:bw) (f:Nat) (css:List (List AV)) (as:List (Option AV)) (ids:List Nat) (id:Nat) (bx:List (Nat×bY)) (lv:List (Nat×Nat)) (k:SV->List (Nat×bY)->List (Nat×Nat)->Prop):yZ C f css as ids id bx lv k=@XA C f css as ids id bx lv ⟨k⟩:=rfl
theorem ay{C:bw} {f:Nat} {css:List (List AV)} {as:List (Option AV)} {ids:List Nat} {id:Nat} {bx:List (Nat×bY)} {lv:List (Nat×Nat)} {k:SV->List (Nat×bY)->List (Nat×Nat)->Prop} {r:AV} {css':List (List AV)} (h:C.p f css as r none css') (hk:k (.dat r none) (dz ids css' bx) lv):@XA C f css as ids id bx lv ⟨k⟩:=⟨r,none,css',h,hk⟩
class XT where
 run:SV->Prop
def BP(C:bw) (f:Nat) (css:List (List AV)) (as:List (Option AV)) (k:SV->Prop):Prop:=∃r,C.p f css as r none css/\k (.dat r none)
def XU(C:bw) (f:Nat) (css:List (List AV)) (as:List (Option AV)) [k:XT]:Prop:=BP C f css as k.run
theorem Sx(C:bw) (f:Nat) (css:List (List AV)) (as:List (Option AV)) (k:SV->Prop):BP C f css as k=@XU C f css as ⟨k⟩:=rfl
def FF(x:Option bY) (y:Option (List (List AV))):Option (List (List AV)):=
 match x,y with
 |some ⟨cs,[]⟩,some css=>some (cs::css)
 |_,_=>none
theorem OE(ro:List Nat) (i:Nat):ny ro i []=[]:=rfl
theorem Sy(ro:List Nat) (i:Nat) (o:CO) (r:List CO):ny ro i (o::r)=(bif ro.contains i then o.ro else o)::ny ro (i+1) r:=rfl
theorem Wn(d:Option Nat) (o:bR) (g:Option (Nat×Bool)):CO.ro ⟨d,o,g⟩=⟨d,o.ro,g⟩:=rfl
theorem Sz(f:Nat) (as:List bE):bR.ro (.aE f as)=.yg f as:=rfl
def CO.pq(o:CO):CO:=match o.op with
 | .aE f args=>⟨o.dst,.sZ f args,o.g⟩
 |_=>o
theorem Wo(d:Option Nat) (f:Nat) (as:List bE) (g:Option (Nat×Bool)):CO.pq ⟨d,.aE f as,g⟩=⟨d,.sZ f as,g⟩:=rfl
theorem Lz(k:Nat) (dep:List Nat) (i:Nat):mq k dep i []=[]:=rfl
theorem OF(k:Nat) (dep:List Nat) (i:Nat) (o:CO) (r:List CO):mq k dep i (o::r)=(bif i==k then o.pq else bif dep.contains i then⟨none,.mv (.k .mh),none⟩else o)::mq k dep (i+1) r:=by
 simp only[mq,vT,CO.pq,cond_eq_ite,beq_iff_eq];rfl
def LA:List CO->List Nat
 |[]=>[]
 |⟨some d,_,_⟩::r=>d::LA r
 |⟨none,_,_⟩::r=>LA r
theorem OG:LA []=[]:=rfl
theorem OH(d:Nat) (o:bR) (g:Option (Nat×Bool)) (r:List CO):LA (⟨some d,o,g⟩::r)=d::LA r:=rfl
theorem OI(o:bR) (g:Option (Nat×Bool)) (r:List CO):LA (⟨none,o,g⟩::r)=LA r:=rfl
theorem Ex:∀{l:List CO},(l.flatMap fun o=>o.dst.toList)=LA l
 |[]=>rfl
 |⟨some d,_,_⟩::r=>by rw[List.flatMap_cons,Ex];rfl
 |⟨none,_,_⟩::r=>by rw[List.flatMap_cons,Ex];rfl
def pD:Nat->List CO->Option Nat
 |0,o::_=>o.dst
 |k+1,_::r=>pD k r
 |_,[]=>none
theorem NY:∀{k:Nat} {l:List CO},(l[k]?).bind CO.dst=pD k l
 |0,[]=>rfl
 |_+1,[]=>rfl
 |0,o::_=>rfl
 |k+1,_::r=>by rw[List.getElem?_cons_succ];exact NY
class XV where
 run:AV->List (List AV)->Prop
def BQ(C:bw) (f:Nat) (css:List (List AV)) (as:List (Option AV)) (k:AV->List (List AV)->Prop):Prop:=∃v css',C.q f css as v css'/\k v css'
def XB(C:bw) (f:Nat) (css:List (List AV)) (as:List (Option AV)) [k:XV]:Prop:=BQ C f css as k.run
theorem SA(C:bw) (f:Nat) (css:List (List AV)) (as:List (Option AV)) (k:AV->List (List AV)->Prop):BQ C f css as k=@XB C f css as ⟨k⟩:=rfl
theorem mW{C:bw} {f:Nat} {css:List (List AV)} {as:List (Option AV)} {k:AV->List (List AV)->Prop} {v:AV} {css':List (List AV)} (h:C.q f css as v css') (hk:k v css'):@XB C f css as ⟨k⟩:=⟨v,css',h,hk⟩
theorem SB(g:bE) (as:List bE):bR.ro (.gL g as)=.ql g as:=rfl
section
variable{C:bw} {Q:Exit->S->Prop} {K:SV->S->Prop} {J:S->Prop}
variable(sl:List (Nat×SV)) (bx:List (Nat×bY)) (lv:List (Nat×Nat)) (nx:Nat)
theorem C8(n m:Nat) (v:SV) (r:List (Nat×SV)):lk n ((m,v)::r)=bif n==m then some v else lk n r:=rfl
theorem xl(n m:Nat) (v:bY) (r:List (Nat×bY)):ct n ((m,v)::r)=bif n==m then some v else ct n r:=rfl
theorem uV(n m:Nat) (v:Nat) (r:List (Nat×Nat)):eK n ((m,v)::r)=bif n==m then some v else eK n r:=rfl
theorem qR(n:Nat):eK n []=none:=rfl
theorem OJ(n m:Nat) (b v:bY) (r:List (Nat×bY)):nW n b ((m,v)::r)=bif n==m then(m,b)::r else(m,v)::nW n b r:=rfl
theorem OK(n m:Nat) (v:Nat) (r:List (Nat×Nat)):mj n ((m,v)::r)=bif n==m then mj n r else(m,v)::mj n r:=rfl
theorem LB(n:Nat):mj n []=[]:=rfl
theorem SC(d:Nat) (v:SV):S.put ⟨sl,bx,lv,nx⟩ (some d) v=⟨(d,v)::sl,bx,lv,nx⟩:=rfl
theorem OL(v:SV):S.put ⟨sl,bx,lv,nx⟩ none v=⟨sl,bx,lv,nx⟩:=rfl
theorem OM(n:Nat):bM ⟨sl,bx,lv,nx⟩ (.t n)=lk n sl:=rfl
theorem ON(v:AV):bM ⟨sl,bx,lv,nx⟩ (.k v)=some (.dat v none):=rfl
def OO:Option SV->Option AV
 |some (.dat a _)=>some a
 |some (.rp cs)=>some (.ref cs)
 |_=>none
theorem LC(cs:List AV):OO (some (.rp cs))=some (.ref cs):=rfl
theorem OP(a:AV) (q:Option Nat):OO (some (.dat a q))=some a:=rfl
theorem LD(n:Nat):aQ ⟨sl,bx,lv,nx⟩ (.t n)=OO (lk n sl):=rfl
theorem LF(v:AV):aQ ⟨sl,bx,lv,nx⟩ (.k v)=some v:=rfl
def NZ:Option AV->Option (List AV)->Option (List AV)
 |some a,some as=>some (a::as)
 |_,_=>none
theorem LG(a:AV) (as:List AV):NZ (some a) (some as)=some (a::as):=rfl
theorem LH(x:bE) (r:List bE):dL ⟨sl,bx,lv,nx⟩ (x::r)=NZ (aQ ⟨sl,bx,lv,nx⟩ x) (dL ⟨sl,bx,lv,nx⟩ r):=rfl
theorem Im:dL ⟨sl,bx,lv,nx⟩ []=some []:=rfl
theorem LI(b i:Nat):jh C b i [] J ⟨sl,bx,lv,nx⟩=J ⟨sl,bx,lv,nx⟩:=rfl
theorem OQ(b i:Nat) (d:Option Nat) (o:bR) (r:List CO):jh C b i (⟨d,o,none⟩::r) J ⟨sl,bx,lv,nx⟩=bN C (b+i) o (fun v s'=>jh C b (i+1) r J (s'.put d v)) ⟨sl,bx,lv,nx⟩:=rfl
def lS(want:Bool) (yes no:Prop):Option SV->Prop
 |some (.dat (.bool b) _)=>(b=want->yes)/\(b=!want->no)
 |some .undef=>no
 |_=>False
theorem LJ(b i t:Nat) (w:Bool) (d:Option Nat) (o:bR) (r:List CO):jh C b i (⟨d,o,some (t,w)⟩::r) J ⟨sl,bx,lv,nx⟩=
  lS w (bN C (b+i) o (fun v s'=>jh C b (i+1) r J (s'.put d v)) ⟨sl,bx,lv,nx⟩) (jh C b (i+1) r J (S.put ⟨sl,bx,lv,nx⟩ d .undef)) (lk t sl):=by
 simp only[jh,eA,lS]
 cases lk t sl with
 |none=>rfl
 |some v=>cases v with
  |dat a q=>cases a<;>rfl
  |ptr=>rfl
  |rp=>rfl
  |undef=>rfl
  |vs=>rfl
  |nD=>rfl
  |raw=>rfl
  |pt=>rfl
class KP where
 yes:Prop
 no:Prop
def gd(w:Bool) (v:Option SV) [k:KP]:Prop:=lS w k.yes k.no v
theorem mB(w:Bool) (yes no:Prop) (v:Option SV):lS w yes no v=@gd w v ⟨yes,no⟩:=rfl
theorem Io(w:Bool) (yes no:Prop):@gd w (some .undef) ⟨yes,no⟩=no:=rfl
theorem Ip(yes no:Prop) (q:Option Nat):@gd true (some (.dat (.bool true) q)) ⟨yes,no⟩=yes:=by simp[gd,lS]
theorem GA(yes no:Prop) (q:Option Nat):@gd true (some (.dat (.bool false) q)) ⟨yes,no⟩=no:=by simp[gd,lS]
theorem Iq(yes no:Prop) (q:Option Nat):@gd false (some (.dat (.bool false) q)) ⟨yes,no⟩=yes:=by simp[gd,lS]
theorem GB(yes no:Prop) (q:Option Nat):@gd false (some (.dat (.bool true) q)) ⟨yes,no⟩=no:=by simp[gd,lS]
theorem Wp(id:Nat) (x:bE):bN C id (.mv x) K ⟨sl,bx,lv,nx⟩=aj (bM ⟨sl,bx,lv,nx⟩ x) fun v=>K v ⟨sl,bx,lv,nx⟩:=rfl
def y4(a b:Option SV) (k:SV->Prop):AV->Prop
 | .bool t=>aj a fun u=>aj b fun v=>(t=true->k u)/\(t=false->k v)
 |_=>False
theorem OR(id:Nat) (c a b:bE):bN C id (.pick c a b) K ⟨sl,bx,lv,nx⟩=aj (aQ ⟨sl,bx,lv,nx⟩ c) (y4 (bM ⟨sl,bx,lv,nx⟩ a) (bM ⟨sl,bx,lv,nx⟩ b) fun v=>K v ⟨sl,bx,lv,nx⟩):=rfl
def pk(a b:Option SV) (c:AV) [k:Kn SV]:Prop:=y4 a b k.run c
theorem mC(a b:Option SV) (k:SV->Prop) (c:AV):y4 a b k c=@pk a b c ⟨k⟩:=rfl
theorem LK(k:SV->Prop) (b:Option SV) (v:SV):@pk (some v) b (.bool true) ⟨k⟩=aj b fun _=>k v:=by simp[pk,y4]
theorem LL(k:SV->Prop) (a:Option SV) (v:SV):@pk a (some v) (.bool false) ⟨k⟩=aj a fun _=>k v:=by
 cases a<;>simp[pk,y4]
theorem LM(id:Nat) (cs:List AV):bN C id (.alloc cs) K ⟨sl,bx,lv,nx⟩=K (.ptr id 0) ⟨sl,(id,⟨cs,[]⟩)::bx,lv,nx⟩:=rfl
theorem SD(id:Nat) (x:bE):bN C id (.box x) K ⟨sl,bx,lv,nx⟩=aj (aQ ⟨sl,bx,lv,nx⟩ x) fun a=>jq a none=true/\K (.ptr id 0) ⟨sl,(id,⟨a.cells,[]⟩)::bx,lv,nx⟩:=rfl
def RU(sz:Option Nat) (bx:List (Nat×bY)) (k:SV->Prop):SV->Prop
 | .ptr b off=>aj (ct b bx) fun x=>aj (bF x.cells off sz) fun a=>k (.dat a (match sz with|none=>eK off x.tags|some _=>none))
 | .rp cs=>aj (bF cs 0 sz) fun a=>k (.dat a none)
 |_=>False
theorem Wq(id:Nat) (x:bE) (sz:Option Nat):bN C id (.ld x sz) K ⟨sl,bx,lv,nx⟩=aj (bM ⟨sl,bx,lv,nx⟩ x) (RU sz bx fun v=>K v ⟨sl,bx,lv,nx⟩):=rfl
theorem OS(k:SV->Prop) (b off:Nat):RU none bx k (.ptr b off)=aj (ct b bx) fun x=>aj (bF x.cells off none) fun a=>k (.dat a (eK off x.tags)):=rfl
theorem OT(k:SV->Prop) (b off n:Nat):RU (some n) bx k (.ptr b off)=aj (ct b bx) fun x=>aj (bF x.cells off (some n)) fun a=>k (.dat a none):=rfl
theorem SE(k:SV->Prop) (sz:Option Nat) (cs:List AV):RU sz bx k (.rp cs)=aj (bF cs 0 sz) fun a=>k (.dat a none):=rfl
def gx(off sz:Nat) (q:Option Nat) (tags:List (Nat×Nat)):List (Nat×Nat):=
 match q with
 |some q=>(off,q)::tags.filter (fun p=>p.1<off||off+sz<=p.1)
 |none=>tags.filter (fun p=>p.1<off||off+sz<=p.1)
def SF(sz off:Nat) (x:bY) (k:bY->Prop):SV->Prop
 | .dat a q=>jq a q=true/\a.cells.length=sz/\off+sz<=x.cells.length/\k ⟨setCells x.cells off a.cells,gx off sz q x.tags⟩
 |_=>False
def V7(sz:Nat) (bx:List (Nat×bY)) (v:Option SV) (k:List (Nat×bY)->Prop):SV->Prop
 | .ptr b off=>aj (ct b bx) fun x=>aj v (SF sz off x fun y=>k (nW b y bx))
 |_=>False
theorem Ws(id:Nat) (x v:bE) (sz:Nat):bN C id (.st x v sz) K ⟨sl,bx,lv,nx⟩=aj (bM ⟨sl,bx,lv,nx⟩ x) (V7 sz bx (bM ⟨sl,bx,lv,nx⟩ v) fun b=>K .undef ⟨sl,b,lv,nx⟩):=by
 show aj _ _=aj _ _
 cases hx:bM ⟨sl,bx,lv,nx⟩ x with
 |none=>rfl
 |some p=>cases p with
  |ptr b off=>
   show aj _ _=aj _ _
   cases hb:ct b bx with
   |none=>rfl
   |some y=>
    show aj _ _=aj _ _
    cases hv:bM ⟨sl,bx,lv,nx⟩ v with
    |none=>rfl
    |some u=>cases u with
     |dat a q=>cases q<;>rfl
     |_=>rfl
  |_=>rfl
theorem SG(sz b off:Nat) (v:Option SV) (k:List (Nat×bY)->Prop):V7 sz bx v k (.ptr b off)=aj (ct b bx) fun x=>aj v (SF sz off x fun y=>k (nW b y bx)):=rfl
theorem SH(sz off:Nat) (cs:List AV) (tg:List (Nat×Nat)) (k:bY->Prop) (a:AV) (q:Option Nat):SF sz off ⟨cs,tg⟩ k (.dat a q)=(jq a q=true/\a.cells.length=sz/\off+sz<=cs.length/\k ⟨setCells cs off a.cells,gx off sz q tg⟩):=rfl
theorem LN(off sz:Nat):gx off sz none []=[]:=rfl
theorem LO(off sz q:Nat):gx off sz (some q) []=[(off,q)]:=rfl
def RZ(off:Nat) (k:SV->Prop):SV->Prop
 | .ptr b o=>k (.ptr b (o+off))
 | .rp cs=>k (.rp (cs.drop off))
 | .pt 2 ps=>k (.pt 2 (ps.drop off))
 |_=>False
theorem Wt(id:Nat) (x:bE) (off:Nat):bN C id (.fa x off) K ⟨sl,bx,lv,nx⟩=aj (bM ⟨sl,bx,lv,nx⟩ x) (RZ off fun v=>K v ⟨sl,bx,lv,nx⟩):=rfl
theorem SI(k:SV->Prop) (b o off:Nat):RZ off k (.ptr b o)=k (.ptr b (o+off)):=rfl
theorem SJ(k:SV->Prop) (cs:List AV) (off:Nat):RZ off k (.rp cs)=k (.rp (cs.drop off)):=rfl
def SK(d:Nat) (k:SV->Prop):SV->Prop
 | .ptr b o=>k (.ptr b (o+d))
 | .rp cs=>k (.rp (cs.drop d))
 |_=>False
theorem SL(id:Nat) (x i:bE) (n z:Nat):bN C id (.Aw x i n z) K ⟨sl,bx,lv,nx⟩=aj (bM ⟨sl,bx,lv,nx⟩ x) fun p=>aj (aQ ⟨sl,bx,lv,nx⟩ i) fun a=>aj (idxOf a) fun i=>(0<=i/\i<n)/\SK (i.toNat*z) (fun v=>K v ⟨sl,bx,lv,nx⟩) p:=rfl
theorem SM(k:SV->Prop) (b o d:Nat):SK d k (.ptr b o)=k (.ptr b (o+d)):=rfl
theorem SN(k:SV->Prop) (cs:List AV) (d:Nat):SK d k (.rp cs)=k (.rp (cs.drop d)):=rfl
theorem SO(k:IntKind) (i:Int):idxOf (.int k i)=some i:=rfl
def Ir(ia:Option AV) (z:Nat) (k:SV->Prop):SV->Prop
 | .dat l _=>aj ia fun a=>aj (idxOf a) fun i=>aj (rowsOf l) fun xs=>(0<=i/\i<xs.length)/\aj (xs[i.toNat]?) fun row=>row.length=z/\k (.rp row)
 | .vs b off n z'=>aj ia fun a=>aj (idxOf a) fun i=>(0<=i/\i<n)/\z'=z/\k (.ptr b (off+i.toNat*z))
 |_=>False
theorem SP(id:Nat) (x i:bE) (z:Nat):bN C id (.CC x i z) K ⟨sl,bx,lv,nx⟩=aj (bM ⟨sl,bx,lv,nx⟩ x) (Ir (aQ ⟨sl,bx,lv,nx⟩ i) z fun v=>K v ⟨sl,bx,lv,nx⟩):=by
 show aj _ _=aj _ _
 cases bM ⟨sl,bx,lv,nx⟩ x with
 |none=>rfl
 |some v=>cases v<;>rfl
theorem OU(ia:Option AV) (z:Nat) (k:SV->Prop) (l:AV) (q:Option Nat):Ir ia z k (.dat l q)=aj ia fun a=>aj (idxOf a) fun i=>aj (rowsOf l) fun xs=>(0<=i/\i<xs.length)/\aj (xs[i.toNat]?) fun row=>row.length=z/\k (.rp row):=rfl
theorem OV(ia:Option AV) (z:Nat) (k:SV->Prop) (b off n z':Nat):Ir ia z k (.vs b off n z')=aj ia fun a=>aj (idxOf a) fun i=>(0<=i/\i<n)/\z'=z/\k (.ptr b (off+i.toNat*z)):=rfl
@[congr] theorem Wu {ia ia':Option AV} (z:Nat) (k:SV->Prop) {v v':SV} (h:ia=ia') (hv:v=v'):Ir ia z k v=Ir ia' z k v':=by rw[h,hv]
theorem OW(xs:List (List AV)):rowsOf (.sl xs)=some xs:=rfl
theorem LP:rowsOf .bL=some []:=rfl
def Ey(k:List AV->Prop):AV->Prop
 | .agg cs=>k cs
 |_=>False
theorem SQ(k:List AV->Prop) (cs:List AV):Ey k (.agg cs)=k cs:=rfl
theorem SR(id:Nat) (x:bE) (off:Nat) (sz:Option Nat):bN C id (.Sk x off sz) K ⟨sl,bx,lv,nx⟩=aj (aQ ⟨sl,bx,lv,nx⟩ x) (Ey fun cs=>aj (bF cs off sz) fun a=>K (.dat a none) ⟨sl,bx,lv,nx⟩):=rfl
theorem SS(id:Nat) (x i:bE) (n z:Nat) (sz:Option Nat):bN C id (.KY x i n z sz) K ⟨sl,bx,lv,nx⟩=aj (aQ ⟨sl,bx,lv,nx⟩ x) (Ey fun cs=>aj (aQ ⟨sl,bx,lv,nx⟩ i) fun a=>aj (idxOf a) fun i=>(0<=i/\i<n)/\aj (bF cs (i.toNat*z) sz) fun a=>K (.dat a none) ⟨sl,bx,lv,nx⟩):=rfl
theorem SU(id:Nat) (op:BinOp) (x y:bE):bN C id (.bin op x y) K ⟨sl,bx,lv,nx⟩=aj (aQ ⟨sl,bx,lv,nx⟩ x) fun a=>aj (aQ ⟨sl,bx,lv,nx⟩ y) fun b=>aj (ez op a b) fun v=>K (.dat v none) ⟨sl,bx,lv,nx⟩:=rfl
theorem SW(id:Nat) (ks:List CK) (neg:Bool) (x y:bE):bN C id (.eqc ks neg x y) K ⟨sl,bx,lv,nx⟩=aj (aQ ⟨sl,bx,lv,nx⟩ x) (Ey fun as=>aj (aQ ⟨sl,bx,lv,nx⟩ y) (Ey fun bs=>aj (bt ks as bs) fun e=>K (.dat (.bool (e !=neg)) none) ⟨sl,bx,lv,nx⟩)):=rfl
theorem Wv(id:Nat) (neg:Bool) (x y:bE):bN C id (.bb neg x y) K ⟨sl,bx,lv,nx⟩=aj (aQ ⟨sl,bx,lv,nx⟩ x) fun a=>aj (aQ ⟨sl,bx,lv,nx⟩ y) fun b=>aj (RQ neg a b) fun v=>K (.dat v none) ⟨sl,bx,lv,nx⟩:=rfl
theorem Ww(id:Nat) (op:UnOp) (x:bE):bN C id (.un op x) K ⟨sl,bx,lv,nx⟩=aj (aQ ⟨sl,bx,lv,nx⟩ x) fun a=>aj (Og op a) fun v=>K (.dat v none) ⟨sl,bx,lv,nx⟩:=rfl
theorem OX(id:Nat) (k:IntKind) (x:bE):bN C id (.j4 k x) K ⟨sl,bx,lv,nx⟩=aj (aQ ⟨sl,bx,lv,nx⟩ x) fun a=>aj (Az k a) fun v=>K (.dat v none) ⟨sl,bx,lv,nx⟩:=rfl
theorem OY(id:Nat) (k:FloatKind) (x:bE):bN C id (.Ak k x) K ⟨sl,bx,lv,nx⟩=aj (aQ ⟨sl,bx,lv,nx⟩ x) fun a=>aj (yj k a) fun v=>K (.dat v none) ⟨sl,bx,lv,nx⟩:=rfl
theorem OZ(id:Nat) (k:IntKind) (x:bE):bN C id (.Bp k x) K ⟨sl,bx,lv,nx⟩=aj (aQ ⟨sl,bx,lv,nx⟩ x) fun a=>aj (uC k a) fun v=>K (.dat v none) ⟨sl,bx,lv,nx⟩:=rfl
def Is(k:SV->Prop):SV->Prop
 | .dat a _=>aj (By a) fun v=>k (.dat v none)
 | .vs _ _ n _=>k (.dat (.int .i64 n) none)
 |_=>False
theorem O0(id:Nat) (x:bE):bN C id (.uB x) K ⟨sl,bx,lv,nx⟩=aj (bM ⟨sl,bx,lv,nx⟩ x) (Is fun v=>K v ⟨sl,bx,lv,nx⟩):=by
 show aj _ _=aj _ _
 cases bM ⟨sl,bx,lv,nx⟩ x with
 |none=>rfl
 |some v=>cases v<;>rfl
theorem LQ(k:SV->Prop) (a:AV) (q:Option Nat):Is k (.dat a q)=aj (By a) fun v=>k (.dat v none):=rfl
theorem LR(k:SV->Prop) (b o n z:Nat):Is k (.vs b o n z)=k (.dat (.int .i64 n) none):=rfl
@[congr] theorem Wx (k:SV->Prop) {v v':SV} (hv:v=v'):Is k v=Is k v':=by rw[hv]
theorem Wy(id:Nat) (e:Xt) (x:bE):bN C id (.xt e x) K ⟨sl,bx,lv,nx⟩=aj (aQ ⟨sl,bx,lv,nx⟩ x) fun a=>aj (RR e a) fun v=>K (.dat v none) ⟨sl,bx,lv,nx⟩:=rfl
theorem Wz(b:Nat):RR .yf (.float .f64 b)=some (.int .u64 b):=rfl
theorem WA(n:Int):RR .ffrom (.int .u64 n)=some (.float .f64 n.toNat):=rfl
theorem WB(b:Nat):RR .rte (.float .f64 b)=Bx b:=rfl
def O1(n z:Nat) (s:S) (k:SV->S->Prop):SV->Prop
 | .rp cs=>n*z<=cs.length/\k (.dat (.sl (bZ z n cs)) none) s
 | .ptr b off=>4<=b/\aj (ct b s.boxes) fun bx=>n*z<=(bx.cells.drop off).length/\k (.dat (.sl (bZ z n (bx.cells.drop off))) none) (gM [b] [bx.cells] s)
 |_=>False
theorem SX(id:Nat) (x:bE) (n z:Nat):bN C id (.Ed x n z) K ⟨sl,bx,lv,nx⟩=aj (bM ⟨sl,bx,lv,nx⟩ x) (O1 n z ⟨sl,bx,lv,nx⟩ K):=by
 show aj _ _=aj _ _
 cases bM ⟨sl,bx,lv,nx⟩ x with
 |none=>rfl
 |some v=>cases v<;>rfl
theorem O2(n z:Nat) (s:S) (k:SV->S->Prop) (cs:List AV):O1 n z s k (.rp cs)=(n*z<=cs.length/\k (.dat (.sl (bZ z n cs)) none) s):=rfl
theorem O3(n z:Nat) (k:SV->S->Prop) (b off:Nat):O1 n z ⟨sl,bx,lv,nx⟩ k (.ptr b off)=(4<=b/\aj (ct b bx) fun y=>n*z<=(y.cells.drop off).length/\k (.dat (.sl (bZ z n (y.cells.drop off))) none) (gM [b] [y.cells] ⟨sl,bx,lv,nx⟩)):=rfl
def SY(s:S) (i:bE) (k:AV->Prop):AV->Prop
 | .str b=>aj (aQ s i) fun a=>aj (idxOf a) fun j=>aj (Fa b j) k
 |_=>False
theorem SZ(id:Nat) (x i:bE):bN C id (.Sl x i) K ⟨sl,bx,lv,nx⟩=aj (aQ ⟨sl,bx,lv,nx⟩ x) (SY ⟨sl,bx,lv,nx⟩ i fun v=>K (.dat v none) ⟨sl,bx,lv,nx⟩):=by
 show aj _ _=aj _ _
 cases aQ ⟨sl,bx,lv,nx⟩ x with
 |none=>rfl
 |some v=>cases v<;>rfl
theorem O4(s:S) (i:bE) (k:AV->Prop) (b:ByteArray):SY s i k (.str b)=aj (aQ s i) fun a=>aj (idxOf a) fun j=>aj (Fa b j) k:=rfl
theorem O5(id n:Nat):bN C id (.HE n) K ⟨sl,bx,lv,nx⟩=K (.dat (.int .i64 n) none) ⟨sl,bx,lv,nx⟩:=rfl
theorem O6(id f:Nat) (args:List bE):bN C id (.call f args) K ⟨sl,bx,lv,nx⟩=aj (dL ⟨sl,bx,lv,nx⟩ args) fun as=>xk C f as id lv fun v l=>K v ⟨sl,bx,l,nx⟩:=rfl
def BR(C:bw) (id:Nat) (lv:List (Nat×Nat)) (as:List AV) (k:SV->List (Nat×Nat)->Prop):AV->Prop
 | .fn (.func f) first caps=>xk C f (first++as++caps) id lv k
 |_=>False
@[congr] theorem Ta (id:Nat) (lv:List (Nat×Nat)) (as:List AV) (k:SV->List (Nat×Nat)->Prop) {v v':AV} (h:v=v'):BR C id lv as k v=BR C id lv as k v':=by rw[h]
def AS(h:Bool):Option SV->Option (List (Option AV)×List Nat)->Option (List (Option AV)×List Nat)
 |some (.dat a _),some p=>some (some a::p.1,p.2)
 |some (.rp cs),some p=>some (some (.ref cs)::p.1,p.2)
 |some (.ptr b 0),some p=>some (none::p.1,b::p.2)
 |some (.pt 0 [(b,0)]),some p=>bif h then some (some .hole::p.1,b::p.2)else none
 |_,_=>none
theorem It(h:Bool) (a:AV) (q:Option Nat) (p:List (Option AV)×List Nat):AS h (some (.dat a q)) (some p)=some (some a::p.1,p.2):=rfl
theorem Iu(h:Bool) (cs:List AV) (p:List (Option AV)×List Nat):AS h (some (.rp cs)) (some p)=some (some (.ref cs)::p.1,p.2):=rfl
theorem Iv(h:Bool) (b:Nat) (p:List (Option AV)×List Nat):AS h (some (.ptr b 0)) (some p)=some (none::p.1,b::p.2):=rfl
theorem O7(h:Bool):dB h ⟨sl,bx,lv,nx⟩ []=some ([],[]):=rfl
theorem Tc(h:Bool) (x:bE) (r:List bE):dB h ⟨sl,bx,lv,nx⟩ (x::r)=AS h (bM ⟨sl,bx,lv,nx⟩ x) (dB h ⟨sl,bx,lv,nx⟩ r):=by
 rw[dB];unfold AS
 cases bM ⟨sl,bx,lv,nx⟩ x with
 |none=>rfl
 |some v=>
  cases dB h ⟨sl,bx,lv,nx⟩ r with
  |none=>cases v with
   |ptr b o=>cases o<;>rfl
   |pt k ps=>match k,ps with
    |0,[(b,0)]=>rfl
    |0,[(b,o+1)]=>rfl
    |0,[]=>rfl
    |0,(_,0)::_::_=>rfl
    |0,(_,o+1)::_::_=>rfl
    |k+1,_=>rfl
   |_=>rfl
  |some p=>
   obtain⟨as,bs⟩:=p
   cases v with
   |ptr b o=>cases o<;>rfl
   |pt k ps=>match k,ps with
    |0,[(b,0)]=>rfl
    |0,[(b,o+1)]=>rfl
    |0,[]=>rfl
    |0,(_,0)::_::_=>rfl
    |0,(_,o+1)::_::_=>rfl
    |k+1,_=>rfl
   |_=>rfl
theorem Iw:bh bx []=some []:=rfl
def N0:Option bY->Option (List (List AV))->Option (List (List AV))
 |some x,some css=>some (x.cells::css)
 |_,_=>none
theorem LS(x:bY) (css:List (List AV)):N0 (some x) (some css)=some (x.cells::css):=rfl
theorem LU(b:Nat) (bs:List Nat):bh bx (b::bs)=N0 (ct b bx) (bh bx bs):=rfl
theorem Iy:cY []=true:=rfl
theorem LV(b:Nat) (bs:List Nat):cY (b::bs)=(!bs.contains b&&cY bs):=rfl
theorem LW(b:Nat) (bs:List Nat) (cs:List AV) (css:List (List AV)):dz (b::bs) (cs::css) bx=dz bs css (nW b ⟨cs,[]⟩ bx):=rfl
theorem GC:d9 bx []=some []:=rfl
theorem Iz(b:Nat) (bs:List Nat):d9 bx (b::bs)=FF (ct b bx) (d9 bx bs):=rfl
theorem GD(cs:List AV) (css:List (List AV)):FF (some ⟨cs,[]⟩) (some css)=some (cs::css):=rfl
theorem IA(css:List (List AV)):dz [] css bx=bx:=rfl
def BS(C:bw) (f id:Nat) (bx:List (Nat×bY)) (lv:List (Nat×Nat)) (k:SV->List (Nat×bY)->List (Nat×Nat)->Prop) (p:List (Option AV)×List Nat):Prop:=
 cY p.2=true/\aj (bh bx p.2) fun css=>yZ C f css p.1 p.2 id bx lv k
theorem IB(f id:Nat) (as:List (Option AV)) (ids:List Nat) (k:SV->List (Nat×bY)->List (Nat×Nat)->Prop):BS C f id bx lv k (as,ids)=(cY ids=true/\aj (bh bx ids) fun css=>yZ C f css as ids id bx lv k):=rfl
def IC(C:bw) (f:Nat) (bx:List (Nat×bY)) (k:SV->List (Nat×bY)->Prop) (p:List (Option AV)×List Nat):Prop:=
 cY p.2=true/\aj (bh bx p.2) fun css=>BQ C f css p.1 fun v css'=>k (.dat v none) (dz p.2 css' bx)
theorem ID(f:Nat) (as:List (Option AV)) (ids:List Nat) (k:SV->List (Nat×bY)->Prop):IC C f bx k (as,ids)=(cY ids=true/\aj (bh bx ids) fun css=>BQ C f css as fun v css'=>k (.dat v none) (dz ids css' bx)):=rfl
theorem LY(id f:Nat) (args:List bE):bN C id (.sZ f args) K ⟨sl,bx,lv,nx⟩=aj (dB true ⟨sl,bx,lv,nx⟩ args) (IC C f bx fun v b=>K v ⟨sl,b,lv,nx⟩):=rfl
theorem LZ(id f:Nat) (args:List bE):bN C id (.aE f args) K ⟨sl,bx,lv,nx⟩=aj (dB true ⟨sl,bx,lv,nx⟩ args) (BS C f id bx lv fun v b l=>K v ⟨sl,b,l,nx⟩):=rfl
theorem L0(id:Nat) (g:bE) (args:List bE):bN C id (.fc g args) K ⟨sl,bx,lv,nx⟩=aj (aQ ⟨sl,bx,lv,nx⟩ g) fun a=>aj (dL ⟨sl,bx,lv,nx⟩ args) fun as=>BR C id lv as (fun v l=>K v ⟨sl,bx,l,nx⟩) a:=by
 show aj _ _=aj _ _
 cases hx:aQ ⟨sl,bx,lv,nx⟩ g with
 |none=>rfl
 |some a=>
  show(match a with| .fn (.func f) first caps=>_|_=>False)=_
  cases hy:dL ⟨sl,bx,lv,nx⟩ args with
  |none=>cases a<;>first|rfl|(rename_i f _ _;cases f<;>rfl)
  |some as=>cases a<;>first|rfl|(rename_i f _ _;cases f<;>rfl)
theorem IE(id f:Nat) (as first caps:List AV) (k:SV->List (Nat×Nat)->Prop):BR C id lv as k (.fn (.func f) first caps)=xk C f (first++as++caps) id lv k:=rfl
def xU(C:bw) (id:Nat) (bx:List (Nat×bY)) (lv:List (Nat×Nat)) (p:List (Option AV)×List Nat) (k:SV->List (Nat×bY)->List (Nat×Nat)->Prop):AV->Prop
 | .fn (.func f) [] []=>BS C f id bx lv k p
 |_=>False
@[congr] theorem R5 (id:Nat) (bx:List (Nat×bY)) (lv:List (Nat×Nat)) {p p':List (Option AV)×List Nat} (k:SV->List (Nat×bY)->List (Nat×Nat)->Prop) {v v':AV} (h1:p=p') (h:v=v'):xU C id bx lv p k v=xU C id bx lv p' k v':=by rw[h,h1]
theorem IF(id:Nat) (g:bE) (args:List bE):bN C id (.gL g args) K ⟨sl,bx,lv,nx⟩=aj (aQ ⟨sl,bx,lv,nx⟩ g) fun a=>aj (dB true ⟨sl,bx,lv,nx⟩ args) fun p=>xU C id bx lv p (fun v b l=>K v ⟨sl,b,l,nx⟩) a:=by
 show aj _ _=aj _ _
 cases hx:aQ ⟨sl,bx,lv,nx⟩ g with
 |none=>rfl
 |some a=>
  show(match a with| .fn (.func f) [] []=>_|_=>False)=_
  cases hy:dB true ⟨sl,bx,lv,nx⟩ args with
  |none=>cases a<;>first|rfl|(rename_i f x y;cases f<;>first|rfl|(cases x<;>first|rfl|(cases y<;>rfl)))
  |some as=>cases a<;>first|rfl|(rename_i f x y;cases f<;>first|rfl|(cases x<;>first|rfl|(cases y<;>rfl)))
def BT(C:bw) (f:Nat) (bx:List (Nat×bY)) (k:SV->Prop) (p:List (Option AV)×List Nat):Prop:=
 cY p.2=true/\aj (d9 bx p.2) fun css=>BP C f css p.1 k
theorem L1(id f:Nat) (args:List bE):bN C id (.yg f args) K ⟨sl,bx,lv,nx⟩=aj (dB true ⟨sl,bx,lv,nx⟩ args) (BT C f bx fun v=>K v ⟨sl,bx,lv,nx⟩):=rfl
theorem IG(f:Nat) (as:List (Option AV)) (ids:List Nat) (k:SV->Prop):BT C f bx k (as,ids)=(cY ids=true/\aj (d9 bx ids) fun css=>BP C f css as k):=rfl
def xV(C:bw) (bx:List (Nat×bY)) (p:List (Option AV)×List Nat) (k:SV->Prop):AV->Prop
 | .fn (.func f) [] []=>BT C f bx k p
 |_=>False
@[congr] theorem R6 (bx:List (Nat×bY)) {p p':List (Option AV)×List Nat} (k:SV->Prop) {v v':AV} (h1:p=p') (h:v=v'):xV C bx p k v=xV C bx p' k v':=by rw[h,h1]
theorem II(id:Nat) (g:bE) (args:List bE):bN C id (.ql g args) K ⟨sl,bx,lv,nx⟩=aj (aQ ⟨sl,bx,lv,nx⟩ g) fun a=>aj (dB true ⟨sl,bx,lv,nx⟩ args) fun p=>xV C bx p (fun v=>K v ⟨sl,bx,lv,nx⟩) a:=by
 show aj _ _=aj _ _
 cases hx:aQ ⟨sl,bx,lv,nx⟩ g with
 |none=>rfl
 |some a=>
  show(match a with| .fn (.func f) [] []=>_|_=>False)=_
  cases hy:dB true ⟨sl,bx,lv,nx⟩ args with
  |none=>cases a<;>first|rfl|(rename_i f x y;cases f<;>first|rfl|(cases x<;>first|rfl|(cases y<;>rfl)))
  |some as=>cases a<;>first|rfl|(rename_i f x y;cases f<;>first|rfl|(cases x<;>first|rfl|(cases y<;>rfl)))
theorem GF(f:Nat) (p:List (Option AV)×List Nat) (k:SV->Prop):xV C bx p k (.fn (.func f) [] [])=BT C f bx k p:=rfl
theorem GG(id f:Nat) (p:List (Option AV)×List Nat) (k:SV->List (Nat×bY)->List (Nat×Nat)->Prop):xU C id bx lv p k (.fn (.func f) [] [])=BS C f id bx lv k p:=rfl
theorem Td(id:Nat) (neg:Bool) (x:bE):bN C id (.NN neg x) K ⟨sl,bx,lv,nx⟩=aj (aQ ⟨sl,bx,lv,nx⟩ x) fun a=>aj (CE neg a) fun v=>K (.dat (.bool v) none) ⟨sl,bx,lv,nx⟩:=rfl
theorem Te(id:Nat) (x:bE) (i:Nat):bN C id (.ext x i) K ⟨sl,bx,lv,nx⟩=aj (aQ ⟨sl,bx,lv,nx⟩ x) fun a=>aj (HG a i) fun v=>K (.dat v none) ⟨sl,bx,lv,nx⟩:=rfl
theorem O8(b:Nat) (cs:List AV) (b' o:Nat):jZ b cs (.ptr b' o)=bif b'==b then .rp (cs.drop o)else .ptr b' o:=rfl
theorem O9(b:Nat) (cs:List AV) (a:AV) (q:Option Nat):jZ b cs (.dat a q)=.dat a q:=rfl
theorem Pa(b:Nat) (cs cs':List AV):jZ b cs (.rp cs')=.rp cs':=rfl
theorem Pb(b:Nat) (cs:List AV):jZ b cs .undef=.undef:=rfl
theorem Pc(b:Nat) (cs:List AV) (b' o n z:Nat):jZ b cs (.vs b' o n z)=bif b'==b&&decide (n*z<=(cs.drop o).length)then .dat (.sl (bZ z n (cs.drop o))) none else .vs b' o n z:=rfl
theorem L2(b:Nat) (cs:List AV):yo b cs []=[]:=rfl
theorem Pd(b:Nat) (cs:List AV) (t:Nat) (v:SV) (r:List (Nat×SV)):yo b cs ((t,v)::r)=(t,jZ b cs v)::yo b cs r:=rfl
theorem L3(n:Nat):kZ n []=[]:=rfl
theorem Pe(n m:Nat) (v:bY) (r:List (Nat×bY)):kZ n ((m,v)::r)=bif n==m then kZ n r else(m,v)::kZ n r:=rfl
theorem L4(css:List (List AV)) (s:S):gM [] css s=s:=rfl
theorem Pf(b:Nat) (bs:List Nat) (cs:List AV) (css:List (List AV)):gM (b::bs) (cs::css) ⟨sl,bx,lv,nx⟩=gM bs css ⟨yo b cs sl,kZ b bx,lv,nx⟩:=rfl
theorem IJ(css:List (List AV)):lW [] css=[]:=by cases css<;>rfl
theorem IK(a:AV) (as:List (Option AV)) (css:List (List AV)):lW (some a::as) css=a::lW as css:=by cases css<;>rfl
theorem IL(as:List (Option AV)) (cs:List AV) (css:List (List AV)):lW (none::as) (cs::css)=.ref cs::lW as css:=rfl
theorem Pg:iz []=true:=rfl
theorem Tf(b:Nat) (bs:List Nat):iz (b::bs)=(decide (4<=b)&&iz bs):=rfl
def Tg(fn:Fn) (as:List AV) (s:S) (k:SV->S->Prop) (p:List (Option AV)×List Nat):Prop:=
 (cY p.2&&iz p.2)=true/\aj (bh s.boxes p.2) fun css=>k (.dat (.fn fn as (lW p.1 css)) none) (gM p.2 css s)
theorem Pj(fn:Fn) (as:List AV) (k:SV->S->Prop) (ps:List (Option AV)) (ids:List Nat):Tg fn as ⟨sl,bx,lv,nx⟩ k (ps,ids)=((cY ids&&iz ids)=true/\aj (bh bx ids) fun css=>k (.dat (.fn fn as (lW ps css)) none) (gM ids css ⟨sl,bx,lv,nx⟩)):=rfl
theorem Th(id:Nat) (fn:Fn) (a b:List bE):bN C id (.Br fn a b) K ⟨sl,bx,lv,nx⟩=aj (dL ⟨sl,bx,lv,nx⟩ a) fun as=>aj (dB false ⟨sl,bx,lv,nx⟩ b) (Tg fn as ⟨sl,bx,lv,nx⟩ K):=rfl
def Ti(mx:Bool) (k:AV->Prop):List AV->Prop
 |[]=>False
 |a::r=>aj (r.foldlM (NP mx) a) k
theorem WC(id:Nat) (mx:Bool) (args:List bE):bN C id (.mm mx args) K ⟨sl,bx,lv,nx⟩=aj (dL ⟨sl,bx,lv,nx⟩ args) (Ti mx fun v=>K (.dat v none) ⟨sl,bx,lv,nx⟩):=by
 show aj _ _=aj _ _
 cases dL ⟨sl,bx,lv,nx⟩ args with
 |none=>rfl
 |some l=>cases l<;>rfl
theorem Tj(mx:Bool) (k:AV->Prop) (a b:AV):Ti mx k [a,b]=aj (NP mx a b) k:=by simp[Ti]
theorem Tk(kd:IntKind) (x y:Int):NP true (.int kd x) (.int kd y)=some (.int kd (if y>x then y else x)):=rfl
theorem Pk(kd:IntKind) (x y:Int):NP false (.int kd x) (.int kd y)=some (.int kd (if y<x then y else x)):=rfl
theorem L5(id:Nat) (zs:List AV) (parts:List (Nat×Nat×bE)):bN C id (.build zs parts) K ⟨sl,bx,lv,nx⟩=aj (jg ⟨sl,bx,lv,nx⟩ parts) fun ps=>K (.dat (.agg (iy zs ps)) none) ⟨sl,bx,lv,nx⟩:=rfl
def IM(off sz:Nat):Option AV->Option (List (Nat×List AV))->Option (List (Nat×List AV))
 |some a,some ps=>if a.cells.length=sz/\jq a none=true then some ((off,a.cells)::ps)else none
 |_,_=>none
theorem IN(off sz:Nat) (x:bE) (r:List (Nat×Nat×bE)):jg ⟨sl,bx,lv,nx⟩ ((off,sz,x)::r)=IM off sz (aQ ⟨sl,bx,lv,nx⟩ x) (jg ⟨sl,bx,lv,nx⟩ r):=rfl
theorem GH:jg ⟨sl,bx,lv,nx⟩ []=some []:=rfl
theorem gP(off sz:Nat) (a:AV) (ps:List (Nat×List AV)) (h:a.cells.length=sz) (h':jq a none=true):IM off sz (some a) (some ps)=some ((off,a.cells)::ps):=by simp[IM,h,h']
theorem Tl(id e z:Nat) (xs:List bE):bN C id (.f9 e z xs) K ⟨sl,bx,lv,nx⟩=aj (lV ⟨sl,bx,lv,nx⟩ z xs) fun rows=>K (.dat (.sl rows) (some id)) ⟨sl,bx,(id,e)::lv,nx⟩:=rfl
def Pm(z:Nat):Option AV->Option (List (List AV))->Option (List (List AV))
 |some a,some rows=>if a.cells.length=z/\jq a none=true then some (a.cells::rows)else none
 |_,_=>none
theorem L6(z:Nat) (x:bE) (r:List bE):lV ⟨sl,bx,lv,nx⟩ z (x::r)=Pm z (aQ ⟨sl,bx,lv,nx⟩ x) (lV ⟨sl,bx,lv,nx⟩ z r):=rfl
theorem IP(z:Nat):lV ⟨sl,bx,lv,nx⟩ z []=some []:=rfl
theorem jI(z:Nat) (a:AV) (rows:List (List AV)) (h:a.cells.length=z) (h':jq a none=true):Pm z (some a) (some rows)=some (a.cells::rows):=by simp[Pm,h,h']
theorem Tm(id e z bytes:Nat) (x y:bE):bN C id (.app e z bytes x y) K ⟨sl,bx,lv,nx⟩=aj (bM ⟨sl,bx,lv,nx⟩ x) fun
   | .dat a q=>aj (rowsOf a) fun xs=>aj (aQ ⟨sl,bx,lv,nx⟩ y) fun b=>aj (rowsOf b) fun ys=>
     (xs.length+ys.length)*bytes<=140737488355328/\(∀r∈xs,r.length=z)/\(∀r∈ys,r.length=z)/\
     (match a,q with
      | .bL,_=>if ys=[]then K (.dat .bL none) ⟨sl,bx,lv,nx⟩else K (.dat (.sl (xs++ys)) (some id)) ⟨sl,bx,(id,e)::lv,nx⟩
      | .sl _,some q=>eK q lv=some e/\K (.dat (.sl (xs++ys)) (some id)) ⟨sl,bx,(id,e)::mj q lv,nx⟩
      |_,_=>False)
   |_=>False:=rfl
theorem Tn(id z:Nat) (x:bE) (lo hi:Option bE):bN C id (.KS z x lo hi) K ⟨sl,bx,lv,nx⟩=aj (aQ ⟨sl,bx,lv,nx⟩ x) fun a=>aj (rowsOf a) fun xs=>aj (yl ⟨sl,bx,lv,nx⟩ lo) fun l=>aj (ym ⟨sl,bx,lv,nx⟩ xs hi) fun h=>(0<=l/\l<=h/\h<=xs.length)/\(∀r∈xs,r.length=z)/\K (.dat (Bz a xs l h) none) ⟨sl,bx,lv,nx⟩:=rfl
theorem L7:yl ⟨sl,bx,lv,nx⟩ none=some 0:=rfl
theorem Pn(x:bE):yl ⟨sl,bx,lv,nx⟩ (some x)=vS (aQ ⟨sl,bx,lv,nx⟩ x):=by cases h:aQ ⟨sl,bx,lv,nx⟩ x<;>simp[yl,vS,h]
theorem L8(xs:List (List AV)):ym ⟨sl,bx,lv,nx⟩ xs none=some (xs.length:Int):=rfl
theorem Po(xs:List (List AV)) (x:bE):ym ⟨sl,bx,lv,nx⟩ xs (some x)=vS (aQ ⟨sl,bx,lv,nx⟩ x):=by cases h:aQ ⟨sl,bx,lv,nx⟩ x<;>simp[ym,vS,h]
theorem Pp(k:IntKind) (i:Int):vS (some (.int k i))=some i:=rfl
theorem To(xs ys:List (List AV)) (l h:Int):Bz (.sl ys) xs l h=.sl ((xs.take h.toNat).drop l.toNat):=rfl
theorem Pq(xs:List (List AV)) (l h:Int):Bz .bL xs l h=.bL:=rfl
def R7(k:SV->Prop):SV->Prop
 | .ptr b o=>k (.ptr b o)
 | .rp cs=>k (.rp cs)
 | .dat (.fn (.func f) as bs) q=>k (.dat (.fn (.func f) as bs) q)
 | .dat (.ref cs) _=>k (.rp cs)
 |_=>False
theorem WD(id:Nat) (x:bE):bN C id (.nc x) K ⟨sl,bx,lv,nx⟩=aj (bM ⟨sl,bx,lv,nx⟩ x) (R7 fun v=>K v ⟨sl,bx,lv,nx⟩):=by
 show aj _ _=aj _ _
 cases bM ⟨sl,bx,lv,nx⟩ x with
 |none=>rfl
 |some v=>cases v with
  |dat a q=>cases a<;>first|rfl|(rename_i f _ _;cases f<;>rfl)
  |_=>rfl
theorem Tp(k:SV->Prop) (b o:Nat):R7 k (.ptr b o)=k (.ptr b o):=rfl
theorem Tq(k:SV->Prop) (cs:List AV) (q:Option Nat):R7 k (.dat (.ref cs) q)=k (.rp cs):=rfl
theorem Tt(k:SV->Prop) (cs:List AV):R7 k (.rp cs)=k (.rp cs):=rfl
theorem Pt:aw C .skip Q ⟨sl,bx,lv,nx⟩=Q .normal ⟨sl,bx,lv,nx⟩:=rfl
def Ar(k:S->Prop) (n:Nat):S->Prop:=fun s=>k {s with nx:=n}
theorem Tu(ops:List CO):aw C (.Bv ops) Q ⟨sl,bx,lv,nx⟩=jh C nx 0 ops (Ar (Q .normal) (nx+ops.length)) ⟨sl,bx,lv,nx⟩:=rfl
def L9(ops:List CO) (dZ:List (Nat×Nat)) (s:S) (F:List CO->S->Prop):Prop:=∃ids,(cY ids&&iz ids)=true/\aj (bh s.boxes ids) fun css=>∃ro,qw (ny ro 0 ops) dZ (gM ids css s).nx (gM ids css s).slots=true/\F (ny ro 0 ops) (gM ids css s)
class KF where
 k:List CO->S->Prop
def dg(ops:List CO) (dZ:List (Nat×Nat)) (s:S) [k:KF]:Prop:=L9 ops dZ s k.k
theorem WE(ops:List CO) (dZ:List (Nat×Nat)) (s:S) (F:List CO->S->Prop):L9 ops dZ s F=@dg ops dZ s ⟨F⟩:=rfl
theorem uW{ops:List CO} {dZ:List (Nat×Nat)} {s:S} {F:List CO->S->Prop} (h:qw ops dZ s.nx s.slots=true) (hk:F ops s):@dg ops dZ s ⟨F⟩:=⟨[],rfl,[],by rw[o3];exact h,by rw[o3];exact hk⟩
theorem Pu{ops:List CO} {dZ:List (Nat×Nat)} {s:S} {F:List CO->S->Prop} (ids ro:List Nat) {css:List (List AV)} (hn:(cY ids&&iz ids)=true) (hc:bh s.boxes ids=some css) (h:qw (ny ro 0 ops) dZ (gM ids css s).nx (gM ids css s).slots=true) (hk:F (ny ro 0 ops) (gM ids css s)):@dg ops dZ s ⟨F⟩:=⟨ids,hn,by rw[hc];exact⟨ro,h,hk⟩⟩
def R8(C:bw) (nx:Nat) (K:S->Prop) (ops:List CO) (s:S):Prop:=jh C nx 0 ops K s
theorem Tv(nx:Nat) (K:S->Prop) (o:CO) (ops:List CO):R8 C nx K (o::ops) ⟨sl,bx,lv,nx⟩=jh C nx 0 (o::ops) K ⟨sl,bx,lv,nx⟩:=rfl
theorem IQ(ops:List CO) (dZ:List (Nat×Nat)):aw C (.sV ops dZ) Q ⟨sl,bx,lv,nx⟩=L9 ops dZ ⟨sl,bx,lv,nx⟩ (R8 C nx (Ar (Q .normal) (nx+ops.length))):=by
 show(∃ids,_/\aj _ _)=(∃ids,_/\aj _ _)
 congr 1;funext ids;congr 2;funext css
 show Gf _ _ _ _ _=_
 unfold Gf R8;simp only[rR];rfl
def WG(ops:List CO) (dZ:List (Nat×Nat)) (k:Nat) (dep:List Nat) (s:S) (F G:List CO->S->Prop):Prop:=L9 ops dZ s F\/(qw (mq k dep 0 ops) dZ s.nx s.slots=true/\G (mq k dep 0 ops) s)
class KG where
 k:List CO->S->Prop
 q:List CO->S->Prop
def pg(ops:List CO) (dZ:List (Nat×Nat)) (k:Nat) (dep:List Nat) (s:S) [h:KG]:Prop:=WG ops dZ k dep s h.k h.q
theorem WH(ops:List CO) (dZ:List (Nat×Nat)) (k:Nat) (dep:List Nat) (s:S) (F G:List CO->S->Prop):WG ops dZ k dep s F G=@pg ops dZ k dep s ⟨F,G⟩:=rfl
section
variable{ops:List CO} {dZ:List (Nat×Nat)} {k:Nat} {dep:List Nat} {s:S} {F G:List CO->S->Prop}
theorem y5(h:qw ops dZ s.nx s.slots=true) (hk:F ops s):@pg ops dZ k dep s ⟨F,G⟩:=.inl (uW h hk)
theorem y6(h:qw (mq k dep 0 ops) dZ s.nx s.slots=true) (hk:G (mq k dep 0 ops) s):@pg ops dZ k dep s ⟨F,G⟩:=.inr ⟨h,hk⟩
end
def IS:Option SV->Option AV
 |some (.dat p none)=>some p
 |_=>none
theorem Pv(p:AV):IS (some (.dat p none))=some p:=rfl
def Pw(d:Option Nat) (ds:List Nat) (X:AV->S->Prop) (s:S):Prop:=aj d fun d=>aj (IS (lk d s.slots)) fun p=>X p (tL ds s)
theorem Px(d:Option Nat) (ds:List Nat) (X:AV->S->Prop):Pw d ds X ⟨sl,bx,lv,nx⟩=aj d fun d=>aj (IS (lk d sl)) fun p=>X p ⟨nB ds sl,bx,lv,nx⟩:=rfl
theorem Py(ops:List CO) (dZ:List (Nat×Nat)) (k:Nat) (dep:List Nat):aw C (.xJ ops dZ k dep) Q ⟨sl,bx,lv,nx⟩=WG ops dZ k dep ⟨sl,bx,lv,nx⟩ (R8 C nx (Ar (Q .normal) (nx+ops.length))) (R8 C nx (Pw (pD k ops) (LA ops) fun p=>Ar (Q (.panic (d8 p))) (nx+ops.length))):=by
 show(_\/_)=(_\/_)
 congr 1
 ·exact IQ sl bx lv nx ops dZ
 ·unfold Ol R8
  congr 1
  rw[Ex,NY]
  congr 1
  funext s
  unfold Pw
  apply propext
  constructor
  ·rintro⟨d,p,h1,h2,h3⟩
   rw[h1]
   show aj (IS (lk d s.slots)) _
   rw[h2];exact h3
  ·intro h
   cases hd:pD k ops with
   |none=>rw[hd]at h;exact h.elim
   |some d=>
    rw[hd]at h
    have h:aj (IS (lk d s.slots)) _:=h
    cases hp:lk d s.slots with
    |none=>rw[hp]at h;exact h.elim
    |some v=>cases v with
     |dat p q=>cases q with
      |none=>rw[hp]at h;exact⟨d,p,rfl,hp,h⟩
      |some _=>rw[hp]at h;exact h.elim
     |_=>rw[hp]at h;exact h.elim
theorem Pz(k:S->Prop) (n:Nat):Ar k n ⟨sl,bx,lv,nx⟩=k ⟨sl,bx,lv,n⟩:=rfl
theorem Tw(a b:bn):aw C (.seq a b) Q ⟨sl,bx,lv,nx⟩=aw C a (j5 (aw C b Q) Q) ⟨sl,bx,lv,nx⟩:=rfl
theorem IT(a b:bn):aw C (.join a b) Q ⟨sl,bx,lv,nx⟩=aw C a (j5 (down (aw C b Q)) Q) ⟨sl,bx,lv,nx⟩:=rfl
def tn(a b:Prop):AV->Prop
 | .bool t=>(t=true->a)/\(t=false->b)
 |_=>False
theorem PA(c:bE) (a b:bn):aw C (.cond c a b) Q ⟨sl,bx,lv,nx⟩=aj (aQ ⟨sl,bx,lv,nx⟩ c) (tn (aw C a Q ⟨sl,bx,lv,nx⟩) (aw C b Q ⟨sl,bx,lv,nx⟩)):=rfl
def Tx(n z:Nat) (a:Option AV) (k:SV->Prop):SV->Prop
 | .ptr b off=>aj a fun a=>aj (idxOf a) fun h=>(0<=h/\h<=n)/\k (.vs b off h.toNat z)
 |_=>False
theorem Tz(id:Nat) (x:bE) (n z:Nat) (hi:bE):bN C id (.RG x n z hi) K ⟨sl,bx,lv,nx⟩=aj (bM ⟨sl,bx,lv,nx⟩ x) (Tx n z (aQ ⟨sl,bx,lv,nx⟩ hi) fun v=>K v ⟨sl,bx,lv,nx⟩):=by
 show aj _ _=aj _ _
 cases bM ⟨sl,bx,lv,nx⟩ x with
 |none=>rfl
 |some v=>cases v<;>rfl
theorem PB(n z:Nat) (a:Option AV) (k:SV->Prop) (b off:Nat):Tx n z a k (.ptr b off)=aj a fun a=>aj (idxOf a) fun h=>(0<=h/\h<=n)/\k (.vs b off h.toNat z):=rfl
theorem PC(k:SV->Prop) (ps:List (Nat×Nat)) (off:Nat):RZ off k (.pt 2 ps)=k (.pt 2 (ps.drop off)):=rfl
theorem IU(b:Nat) (p:List (Option AV)×List Nat):AS true (some (.pt 0 [(b,0)])) (some p)=some (some .hole::p.1,b::p.2):=rfl
def Ez(k:SV->Prop):Option Nat->List (Nat×Nat)->Prop
 |none,(b,o)::_=>k (.ptr b o)
 |some n,ps=>n<=ps.length/\k (.pt 0 (ps.take n))
 |_,_=>False
def Ma(sz:Option Nat) (k:SV->Prop):SV->Prop
 | .pt 2 ps=>Ez k sz ps
 |_=>False
theorem TA(id:Nat) (x:bE) (sz:Option Nat):bN C id (.jY x sz) K ⟨sl,bx,lv,nx⟩=aj (bM ⟨sl,bx,lv,nx⟩ x) (Ma sz fun v=>K v ⟨sl,bx,lv,nx⟩):=by
 show aj _ _=aj _ _
 cases bM ⟨sl,bx,lv,nx⟩ x with
 |none=>rfl
 |some v=>cases v with
  |pt k ps=>match k,sz,ps with
   |2,none,(_,_)::_=>rfl
   |2,none,[]=>rfl
   |2,some _,[]=>rfl
   |2,some _,_::_=>rfl
   |0,_,_=>rfl
   |1,_,_=>rfl
   |k+3,_,_=>rfl
  |_=>rfl
theorem PD(sz:Option Nat) (k:SV->Prop) (ps:List (Nat×Nat)):Ma sz k (.pt 2 ps)=Ez k sz ps:=rfl
theorem PE(k:SV->Prop) (b o:Nat) (ps:List (Nat×Nat)):Ez k none ((b,o)::ps)=k (.ptr b o):=rfl
theorem PF(k:SV->Prop) (b o:Nat) (ps:List (Nat×Nat)):Ez k (some 1) ((b,o)::ps)=k (.pt 0 [(b,o)]):=by simp[Ez]
@[congr] theorem WI (sz:Option Nat) (k:SV->Prop) {v v':SV} (h:v=v'):Ma sz k v=Ma sz k v':=by rw[h]
@[congr] theorem WJ (k:SV->Prop) (sz:Option Nat) {v v':List (Nat×Nat)} (h:v=v'):Ez k sz v=Ez k sz v':=by rw[h]
theorem PG(b:Nat) (cs:List AV) (k:Nat) (ps:List (Nat×Nat)):jZ b cs (.pt k ps)=.pt k ps:=rfl
def FG(a b:Prop):AV->Prop
 | .bool t=>(t=true->a)/\(t=false->b)
 |_=>False
def IV(id e z bytes:Nat) (s:S) (K:SV->S->Prop) (b off n z':Nat):SV->Prop
 | .ptr b' _=>(b'=b/\z'=z)/\aj (ct b s.boxes) fun y=>(n*z<=(y.cells.drop off).length/\n*bytes<=140737488355328)/\
   FG (K (.dat .bL none) s) (K (.dat (.sl (bZ z n (y.cells.drop off))) (some id)) {s with live:=(id,e)::s.live}) (.bool (n==0))
 |_=>False
def N5(id e z bytes:Nat) (s:S) (K:SV->S->Prop) (x:Option SV):SV->Prop
 | .vs b off n z'=>aj x (IV id e z bytes s K b off n z')
 |_=>False
theorem IW(a b:Prop) (n:Nat):FG a b (.bool (n==0))=(if n=0 then a else b):=by
 by_cases h:n=0
 ·subst h;simp[FG]
 ·simp[FG,h]
theorem PI(id e z bytes:Nat) (y x:bE):bN C id (.Bt e z bytes y x) K ⟨sl,bx,lv,nx⟩=aj (bM ⟨sl,bx,lv,nx⟩ y) (N5 id e z bytes ⟨sl,bx,lv,nx⟩ K (bM ⟨sl,bx,lv,nx⟩ x)):=by
 show aj _ _=aj _ _
 cases bM ⟨sl,bx,lv,nx⟩ y with
 |none=>rfl
 |some v=>
  cases v<;>try rfl
  show aj _ _=aj _ _
  cases bM ⟨sl,bx,lv,nx⟩ x with
  |none=>rfl
  |some u=>
   cases u<;>try rfl
   show(_/\aj _ _)=(_/\aj _ _)
   congr 2
   funext y
   rw[IW]
theorem Mb(id e z bytes:Nat) (K:SV->S->Prop) (x:Option SV) (b off n z':Nat):N5 id e z bytes ⟨sl,bx,lv,nx⟩ K x (.vs b off n z')=aj x (IV id e z bytes ⟨sl,bx,lv,nx⟩ K b off n z'):=rfl
theorem Mc(id e z bytes:Nat) (K:SV->S->Prop) (b off n z' b' o:Nat):IV id e z bytes ⟨sl,bx,lv,nx⟩ K b off n z' (.ptr b' o)=((b'=b/\z'=z)/\aj (ct b bx) fun y=>(n*z<=(y.cells.drop off).length/\n*bytes<=140737488355328)/\
   tn (K (.dat .bL none) ⟨sl,bx,lv,nx⟩) (K (.dat (.sl (bZ z n (y.cells.drop off))) (some id)) ⟨sl,bx,(id,e)::lv,nx⟩) (.bool (n==0))):=rfl
def cd(c:AV) [k:KP]:Prop:=tn k.yes k.no c
theorem mD(a b:Prop) (c:AV):tn a b c=@cd c ⟨a,b⟩:=rfl
theorem Md(a b:Prop):@cd (.bool true) ⟨a,b⟩=a:=by simp[cd,tn]
theorem Me(a b:Prop):@cd (.bool false) ⟨a,b⟩=b:=by simp[cd,tn]
theorem Mf(id:Nat) (c:bn):aw C (.block id c) Q ⟨sl,bx,lv,nx⟩=aw C c (gN id Q) ⟨sl,bx,lv,nx⟩:=rfl
theorem PJ(id:Nat):aw C (.exit id) Q ⟨sl,bx,lv,nx⟩=Q (.exit id) ⟨sl,bx,lv,nx⟩:=rfl
theorem TC:aw C .ret Q ⟨sl,bx,lv,nx⟩=Q .ret ⟨sl,bx,lv,nx⟩:=rfl
theorem Mg(l:Nat) (c r:bn):aw C (.scope l c r) Q ⟨sl,bx,lv,nx⟩=aw C c (mL l (aw C r (xK Q)) Q) ⟨sl,bx,lv,nx⟩:=rfl
theorem Mh(l:Nat):aw C (.label l) Q ⟨sl,bx,lv,nx⟩=Q .normal ⟨sl,bx,lv,nx⟩:=rfl
theorem PK(l:Nat):aw C (.goto l) Q ⟨sl,bx,lv,nx⟩=Q (.goto l) ⟨sl,bx,lv,nx⟩:=rfl
theorem Mi(k:S->Prop) (s:S) (l:Nat):j5 k Q (.goto l) s=Q (.goto l) s:=rfl
theorem PL(id:Nat) (s:S) (l:Nat):gN id Q (.goto l) s=Q (.goto l) s:=rfl
theorem TD(l:Nat) (k:S->Prop) (s:S):mL l k Q .normal s=Q .normal s:=rfl
theorem TE(l:Nat) (k:S->Prop) (s:S):mL l k Q .ret s=Q .ret s:=rfl
theorem TF(l:Nat) (k:S->Prop) (s:S) (id:Nat):mL l k Q (.exit id) s=Q (.exit id) s:=rfl
theorem TG(l:Nat) (k:S->Prop) (s:S) (l':Nat):mL l k Q (.goto l') s=(l'=l/\k s):=rfl
theorem TH(s:S):xK Q .normal s=Q .normal s:=rfl
theorem TI(s:S):xK Q .ret s=Q .ret s:=rfl
theorem TJ(s:S) (id:Nat):xK Q (.exit id) s=Q (.exit id) s:=rfl
theorem Mj(k:S->Prop) (s:S):j5 k Q .normal s=k s:=rfl
theorem Mk(k:S->Prop) (s:S):j5 k Q .ret s=Q .ret s:=rfl
theorem Ml(k:S->Prop) (s:S) (id:Nat):j5 k Q (.exit id) s=Q (.exit id) s:=rfl
theorem PM(id:Nat) (s:S):gN id Q .normal s=Q .normal s:=rfl
theorem PN(id:Nat) (s:S):gN id Q .ret s=Q .ret s:=rfl
theorem PO(id:Nat) (s:S):gN id Q (.exit id) s=Q .normal s:=by simp[gN]
theorem jJ(id id':Nat) (s:S) (h:(id'==id)=false):gN id Q (.exit id') s=Q (.exit id') s:=by
 have:id'≠id:=by simpa using h
 simp[gN,this]
end
section
variable{C:bw} {Q:Exit->S->Prop} {K:SV->S->Prop} {J:S->Prop}
@[congr] theorem V8 {α:Type} {o o':Option α} (k:α->Prop) (h:o=o'):aj o k=aj o' k:=by rw[h]
@[congr] theorem XC (id:Nat) (o:bR) (s:S):bN C id o K s=bN C id o K s:=rfl
@[congr] theorem WK (b i:Nat) (l:List CO) (s:S):jh C b i l J s=jh C b i l J s:=rfl
@[congr] theorem XW (c:bn) (s:S):aw C c Q s=aw C c Q s:=rfl
@[congr] theorem V9 (e:Exit) (s:S):j5 J Q e s=j5 J Q e s:=rfl
@[congr] theorem TK {J:S->Prop} (l:Nat) (e:Exit) (s:S):mL l J Q e s=mL l J Q e s:=rfl
@[congr] theorem WL (e:Exit) (s:S):xK Q e s=xK Q e s:=rfl
@[congr] theorem TL (id:Nat) (e:Exit) (s:S):gN id Q e s=gN id Q e s:=rfl
@[congr] theorem WM (n:Nat) (s:S):Ar J n s=Ar J n s:=rfl
@[congr] theorem WN {s s':S} (h:s=s'):down J s=down J s':=by rw[h]
@[congr] theorem TM (w:Bool) (yes no:Prop) {g g':Option SV} (h:g=g'):lS w yes no g=lS w yes no g':=by rw[h]
@[congr] theorem Wa {a a' b b':Option SV} (k:SV->Prop) {c c':AV} (ha:a=a') (hb:b=b') (hc:c=c'):y4 a b k c=y4 a' b' k c':=by rw[ha,hb,hc]
@[congr] theorem Wb (a b:Prop) {c c':AV} (h:c=c'):tn a b c=tn a b c':=by rw[h]
@[congr] theorem XD (sz:Option Nat) (bx:List (Nat×bY)) (k:SV->Prop) {v v':SV} (h:v=v'):RU sz bx k v=RU sz bx k v':=by rw[h]
@[congr] theorem XE (off:Nat) (k:SV->Prop) {v v':SV} (h:v=v'):RZ off k v=RZ off k v':=by rw[h]
@[congr] theorem XF {d d':Nat} (k:SV->Prop) {v v':SV} (h:v=v') (hd:d=d'):SK d k v=SK d' k v':=by rw[h,hd]
@[congr] theorem XG (sz:Nat) (bx:List (Nat×bY)) {u u':Option SV} (k:List (Nat×bY)->Prop) {v v':SV} (hu:u=u') (h:v=v'):V7 sz bx u k v=V7 sz bx u' k v':=by rw[h,hu]
@[congr] theorem XH (sz off:Nat) (x:bY) (k:bY->Prop) {v v':SV} (h:v=v'):SF sz off x k v=SF sz off x k v':=by rw[h]
@[congr] theorem WO (k:List AV->Prop) {v v':AV} (h:v=v'):Ey k v=Ey k v':=by rw[h]
@[congr] theorem XI (m:Bool) (k:AV->Prop) {v v':List AV} (h:v=v'):Ti m k v=Ti m k v':=by rw[h]
@[congr] theorem XJ (k:SV->Prop) {v v':SV} (h:v=v'):R7 k v=R7 k v':=by rw[h]
end
section
variable(k:IntKind) (x y:Int)
theorem TN:ez .add (.int k x) (.int k y)=some (.int k (k.wrap (x+y))):=by simp[ez,qg]
theorem TO:ez .sub (.int k x) (.int k y)=some (.int k (k.wrap (x-y))):=by simp[ez,qg]
theorem TP:ez .mul (.int k x) (.int k y)=some (.int k (k.wrap (x*y))):=by simp[ez,qg]
theorem TQ:ez .eql (.int k x) (.int k y)=some (.bool (x==y)):=by simp[ez,qg]
theorem TR:ez .neq (.int k x) (.int k y)=some (.bool (x !=y)):=by simp[ez,qg]
theorem TS:ez .lss (.int k x) (.int k y)=some (.bool (decide (x<y))):=by simp[ez,qg]
theorem TT:ez .leq (.int k x) (.int k y)=some (.bool (decide (x<=y))):=by simp[ez,qg]
theorem TU:ez .gtr (.int k x) (.int k y)=some (.bool (decide (y<x))):=by simp[ez,qg]
theorem TV:ez .geq (.int k x) (.int k y)=some (.bool (decide (y<=x))):=by simp[ez,qg]
def nZ(k:IntKind) (x y:Int):Int:=k.wrap (BitVec.ofInt k.bits x&&&BitVec.ofInt k.bits y).toNat
def KV(k:IntKind) (x y:Int):Int:=k.wrap (BitVec.ofInt k.bits x|||BitVec.ofInt k.bits y).toNat
def BU(k:IntKind) (x y:Int):Int:=k.wrap (BitVec.ofInt k.bits x^^^BitVec.ofInt k.bits y).toNat
def nM(k:IntKind) (x y:Int):Int:=k.wrap (BitVec.ofInt k.bits x&&& ~~~BitVec.ofInt k.bits y).toNat
theorem TW:ez .and (.int k x) (.int k y)=some (.int k (nZ k x y)):=by simp[ez,qg,wT,nZ]
theorem WQ:ez .or (.int k x) (.int k y)=some (.int k (KV k x y)):=by simp[ez,qg,wT,KV]
theorem TX:ez .xor (.int k x) (.int k y)=some (.int k (BU k x y)):=by simp[ez,qg,wT,BU]
theorem IX:ez .andNot (.int k x) (.int k y)=some (.int k (nM k x y)):=by simp[ez,qg,wT,nM]
def pY(c:Prop) [Decidable c] (v:AV):Option AV:=if c then some v else none
theorem Mm(c:Prop) [Decidable c] (v:AV) (K:AV->Prop):@wv _ (pY c v) ⟨K⟩=(c/\K v):=by
 rw[<-lR];unfold pY;split<;>simp_all
theorem TY:ez .quo (.int k x) (.int k y)=pY (y≠0) (.int k (k.wrap (x.tdiv y))):=by
 by_cases h:y=0<;>simp[ez,qg,pY,h]
theorem TZ:ez .rem (.int k x) (.int k y)=pY (y≠0) (.int k (x.tmod y)):=by
 by_cases h:y=0<;>simp[ez,qg,pY,h]
theorem T6(k':IntKind):ez .shl (.int k x) (.int k' y)=pY (0<=y) (.int k (k.wrap (x*2^min y.toNat k.bits))):=by
 by_cases h:0<=y
 ·have:¬y<0:=by omega
  simp[ez,qm,pY,h,this]
 ·have:y<0:=by omega
  simp[ez,qm,pY,this]
theorem T7(k':IntKind):ez .shr (.int k x) (.int k' y)=pY (0<=y) (.int k (x.fdiv (2^min y.toNat k.bits))):=by
 by_cases h:0<=y
 ·have:¬y<0:=by omega
  simp[ez,qm,pY,h,this]
 ·have:y<0:=by omega
  simp[ez,qm,pY,this]
theorem T8(x y:Bool):RQ false (.bool x) (.bool y)=some (.bool (x==y)):=rfl
theorem T9(x y:Bool):RQ true (.bool x) (.bool y)=some (.bool (x !=y)):=rfl
theorem Ua(b:Bool):Og .not (.bool b)=some (.bool !b):=rfl
theorem Ub:Og .neg (.int k x)=some (.int k (k.wrap (0-x))):=rfl
theorem Uc:CE false .bL=some true:=rfl
theorem Ud:CE true .bL=some false:=rfl
theorem Ue(xs:List (List AV)):CE false (.sl xs)=some false:=rfl
theorem Uf(xs:List (List AV)):CE true (.sl xs)=some true:=rfl
theorem Ug:By .bL=some (.int .i64 0):=rfl
theorem WR(xs:List (List AV)):By (.sl xs)=some (.int .i64 xs.length):=rfl
theorem WS(k':IntKind):Az k (.int k' x)=some (.int k (k.wrap x)):=rfl
theorem WT(k':IntKind) (f:FloatKind):yj f (.int k' x)=some (.float f (f.nearest x)):=rfl
theorem Uh(vs:List AV) (i:Nat):HG (.qf vs) i=vs[i]?:=rfl
theorem Ui(cs:List AV):jq (.agg cs) none=true:=rfl
theorem Uj(q:Option Nat):jq (.int k x) q=true:=rfl
theorem Uk(b:Bool) (q:Option Nat):jq (.bool b) q=true:=rfl
theorem Ul(f:FloatKind) (n:Nat) (q:Option Nat):jq (.float f n) q=true:=rfl
theorem Um(q:Option Nat):jq .bL q=true:=rfl
theorem Un(xs:List (List AV)) (q:Option Nat):jq (.sl xs) q=true:=rfl
theorem Uo(b:ByteArray) (q:Option Nat):jq (.str b) q=true:=rfl
theorem Up(f:Fn) (as bs:List AV) (q:Option Nat):jq (.fn f as bs) q=true:=rfl
theorem PR(cs:List AV) (q:Option Nat):jq (.ref cs) q=true:=rfl
theorem Uq(q:Option Nat):jq .ye q=true:=rfl
theorem GI(cs:List AV):AV.cells (.agg cs)=cs:=rfl
theorem GJ:AV.cells (.int k x)=[.int k x]:=rfl
theorem EA(b:Bool):AV.cells (.bool b)=[.bool b]:=rfl
theorem C9(f:FloatKind) (n:Nat):AV.cells (.float f n)=[.float f n]:=rfl
theorem EC:AV.cells .bL=[.bL]:=rfl
theorem GK(cs:List AV):AV.cells (.ref cs)=[.ref cs]:=rfl
theorem IY(f:Fn) (as bs:List AV):AV.cells (.fn f as bs)=[.fn f as bs]:=rfl
theorem IZ(xs:List (List AV)):AV.cells (.sl xs)=[.sl xs]:=rfl
theorem wk(cs:List AV) (off:Nat):bF cs off none=cs[off]?:=rfl
theorem iD(cs:List AV) (off n:Nat) (h:off+n<=cs.length):bF cs off (some n)=some (.agg ((cs.drop off).take n)):=by simp[bF,h]
end
theorem bJ{w:Bool} {yes no:Prop} {t:Bool} {q:Option Nat} (h1:t=true->@gd w (some (.dat (.bool true) q)) ⟨yes,no⟩) (h2:t=false->@gd w (some (.dat (.bool false) q)) ⟨yes,no⟩):@gd w (some (.dat (.bool t) q)) ⟨yes,no⟩:=by
 cases t
 ·exact h2 rfl
 ·exact h1 rfl
theorem aq{a b:Prop} {t:Bool} (h1:t=true->a) (h2:t=false->b):@cd (.bool t) ⟨a,b⟩:=by
 cases t
 ·simpa[cd,tn]using h2 rfl
 ·simpa[cd,tn]using h1 rfl
theorem cX{a b:Option SV} {k:SV->Prop} {t:Bool} (h1:t=true->@pk a b (.bool true) ⟨k⟩) (h2:t=false->@pk a b (.bool false) ⟨k⟩):@pk a b (.bool t) ⟨k⟩:=by
 cases t
 ·exact h2 rfl
 ·exact h1 rfl
theorem Mo(p:Nat) (ps:List Nat) (x:AV) (xs:List AV) (s:S):qx (p::ps) (x::xs) s=qx ps xs (s.put (some p) (.dat x none)):=rfl
theorem I0(s:S):qx [] [] s=s:=rfl
theorem PS(wr:List Nat) (sl:List (Nat×SV)) (bx:List (Nat×bY)) (lv:List (Nat×Nat)) (nx:Nat):tL wr ⟨sl,bx,lv,nx⟩=⟨nB wr sl,bx,lv,nx⟩:=rfl
theorem Mp(wr:List Nat):nB wr []=[]:=rfl
theorem PT(wr:List Nat) (t:Nat) (v:SV) (r:List (Nat×SV)):nB wr ((t,v)::r)=bif wr.contains t then nB wr r else(t,v)::nB wr r:=rfl
theorem PU(wr:List Nat) (F:S->Prop) (Q:Exit->S->Prop) (s:S):Ff wr F Q .normal s=down F (tL wr s):=rfl
theorem PV(wr:List Nat) (F:S->Prop) (Q:Exit->S->Prop) (s:S):Ff wr F Q .ret s=Q .ret (tL wr s):=rfl
theorem PW(wr:List Nat) (F:S->Prop) (Q:Exit->S->Prop) (id:Nat) (s:S):Ff wr F Q (.exit id) s=Q (.exit id) (tL wr s):=rfl
theorem Mq(K:S->Prop) (s:S):uI K .normal s=K s:=rfl
def XX:=
 And.intro @OC (And.intro @OD (And.intro @OE (And.intro @Sy (And.intro @Wn (And.intro @Sz (And.intro @Wo (And.intro @Lz (And.intro @OF (And.intro @OG (And.intro @OH (And.intro @OI (And.intro @SB (And.intro @C8 (And.intro @xl (And.intro @uV (And.intro @qR (And.intro @OJ (And.intro @OK (And.intro @LB (And.intro @SC (And.intro @OL (And.intro @OM (And.intro @ON (And.intro @LC (And.intro @OP (And.intro @LD (And.intro @LF (And.intro @LG (@LH)))))))))))))))))))))))))))))
def XY:=
 And.intro @Im (And.intro @LI (And.intro @OQ (And.intro @LJ (And.intro @Io (And.intro @Ip (And.intro @GA (And.intro @Iq (And.intro @GB (And.intro @Wp (And.intro @OR (And.intro @LK (And.intro @LL (And.intro @LM (And.intro @SD (And.intro @Wq (And.intro @OS (And.intro @OT (And.intro @SE (And.intro @Ws (And.intro @SG (And.intro @SH (And.intro @LN (And.intro @LO (And.intro @Wt (And.intro @SI (And.intro @SJ (And.intro @SL (And.intro @SM (@SN)))))))))))))))))))))))))))))
def XZ:=
 And.intro @SO (And.intro @SP (And.intro @OU (And.intro @OV (And.intro @OW (And.intro @LP (And.intro @SQ (And.intro @SR (And.intro @SS (And.intro @SU (And.intro @SW (And.intro @Wv (And.intro @Ww (And.intro @OX (And.intro @OY (And.intro @OZ (And.intro @O0 (And.intro @LQ (And.intro @LR (And.intro @Wy (And.intro @Wz (And.intro @WA (And.intro @WB (And.intro @SX (And.intro @O2 (And.intro @O3 (And.intro @SZ (And.intro @O4 (And.intro @O5 (@O6)))))))))))))))))))))))))))))
def X0:=
 And.intro @It (And.intro @Iu (And.intro @Iv (And.intro @O7 (And.intro @Tc (And.intro @Iw (And.intro @LS (And.intro @LU (And.intro @Iy (And.intro @LV (And.intro @LW (And.intro @GC (And.intro @Iz (And.intro @GD (And.intro @IA (And.intro @IB (And.intro @ID (And.intro @LY (And.intro @LZ (And.intro @L0 (And.intro @IE (And.intro @IF (And.intro @L1 (And.intro @IG (And.intro @II (And.intro @GF (And.intro @GG (And.intro @Td (And.intro @Te (@O8)))))))))))))))))))))))))))))
def X1:=
 And.intro @O9 (And.intro @Pa (And.intro @Pb (And.intro @Pc (And.intro @L2 (And.intro @Pd (And.intro @L3 (And.intro @Pe (And.intro @L4 (And.intro @Pf (And.intro @IJ (And.intro @IK (And.intro @IL (And.intro @Pg (And.intro @Tf (And.intro @Pj (And.intro @Th (And.intro @WC (And.intro @Tj (And.intro @Tk (And.intro @Pk (And.intro @L5 (And.intro @IN (And.intro @GH (And.intro @Tl (And.intro @L6 (And.intro @IP (And.intro @Tm (And.intro @Tn (@L7)))))))))))))))))))))))))))))
def X2:=
 And.intro @Pn (And.intro @L8 (And.intro @Po (And.intro @Pp (And.intro @To (And.intro @Pq (And.intro @WD (And.intro @Tp (And.intro @Tq (And.intro @Tt (And.intro @Pt (And.intro @Tu (And.intro @Tv (And.intro @IQ (And.intro @Pv (And.intro @Px (And.intro @Py (And.intro @Pz (And.intro @Tw (And.intro @IT (And.intro @PA (And.intro @Tz (And.intro @PB (And.intro @PC (And.intro @IU (And.intro @TA (And.intro @PD (And.intro @PE (And.intro @PF (@PG)))))))))))))))))))))))))))))
def X3:=
 And.intro @PI (And.intro @Mb (And.intro @Mc (And.intro @Md (And.intro @Me (And.intro @Mf (And.intro @PJ (And.intro @TC (And.intro @Mg (And.intro @Mh (And.intro @PK (And.intro @Mi (And.intro @PL (And.intro @TD (And.intro @TE (And.intro @TF (And.intro @TG (And.intro @TH (And.intro @TI (And.intro @TJ (And.intro @Mj (And.intro @Mk (And.intro @Ml (And.intro @PM (And.intro @PN (And.intro @PO (And.intro @TN (And.intro @TO (And.intro @TP (@TQ)))))))))))))))))))))))))))))
def X4:=
 And.intro @TR (And.intro @TS (And.intro @TT (And.intro @TU (And.intro @TV (And.intro @TW (And.intro @WQ (And.intro @TX (And.intro @IX (And.intro @Mm (And.intro @TY (And.intro @TZ (And.intro @T6 (And.intro @T7 (And.intro @T8 (And.intro @T9 (And.intro @Ua (And.intro @Ub (And.intro @Uc (And.intro @Ud (And.intro @Ue (And.intro @Uf (And.intro @Ug (And.intro @WR (And.intro @WS (And.intro @WT (And.intro @Uh (And.intro @Ui (And.intro @Uj (@Uk)))))))))))))))))))))))))))))
def X5:=
 And.intro @Ul (And.intro @Um (And.intro @Un (And.intro @Uo (And.intro @Up (And.intro @PR (And.intro @Uq (And.intro @GI (And.intro @GJ (And.intro @EA (And.intro @C9 (And.intro @EC (And.intro @GK (And.intro @IY (And.intro @IZ (And.intro @wk (And.intro @Mo (And.intro @I0 (And.intro @PS (And.intro @Mp (And.intro @PT (And.intro @PU (And.intro @PV (And.intro @PW (@Mq))))))))))))))))))))))))
def EV:=
 And.intro @XX (And.intro @XY (And.intro @XZ (And.intro @X0 (And.intro @X1 (And.intro @X2 (And.intro @X3 (And.intro @X4 (@X5))))))))
section
variable{C:bw}
theorem uX{id:Nat} {o:bR} {K K':SV->S->Prop} {s:S} (hk:∀v s',K v s'->K' v s') (h:bN C id o K s):bN C id o K' s:=by
 obtain⟨v,d,hK,_,_,hs⟩:=qH h;exact hs.2 s .refl K' (hk _ _ hK)
theorem oF{base:Nat}:∀{l:List CO} {i:Nat} {s:S} {K K':S->Prop},(∀s,K s->K' s)->jh C base i l K s->jh C base i l K' s
 |[],i,s,K,K',hk,h=>hk s h
 |o::l,i,s,K,K',hk,h=>by
  rw[kK]at h⊢;obtain⟨v,d,hd,hk',_⟩:=eY h;exact hd.2 s .refl _ (oF hk hk')
theorem GL{id:Nat} {o:CD} {K K':SV->S->Prop} {X X':AV->S->Prop} {s:S} (hk:∀v s',K v s'->K' v s') (hx:∀p s',X p s'->X' p s') (h:bH C id o K X s):bH C id o K' X' s:=by
 cases o with
 |o c=>exact uX hk h
 |call f args=>
  simp only[bH]at h⊢
  rcases h with h|h
  ·exact .inl (uX hk h)
  ·obtain⟨as,has,h⟩:=af h
   rw[has]
   rcases h with⟨cs,h1,h2⟩|⟨p,h1,h2⟩|⟨rows,e,z,h1,h2,h3⟩
   ·exact .inr (.inl ⟨cs,h1,hk _ _ h2⟩)
   ·exact .inr (.inr (.inl ⟨p,h1,hx _ _ h2⟩))
   ·exact .inr (.inr (.inr ⟨rows,e,z,h1,h2,hk _ _ h3⟩))
 |Sn e z bytes y=>
  obtain⟨a,ha,h⟩:=af h;obtain⟨rows,hr,h1,h2,h3⟩:=af h;simp only[bH,ha,hr,aG];exact⟨h1,h2,hk _ _ h3⟩
 |aE f args=>
  simp only[bH]at h⊢
  rcases h with h|h
  ·exact .inl (uX hk h)
  ·obtain⟨p,hp,hn,h⟩:=af h
   obtain⟨css,hcs,h⟩:=af h;rw[hp];refine .inr ⟨hn,?_⟩;rw[hcs]
   rcases h with⟨v,css',h1,h2⟩|⟨tg,r,css',tg',h1,h2⟩
   ·exact .inl ⟨v,css',h1,hx _ _ h2⟩
   ·obtain⟨qo,hq,h2⟩:=af h2
    exact .inr ⟨tg,r,css',tg',h1,by rw[hq];exact hk _ _ h2⟩
 |fc b g args=>
  simp only[bH]at h⊢;split at h
  ·obtain⟨p,hp,hn,h⟩:=af h
   obtain⟨css,hcs,h⟩:=af h;rw[hp];refine⟨hn,?_⟩;rw[hcs]
   rcases h with⟨r,fr,css',h1,h2⟩|⟨v,css',h1,h2⟩|⟨tg,r,css',tg',h1,h2⟩
   ·exact .inl ⟨r,fr,css',h1,hk _ _ h2⟩
   ·exact .inr (.inl ⟨v,css',h1,hx _ _ h2⟩)
   ·obtain⟨qo,hq,h2⟩:=af h2
    exact .inr (.inr ⟨tg,r,css',tg',h1,by rw[hq];exact hk _ _ h2⟩)
  ·exact uX hk h
 |Gc x=>
  obtain⟨p,hp,h⟩:=af h;simp only[bH,hp,aG]
  cases p<;>first|exact hk _ _ h|exact h.elim
 |sU x=>
  obtain⟨p,hp,h⟩:=af h;simp only[bH,hp,aG]
  cases p<;>try(exact h.elim)
  rename_i k ps
  cases k<;>first|exact hk _ _ h|exact h.elim
 |RO x v=>
  obtain⟨p,hp,h⟩:=af h;simp only[bH,hp,aG]
  cases p<;>try(exact h.elim)
  rename_i b o
  cases o<;>try(exact h.elim)
  obtain⟨q,hq,h⟩:=af h;simp only[hq,aG]
  cases q<;>try(exact h.elim)
  rename_i k ps
  cases k<;>try(exact h.elim)
  obtain⟨y,hy,h1,h2⟩:=af h;simp only[hy,aG];exact⟨h1,hk _ _ h2⟩
 |Bu xs=>obtain⟨p,hp,h⟩:=af h;simp only[bH,hp];exact hk _ _ h
 |KZ x i=>
  obtain⟨p,hp,h⟩:=af h;simp only[bH,hp,aG]
  cases p<;>try(exact h.elim)
  rename_i k ps
  match k,h with
  |1,h=>
   obtain⟨a,ha,h⟩:=af h;obtain⟨j,hj,h1,h2⟩:=af h;simp only[ha,aG,hj];exact⟨h1,hk _ _ h2⟩
  |0,h=>exact h.elim
  |k+2,h=>exact h.elim
 |K0 x=>
  obtain⟨p,hp,h⟩:=af h;simp only[bH,hp,aG]
  cases p<;>try(exact h.elim)
  rename_i k ps
  match k,h with
  |1,h=>exact hk _ _ h
  |0,h=>exact h.elim
  |k+2,h=>exact h.elim
 |Ay g args=>
  obtain⟨av,hav,h⟩:=af h;simp only[bH,hav,aG]
  cases av<;>try(exact h.elim)
  rename_i fn first caps
  cases fn<;>try(exact h.elim)
  cases first<;>try(exact h.elim)
  cases caps<;>try(exact h.elim)
  obtain⟨p,hp,hn,h⟩:=af h;obtain⟨css,hcs,j,o,b,h1,h2,h3⟩:=af h;simp only[hp,aG,hcs];exact⟨hn,j,o,b,h1,h2,hk _ _ h3⟩
 |Sm f caps=>obtain⟨p,hp,h⟩:=af h;simp only[bH,hp];exact hk _ _ h
 |Hy x=>obtain⟨a,ha,h1,h2⟩:=af h;simp only[bH,ha];exact⟨h1,hx _ _ h2⟩
 |Hz t x=>obtain⟨a,ha,h1,h2⟩:=af h;simp only[bH,ha];exact⟨h1,hk _ _ h2⟩
 |NO t z x=>
  obtain⟨a,ha,h⟩:=af h;obtain⟨v,hv,h⟩:=af h;simp only[bH,ha,aG,hv];exact hk _ _ h
 |RH neg x=>
  obtain⟨a,ha,h⟩:=af h;obtain⟨v,hv,h⟩:=af h;simp only[bH,ha,aG,hv];exact hk _ _ h
 |RI neg x=>
  obtain⟨a,ha,h⟩:=af h;obtain⟨v,hv,h⟩:=af h;simp only[bH,ha,aG,hv];exact hk _ _ h
 |RJ e bytes l c=>
  obtain⟨a,ha,h⟩:=af h;obtain⟨l',hl,h⟩:=af h;obtain⟨b,hb,h⟩:=af h;obtain⟨c',hc,h1,h⟩:=af h;simp only[bH,ha,aG,hl,hb,hc];exact⟨h1,hk _ _ h⟩
 |RM e x y=>
  obtain⟨p,hp,h⟩:=af h;simp only[bH,hp,aG]
  cases p<;>try(exact h.elim)
  obtain⟨b,hb,h⟩:=af h;obtain⟨ys,hy,h1,h2,h⟩:=af h;simp only[hb,aG,hy];exact⟨h1,h2,hk _ _ h⟩
theorem Da{s:S} {g:Option (Nat×Bool)} {y y' n n':Prop} (hy:y->y') (hn:n->n') (h:eA s g y n):eA s g y' n':=by
 unfold eA at h⊢;split at h
 ·exact hy h
 ·split at h
  ·exact⟨fun e=>hy (h.1 e),fun e=>hn (h.2 e)⟩
  ·exact hn h
  ·exact h.elim
theorem t5{base:Nat}:∀{l:List XO} {i:Nat} {s:S} {K K':S->Prop} {X X':AV->S->Prop},(∀s,K s->K' s)->(∀p s',X p s'->X' p s')->eU C base i l K X s->eU C base i l K' X' s
 |[],i,s,K,K',X,X',hk,hx,h=>hk s h
 |o::l,i,s,K,K',X,X',hk,hx,h=>Da (GL (fun v s' h=>t5 hk hx h) hx) (t5 hk hx) h
theorem su{F:S->Prop} {s:S} (h:down F s):∃s',F s'/\∀F':S->Prop,F' s'->down F' s:=by
 obtain⟨s1,⟨hl,hF|⟨ids,hok,hF⟩⟩|hF⟩:=h
 ·exact⟨s1,hF,fun F' h=>rS hl h⟩
 ·obtain⟨css,hcs,hF⟩:=af hF
  exact⟨_,hF,fun F' h=>yq hl ⟨ids,hok,by rw[hcs];exact h⟩⟩
 ·exact⟨s,hF,fun F' h=>i5 h⟩
theorem kM{F G:S->Prop} (h:∀s,F s->G s) {s:S} (hd:down F s):down G s:=by
 obtain⟨s1,⟨hl,hF|⟨ids,hok,hF⟩⟩|hF⟩:=hd
 ·exact rS hl (h _ hF)
 ·obtain⟨css,hcs,hF⟩:=af hF
  exact yq hl ⟨ids,hok,by rw[hcs];exact h _ hF⟩
 ·exact⟨s1,.inr (h _ hF)⟩
theorem iE{F G:S->Prop} {Q Q':Exit->S->Prop} (h:∀s,F s->G s) (hq:∀e s,Q e s->Q' e s) {e:Exit} {s:S} (ha:j5 F Q e s):j5 G Q' e s:=by
 cases e<;>first|exact h _ ha|exact hq _ _ ha
theorem Db{id:Nat} {Q Q':Exit->S->Prop} (hq:∀e s,Q e s->Q' e s) {e:Exit} {s:S} (ha:gN id Q e s):gN id Q' e s:=by
 cases e with
 |exit i=>
  simp only[gN]at ha⊢;split
  ·rename_i hi;rw[if_pos hi]at ha;exact hq _ _ ha
  ·rename_i hi;rw[if_neg hi]at ha;exact hq _ _ ha
 |_=>exact hq _ _ ha
theorem pH{F G:(Exit->S->Prop)->S->Prop} (hF:∀Q Q' s,(∀e s,Q e s->Q' e s)->F Q s->G Q' s) {Q Q':Exit->S->Prop} (hq:∀e s,Q e s->Q' e s):∀{n:Nat} {s:S},nE F Q n s->nE G Q' n s
 |0,s,h=>h
 |n+1,s,h=>hF _ _ s (fun e s ha=>iE (fun s hd=>kM (fun s h=>pH hF hq h) hd) hq ha) h
theorem I1{wr:List Nat} {F:S->Prop} {Q Q':Exit->S->Prop} (hq:∀e s,Q e s->Q' e s) {e:Exit} {s:S} (h:Ff wr F Q e s):Ff wr F Q' e s:=by
 cases e<;>first|exact h|exact hq _ _ h
theorem ij:∀{c:bn} {Q Q':Exit->S->Prop} {s:S},(∀e s,Q e s->Q' e s)->aw C c Q s->aw C c Q' s:=by
 intro c
 induction c with
 |skip=>intro Q Q' s hq h;exact hq _ _ h
 |Bv ops=>intro Q Q' s hq h;exact oF (fun s h=>hq _ _ h) h
 |aT ops=>intro Q Q' s hq h;exact t5 (fun s h=>hq _ _ h) (fun p s h=>hq _ _ h) h
 |sV ops dZ=>
  intro Q Q' s hq h;obtain⟨ids,hids,h⟩:=h;obtain⟨css,hcss,ro,hd,h⟩:=af h
  exact⟨ids,hids,by rw[hcss];exact⟨ro,hd,oF (fun s h=>hq _ _ h) h⟩⟩
 |xJ ops dZ k dep=>
  intro Q Q' s hq h
  rcases h with⟨ids,hids,h⟩|h
  ·obtain⟨css,hcss,ro,hd,h⟩:=af h
   exact .inl ⟨ids,hids,by rw[hcss];exact⟨ro,hd,oF (fun s h=>hq _ _ h) h⟩⟩
  ·exact .inr ⟨h.1,oF (fun s ⟨d,p,h1,h2,h3⟩=>⟨d,p,h1,h2,hq _ _ h3⟩) h.2⟩
 |seq a b iha ihb=>intro Q Q' s hq h;exact iha (fun e s ha=>iE (fun s h=>ihb hq h) hq ha) h
 |join a b iha ihb=>intro Q Q' s hq h;exact iha (fun e s ha=>iE (fun s h=>kM (fun s h=>ihb hq h) h) hq ha) h
 |cond c a b iha ihb=>
  intro Q Q' s hq h;simp only[aw]at h⊢;obtain⟨v,hv,h⟩:=af h;rw[hv]
  cases v<;>try(exact h.elim)
  exact⟨fun e=>iha hq (h.1 e),fun e=>ihb hq (h.2 e)⟩
 |block id c ih=>intro Q Q' s hq h;exact ih (fun e s ha=>Db hq ha) h
 |loop c ih=>
  intro Q Q' s hq h
  exact kM (fun s ⟨n,h⟩=>⟨n,pH (F:=aw C c) (G:=aw C c) (fun Q Q' s hq h=>ih hq h) hq h⟩) h
 |exit id=>intro Q Q' s hq h;exact hq _ _ h
 |ret=>intro Q Q' s hq h;exact hq _ _ h
 |label l=>intro Q Q' s hq h;exact hq _ _ h
 |goto l=>intro Q Q' s hq h;exact hq _ _ h
 |scope l c r ihc ihr=>
  intro Q Q' s hq h
  refine ihc (fun e s ha=>?_) h
  cases e with
  |goto l'=>
   refine⟨ha.1,ihr (fun e s hb=>?_) ha.2⟩
   cases e<;>first|exact hb|exact hq _ _ hb
  |_=>exact hq _ _ ha
 |Am g ps wr as bd iha ihb=>
  intro Q Q' s hq h;simp only[aw]at h⊢;obtain⟨gv,hgv,xs,h1,h2,F,h3,h4,h5,h6⟩:=af h;rw[hgv]
  refine⟨xs,h1,h2,F,h3,h4,fun i x s' hx hs=>iha (fun e s ha=>?_) (h5 i x s' hx hs),fun s' hs=>hq _ _ (h6 s' hs)⟩
  cases e<;>first|exact ha.elim|exact ihb (fun e s hb=>I1 hq hb) ha
def flat(keep:List Nat):Nat->bn->bn×Nat
 |i,.join a b=>
  let p:=flat keep (i+1) a
  let q:=flat keep p.2 b
  (if keep.contains i then .join p.1 q.1 else .seq p.1 q.1,q.2)
 |i,.seq a b=>
  let p:=flat keep i a
  let q:=flat keep p.2 b
  (.seq p.1 q.1,q.2)
 |i,.cond c a b=>
  let p:=flat keep i a
  let q:=flat keep p.2 b
  (.cond c p.1 q.1,q.2)
 |i,.block id c=>(.block id (flat keep i c).1,(flat keep i c).2)
 |i,.Am g ps wr as bd=>
  let p:=flat keep i as
  let q:=flat keep p.2 bd
  (.Am g ps wr p.1 q.1,q.2)
 |i,.loop c=>(.loop (flat keep i c).1,(flat keep i c).2)
 |i,.scope l c r=>
  let p:=flat keep i c
  let q:=flat keep p.2 r
  (.scope l p.1 q.1,q.2)
 |i,c=>(c,i)
theorem ax{keep:List Nat}:∀{c:bn} {i:Nat} {Q:Exit->S->Prop} {s:S},aw C (flat keep i c).1 Q s->aw C c Q s:=by
 intro c
 induction c with
 |join a b iha ihb=>
  intro i Q s h;simp only[flat]at h;split at h
  ·exact iha (ij (fun e s ha=>iE (fun s h=>kM (fun s h=>ihb h) h) (fun _ _ h=>h) ha) h)
  ·exact iha (ij (fun e s ha=>iE (fun s h=>i5 (ihb h)) (fun _ _ h=>h) ha) h)
 |seq a b iha ihb=>intro i Q s h;exact iha (ij (fun e s ha=>iE (fun s h=>ihb h) (fun _ _ h=>h) ha) h)
 |cond c a b iha ihb=>
  intro i Q s h;simp only[flat,aw]at h⊢;obtain⟨v,hv,h⟩:=af h;rw[hv]
  cases v<;>try(exact h.elim)
  exact⟨fun e=>iha (h.1 e),fun e=>ihb (h.2 e)⟩
 |block id c ih=>intro i Q s h;exact ih h
 |scope l c r ihc ihr=>
  intro i Q s h
  refine ihc (ij (fun e s ha=>?_) h)
  cases e with
  |goto l'=>exact⟨ha.1,ihr ha.2⟩
  |_=>exact ha
 |Am g ps wr as bd iha ihb=>
  intro i Q s h;simp only[flat,aw]at h⊢;obtain⟨gv,hgv,xs,h1,h2,F,h3,h4,h5,h6⟩:=af h;rw[hgv]
  refine⟨xs,h1,h2,F,h3,h4,fun i x s' hx hs=>iha (ij (fun e s ha=>?_) (h5 i x s' hx hs)),h6⟩
  cases e<;>first|exact ha.elim|exact ihb ha
 |loop c ih=>
  intro i Q s h
  exact kM (fun s ⟨n,h⟩=>⟨n,pH (F:=aw C (flat keep i c).1) (G:=aw C c) (fun Q Q' s hq h=>ij hq (ih h)) (fun _ _ h=>h) h⟩) h
 |_=>intro i Q s h;exact h
theorem Mr{c:bn} {Q:Exit->S->Prop} {α:Type} (hd:α->S) (μ:α->Nat) (I:α->Prop)
  (round:∀x,I x->aw C c (j5 (down fun s=>∃y,s=hd y/\I y/\μ y<μ x) Q) (hd x)) {x:α} (hx:I x) {s:S} (h0:Le s (hd x)\/s=hd x):aw C (.loop c) Q s:=by
 have key:∀n x,I x->μ x<n->nE (aw C c) Q n (hd x):=by
  intro n
  induction n with
  |zero=>intro x _ h;omega
  |succ n ih=>
   intro x hx hn;refine ij ?_ (round x hx);intro e s ha
   refine iE ?_ (fun _ _ h=>h) ha
   intro s hd;refine kM ?_ hd
   rintro s ⟨y,rfl,hy,hlt⟩
   exact ih y hy (by omega)
 rcases h0 with h0|rfl
 ·exact rS h0 ⟨μ x+1,key _ x hx (by omega)⟩
 ·exact i5 ⟨μ x+1,key _ x hx (by omega)⟩
end
theorem Ur(k:IntKind) (n:Int):jv (.int k n)=.dat (.int k n) none:=rfl
theorem PX(b:Bool):jv (.bool b)=.dat (.bool b) none:=rfl
theorem Ms(k:FloatKind) (n:Nat):jv (.float k n)=.dat (.float k n) none:=rfl
theorem Us(s:ByteArray):jv (.str s)=.dat (.str s) none:=rfl
theorem PY:jv .mh=.dat .mh none:=rfl
theorem PZ:jv .bL=.dat .bL none:=rfl
theorem WU(xs:List (List AV)):jv (.sl xs)=.dat (.sl xs) none:=rfl
theorem WV(f:Fn) (as bs:List AV):jv (.fn f as bs)=.dat (.fn f as bs) none:=rfl
theorem Ut(cs:List AV):jv (.agg cs)=.dat (.agg cs) none:=rfl
theorem Uu(cs:List AV):jv (.ref cs)=.rp cs:=rfl
theorem Mt(i:Nat) (a:AV) (r:List AV):slotsOf i (a::r)=(i,jv a)::slotsOf (i+1) r:=rfl
theorem I2(i:Nat):slotsOf i []=[]:=rfl
theorem P1(as:List AV):Il as=⟨slotsOf 0 as,[],[],4⟩:=rfl
theorem P2(i k:Nat) (q:IntKind) (n:Int) (r:List (Option AV)):cq i k (some (.int q n)::r)=(i,.dat (.int q n) none)::cq (i+1) k r:=rfl
theorem Mu(i k:Nat) (b:Bool) (r:List (Option AV)):cq i k (some (.bool b)::r)=(i,.dat (.bool b) none)::cq (i+1) k r:=rfl
theorem I3(i k:Nat) (q:FloatKind) (n:Nat) (r:List (Option AV)):cq i k (some (.float q n)::r)=(i,.dat (.float q n) none)::cq (i+1) k r:=rfl
theorem P3(i k:Nat) (b:ByteArray) (r:List (Option AV)):cq i k (some (.str b)::r)=(i,.dat (.str b) none)::cq (i+1) k r:=rfl
theorem Mv(i k:Nat) (r:List (Option AV)):cq i k (some (.mh)::r)=(i,.dat .mh none)::cq (i+1) k r:=rfl
theorem Mw(i k:Nat) (r:List (Option AV)):cq i k (some (.bL)::r)=(i,.dat .bL none)::cq (i+1) k r:=rfl
theorem Uv(i k:Nat) (xs:List (List AV)) (r:List (Option AV)):cq i k (some (.sl xs)::r)=(i,.dat (.sl xs) none)::cq (i+1) k r:=rfl
theorem Uw(i k:Nat) (g:Fn) (as bs:List AV) (r:List (Option AV)):cq i k (some (.fn g as bs)::r)=(i,.dat (.fn g as bs) none)::cq (i+1) k r:=rfl
theorem P4(i k:Nat) (cs:List AV) (r:List (Option AV)):cq i k (some (.agg cs)::r)=(i,.dat (.agg cs) none)::cq (i+1) k r:=rfl
theorem P5(i k:Nat) (cs:List AV) (r:List (Option AV)):cq i k (some (.ref cs)::r)=(i,.rp cs)::cq (i+1) k r:=rfl
theorem P6(i k:Nat) (t:Nat) (a:AV) (r:List (Option AV)):cq i k (some (.iface t a)::r)=(i,.dat (.iface t a) none)::cq (i+1) k r:=rfl
theorem P7(i k:Nat) (r:List (Option AV)):cq i k (some (.fJ)::r)=(i,.dat .fJ none)::cq (i+1) k r:=rfl
theorem P8(i k:Nat) (r:List (Option AV)):cq i k (some (.iw)::r)=(i,.dat .iw none)::cq (i+1) k r:=rfl
theorem Mx(i k:Nat) (r:List (Option AV)):cq i k (some .hole::r)=(i,.pt 0 [(k,0)])::cq (i+1) (k+1) r:=rfl
def GM:=And.intro @P2 (And.intro @Mu (And.intro @I3 (And.intro @P3 (And.intro @Mv (And.intro @Mw (And.intro @Uv (And.intro @Uw (And.intro @P4 (And.intro @P5 (And.intro @P6 (And.intro @P7 (And.intro @P8 @Mx))))))))))))
theorem GN(i k:Nat) (r:List (Option AV)):cq i k (none::r)=(i,.ptr k 0)::cq (i+1) (k+1) r:=rfl
theorem GO(i k:Nat):cq i k []=[]:=rfl
theorem I4(k:Nat) (cs:List AV) (css:List (List AV)):qP k (cs::css)=(k,⟨cs,[]⟩)::qP (k+1) css:=rfl
theorem GP(k:Nat):qP k []=[]:=rfl
theorem My(css:List (List AV)) (as:List (Option AV)):oC css as=⟨cq 0 0 as,qP 0 css,[],4⟩:=rfl
theorem P9(res:List gb) (r:AV) (s:S):fin res r none .normal s=aj (eW s res) fun p=>p.1=r:=by simp[fin,D8]
theorem Qa(res:List gb) (r:AV) (s:S):fin res r none .ret s=aj (eW s res) fun p=>p.1=r:=by simp[fin,D8]
theorem Qb(res:List gb) (r:AV) (e:Nat) (s:S):fin res r (some e) .normal s=aj (eW s res) fun p=>p.1=r/\D8 (some e) p.2 s.live:=rfl
theorem Qc(res:List gb) (r:AV) (e:Nat) (s:S):fin res r (some e) .ret s=aj (eW s res) fun p=>p.1=r/\D8 (some e) p.2 s.live:=rfl
theorem WW(e q:Nat) (lv:List (Nat×Nat)):D8 (some e) (some q) lv=(eK q lv=some e):=rfl
theorem Mz(res:List gb) (r:AV) (css:List (List AV)) (s:S):BO res r none css .normal s=aj (eW s res) fun p=>p.1=r/\gi s.boxes 0 css:=by simp[BO,D8]
theorem MA(res:List gb) (r:AV) (css:List (List AV)) (s:S):BO res r none css .ret s=aj (eW s res) fun p=>p.1=r/\gi s.boxes 0 css:=by simp[BO,D8]
theorem MB(l:List (Nat×bY)) (k:Nat):gi l k []=True:=rfl
theorem Qd(l:List (Nat×bY)) (k:Nat) (cs:List AV) (css:List (List AV)):gi l k (cs::css)=(aj (ct k l) (fun x=>x.cells=cs)/\gi l (k+1) css):=rfl
def Ux:Option SV->Option (AV×Option Nat)
 |some (.dat a q)=>some (a,q)
 |_=>none
theorem Qe(a:AV) (q:Option Nat):Ux (some (.dat a q))=some (a,q):=rfl
theorem Qf(s:S) (t:Nat):eW s [.tmp t]=Ux (lk t s.slots):=rfl
def I5(sz:Option Nat) (bx:List (Nat×bY)):Option SV->Option (AV×Option Nat)
 |some (.ptr b off)=>match ct b bx with
  |some x=>match bF x.cells off sz with
   |some a=>some (a,match sz with|none=>eK off x.tags|some _=>none)
   |none=>none
  |none=>none
 |_=>none
def AT(off:Nat) (sz:Option Nat):Option bY->Option (AV×Option Nat)
 |some x=>match bF x.cells off sz with
  |some a=>some (a,match sz with|none=>eK off x.tags|some _=>none)
  |none=>none
 |none=>none
theorem Qg(s:S) (t:Nat) (sz:Option Nat):eW s [.cell t sz]=I5 sz s.boxes (lk t s.slots):=rfl
theorem MC(sz:Option Nat) (bx:List (Nat×bY)) (b off:Nat):I5 sz bx (some (.ptr b off))=AT off sz (ct b bx):=by
 simp only[I5,AT]
theorem MD(off n:Nat) (x:bY):AT off (some n) (some x)=(bF x.cells off (some n)).map fun a=>(a,none):=by
 simp only[AT]<;>cases bF x.cells off (some n)<;>rfl
theorem ME(off:Nat) (x:bY):AT off none (some x)=(x.cells[off]?).map fun a=>(a,eK off x.tags):=by
 simp only[AT,bF]<;>cases x.cells[off]?<;>rfl
theorem Qh(s:S):eW s []=some (.qf [],none):=rfl
theorem Qi(s:S) (x y:gb) (r:List gb):eW s (x::y::r)=(mV s (x::y::r)).map fun as=>(.qf as,none):=rfl
def I6:Option (AV×Option Nat)->Option (List AV)->Option (List AV)
 |some p,some as=>some (p.1::as)
 |_,_=>none
theorem MF(a:AV) (q:Option Nat) (as:List AV):I6 (some (a,q)) (some as)=some (a::as):=rfl
theorem Qj(s:S) (x:gb) (r:List gb):mV s (x::r)=I6 (eW s [x]) (mV s r):=by
 simp only[mV,I6,eW]<;>cases Gz s x<;>cases mV s r<;>rfl
theorem MG(s:S):mV s []=some []:=rfl
def X6:=
 And.intro @Ur (And.intro @PX (And.intro @Ms (And.intro @Us (And.intro @PY (And.intro @PZ (And.intro @WU (And.intro @WV (And.intro @Ut (And.intro @Uu (And.intro @Mt (And.intro @I2 (And.intro @P1 (And.intro @GM (And.intro @GN (And.intro @GO (And.intro @I4 (And.intro @GP (And.intro @My (And.intro @P9 (And.intro @Qa (And.intro @Qb (And.intro @Qc (And.intro @WW (And.intro @Mz (And.intro @MA (And.intro @MB (And.intro @Qd (And.intro @Qe (@Qf)))))))))))))))))))))))))))))
def X7:=
 And.intro @Qg (And.intro @MC (And.intro @MD (And.intro @ME (And.intro @Qh (And.intro @Qi (And.intro @MF (And.intro @Qj (@MG))))))))
def EW:=
 And.intro @X6 (@X7)
abbrev I (n:Int):AV:=.int .i64 n
abbrev B (b:Bool):AV:=.bool b
abbrev D (n:Nat):AV:=.float .f64 n
def cv(n:Int):Int:=IntKind.i64.wrap n
def aD{α:Type} (f:α->List AV):Option (List α)->AV
 |none=>.bL
 |some l=>.sl (l.map f)
def aA(n:Int):List AV:=[I n]
structure Ph where
 on:Bool
 min:Int
 As:Int
 max:Int
 top:Int
 step:Int
 dO:Int
 red:Int
 walk:Int
 ee:Int
 gy:Int
 lock:Bool
 rest:Bool
 deriving Inhabited,DecidableEq
def Ph.cells(p:Ph):List AV:=[B p.on,I p.min,I p.As,I p.max,I p.top,I p.step,I p.dO,I p.red,I p.walk,I p.ee,I p.gy,B p.lock,B p.rest]
structure fy where
 phase:Int
 on:Nat
 off:Nat
 delay:Nat
 extend:Nat
 maxOn:Int
 iF:Int
 deriving Inhabited,DecidableEq
def fy.cells(d:fy):List AV:=[I d.phase,D d.on,D d.off,D d.delay,D d.extend,I d.maxOn,I d.iF]
structure Rl where
 bars:Int
 clear:Int
 iq:Int
 exit:Int
 delay:Int
 green:Int
 ke:Int
 hold:Int
 stay:Int
 most:Int
 limit:Int
 deriving Inhabited,DecidableEq
def Rl.cells(r:Rl):List AV:=[I r.bars,I r.clear,I r.iq,I r.exit,I r.delay,I r.green,I r.ke,I r.hold,I r.stay,I r.most,I r.limit]
structure Bs where
 set:Int
 lock:Int
 deriving Inhabited,DecidableEq
def Bs.cells(b:Bs):List AV:=[I b.set,I b.lock]
structure Gr where
 a:Option (List Int)
 b:Option (List Int)
 deriving Inhabited,DecidableEq
def Gr.cells(g:Gr):List AV:=[aD aA g.a,aD aA g.b]
structure Tb where
 phases:List Ph
 groups:Option (List Gr)
 conflict:List Int
 az:Option (List fy)
 aR:Option (List Rl)
 aX:Option (List Bs)
 extend:Int
 cU:Int
 start:Int
 revert:Int
 least:Int
 bp:List Int
 dw:Int
 share:Int
 deriving Inhabited,DecidableEq
def Tb.cells(t:Tb):List AV:=
 t.phases.flatMap Ph.cells++(aD Gr.cells t.groups::(t.conflict.map I++(aD fy.cells t.az::aD Rl.cells t.aR::aD Bs.cells t.aX::
  I t.extend::I t.cU::I t.start::I t.revert::I t.least::(t.bp.map I++[I t.dw,I t.share]))))
structure Tb.Ok (t:Tb):Prop where
 phases:t.phases.length=8
 conflict:t.conflict.length=8
 bp:t.bp.length=8
 groups:(t.groups.getD []).length<=1048576
 rows:∀g∈t.groups.getD [],(g.a.getD []).length<=1048576/\(g.b.getD []).length<=1048576
 WX:(t.az.getD []).length<=1048576
 aR:(t.aR.getD []).length<=1048576
 aX:(t.aX.getD []).length<=1048576
theorem aY{α:Type} {f:α->List AV} {z:Nat} (hf:∀x,(f x).length=z):∀{l:List α},(l.flatMap f).length=l.length*z
 |[]=>by simp
 |x::l=>by simp[List.flatMap_cons,hf,aY hf (l:=l),Nat.add_mul];omega
theorem Ph.len(p:Ph):p.cells.length=13:=rfl
theorem Tb.len{t:Tb} (h:t.Ok):t.cells.length=131:=by
 simp[Tb.cells,aY Ph.len,h.phases,h.conflict,h.bp]
theorem BV{α:Type}:∀{l:List α} {i:Nat} {x:α},l[i]? =some x->l=l.take i++x::l.drop (i+1)
 |[],i,x,h=>by simp at h
 |y::l,0,x,h=>by
  simp at h;subst h;simp
 |y::l,i+1,x,h=>by
  have:=BV (l:=l) (i:=i) (x:=x) (by simpa using h)
  simp only[List.take_succ_cons,List.drop_succ_cons,List.cons_append]
  exact congrArg (y:: ·) this
theorem y7{α:Type} {f:α->List AV} {l:List α} {i:Nat} {x:α} (h:l[i]? =some x):l.flatMap f=(l.take i).flatMap f++(f x++(l.drop (i+1)).flatMap f):=by
 conv=>lhs;rw[BV h]
 rw[List.flatMap_append,List.flatMap_cons]
theorem uY{α:Type} {l:List α} {i:Nat} {x:α} (h:l[i]? =some x):(l.take i).length=i:=by
 have:=(List.getElem?_eq_some_iff.1 h).1
 simp;omega
theorem Dc{pre mid post:List AV} {off z:Nat} (h1:pre.length=off) (h2:mid.length=z):bF (pre++(mid++post)) off (some z)=some (.agg mid):=by
 subst h1 h2
 have hle:pre.length+mid.length<=(pre++(mid++post)).length:=by simp
 simp only[bF,hle,if_true,Option.some.injEq,AV.agg.injEq];simp
theorem MH{pre mid post ps:List AV} {off:Nat} (h1:pre.length=off) (h2:mid.length=ps.length):setCells (pre++(mid++post)) off ps=pre++(ps++post):=by
 subst h1;simp only[setCells];rw[<-h2];simp[List.drop_append]
theorem dP{cs ps:List AV} (h:cs.length=ps.length):setCells cs 0 ps=ps:=by
 simp only[setCells,List.take_zero,List.nil_append,Nat.zero_add,<-h,List.drop_length,List.append_nil]
theorem Tb.y8{t:Tb} {i:Nat} {p:Ph} (h:t.phases[i]? =some p):bF t.cells (i*13) (some 13)=some (.agg p.cells):=by
 unfold Tb.cells;rw[y7 h,List.append_assoc,List.append_assoc]
 exact Dc (by rw[aY Ph.len,uY h]) rfl
theorem Qk{α:Type} {l:List α} {i:Nat} {x y:α} (h:l[i]? =some x):l.set i y=l.take i++y::l.drop (i+1):=by
 have hlt:=(List.getElem?_eq_some_iff.1 h).1
 rw[List.set_eq_take_append_cons_drop,if_pos hlt]
theorem Tb.GQ{t:Tb} {i:Nat} {p q:Ph} (h:t.phases[i]? =some p):setCells t.cells (i*13) q.cells={t with phases:=t.phases.set i q}.cells:=by
 unfold Tb.cells;simp only;rw[Qk h,List.flatMap_append,List.flatMap_cons]
 conv=>lhs;rw[y7 h]
 rw[List.append_assoc,List.append_assoc,List.append_assoc,List.append_assoc]
 exact MH (by rw[aY Ph.len,uY h]) rfl
end Go.Eng
namespace Go.Eng.Z
open Go
def o(d:Nat) (x:bR):CO:=⟨some d,x,none⟩
def p(d:Nat) (x:bR) (g:Nat):CO:=⟨some d,x,some (g,true)⟩
def q(d:Nat) (x:bR) (g:Nat):CO:=⟨some d,x,some (g,false)⟩
def n(x:bR):CO:=⟨none,x,none⟩
def M(d x:Nat):CO:=⟨some d,.mv (.t x),none⟩
def V(d:Nat) (v:AV):CO:=⟨some d,.mv (.k v),none⟩
def m(x:Nat):bR:=.mv (.t x)
def v(x:AV):bR:=.mv (.k x)
def l(x:Nat):bR:=.ld (.t x) none
def L(x z:Nat):bR:=.ld (.t x) (some z)
def f(x z:Nat):bR:=.fa (.t x) z
def s(x y z:Nat):bR:=.st (.t x) (.t y) z
def ss(x:Nat) (y:AV) (z:Nat):bR:=.st (.t x) (.k y) z
def A(x y a b:Nat):bR:=.Aw (.t x) (.t y) a b
def a(x y z:Nat):bR:=.CC (.t x) (.t y) z
def P(x y:Nat):bR:=.pick (.t x) (.t y) (.k (.bool false))
def Q(x y:Nat):bR:=.pick (.t x) (.k (.bool true)) (.t y)
def h(x:Nat):bR:=.uB (.t x)
def w(x:Nat):bR:=.box (.t x)
def b(g:BinOp) (x y:Nat):bR:=.bin g (.t x) (.t y)
def bb(g:BinOp) (x:Nat) (y:AV):bR:=.bin g (.t x) (.k y)
def e(x y:Nat):bR:=.ext (.t x) y
def i(x:Int):AV:=.int .i64 x
def t(x:Nat):bE:=.t x
def k(x:AV):bE:=.k x
def r(x:List CO) (y:bn):bn:=.seq (.Bv x) y
def R(x:List CO):bn:=.Bv x
def j(x y:bn):bn:=.join x y
def c(x:Nat) (y z:bn):bn:=.cond (.t x) y z
def u(x:Nat) (y:bn):bn:=.block x y
def y:bn:=.ret
def z:bn:=.skip
def T:AV:=.bool true
def F:AV:=.bool false
def H:=
 And.intro @o.eq_1 (And.intro @p.eq_1 (And.intro @q.eq_1 (And.intro @n.eq_1 (And.intro @M.eq_1 (And.intro @V.eq_1 (And.intro @m.eq_1 (And.intro @v.eq_1 (And.intro @l.eq_1 (And.intro @L.eq_1 (And.intro @f.eq_1 (And.intro @s.eq_1 (And.intro @ss.eq_1 (And.intro @A.eq_1 (And.intro @a.eq_1 (And.intro @P.eq_1 (And.intro @Q.eq_1 (And.intro @h.eq_1 (And.intro @w.eq_1 (And.intro @b.eq_1 (And.intro @bb.eq_1 (And.intro @e.eq_1 (And.intro @i.eq_1 (And.intro @t.eq_1 (And.intro @k.eq_1 (And.intro @r.eq_1 (And.intro @R.eq_1 (And.intro @j.eq_1 (And.intro @c.eq_1 (And.intro @u.eq_1 (And.intro @y.eq_1 (And.intro @z.eq_1 (And.intro @T.eq_1 @F.eq_1))))))))))))))))))))))))))))))))
end Go.Eng.Z
