/- The engine and the library,part 9 of 20: what the proofs of this seat need of them. -/
import Derived.Test.YtkckiembbiiliaaGreatPk8
set_option linter.unnecessarySimpa false
set_option linter.unusedSimpArgs false
set_option linter.unusedVariables false
set_option linter.defProp false
set_option maxRecDepth 10000
set_option maxHeartbeats 4000000
namespace Go.Eng
open Go
class Kn (α:Type) where
 run:α->Prop
class XJ where
 run:SV->List (Nat×Nat)->Prop
def wv{α:Type} (o:Option α) [k:Kn α]:Prop:=aj o k.run
theorem lS{α:Type} (o:Option α) (k:α->Prop):aj o k=@wv α o ⟨k⟩:=rfl
theorem OD{α:Type} (a:α) (k:α->Prop):@wv α (some a) ⟨k⟩=k a:=rfl
theorem OE{α:Type} (k:α->Prop):@wv α none ⟨k⟩=False:=rfl
theorem Sq{α:Type} {o:Option α} {k:α->Prop} (a:α) (h:o=some a) (hk:k a):@wv α o ⟨k⟩:=by subst h;exact hk
def xj(C:bz) (f:Nat) (as:List AV) (id:Nat) (lv:List (Nat×Nat)) (k:SV->List (Nat×Nat)->Prop):Prop:=
 ∃r fr,C.c f as r fr/\k (.dat r (fr.map fun _=>id)) (match fr with|some e=>(id,e)::lv|none=>lv)
def cl(C:bz) (f:Nat) (as:List AV) (id:Nat) (lv:List (Nat×Nat)) [k:XJ]:Prop:=xj C f as id lv k.run
theorem mA(C:bz) (f:Nat) (as:List AV) (id:Nat) (lv:List (Nat×Nat)) (k:SV->List (Nat×Nat)->Prop):xj C f as id lv k=@cl C f as id lv ⟨k⟩:=rfl
@[congr] theorem V1 {C:bz} (f:Nat) {as as':List AV} (id:Nat) (lv:List (Nat×Nat)) (k:SV->List (Nat×Nat)->Prop) (h:as=as'):xj C f as id lv k=xj C f as' id lv k:=by rw[h]
theorem ai{C:bz} {f:Nat} {as:List AV} {id:Nat} {lv:List (Nat×Nat)} {k:SV->List (Nat×Nat)->Prop} {r:AV} (h:C.c f as r none) (hk:k (.dat r none) lv):@cl C f as id lv ⟨k⟩:=⟨r,none,h,hk⟩
theorem Io{C:bz} {f:Nat} {as:List AV} {id:Nat} {lv:List (Nat×Nat)} {k:SV->List (Nat×Nat)->Prop} {r:AV} {e:Nat} (h:C.c f as r (some e)) (hk:k (.dat r (some id)) ((id,e)::lv)):@cl C f as id lv ⟨k⟩:=⟨r,some e,h,hk⟩
class XK where
 run:SV->List (Nat×cg)->List (Nat×Nat)->Prop
def yY(C:bz) (f:Nat) (css:List (List AV)) (as:List (Option AV)) (ids:List Nat) (id:Nat) (bx:List (Nat×cg)) (lv:List (Nat×Nat)) (k:SV->List (Nat×cg)->List (Nat×Nat)->Prop):Prop:=
 ∃r fr css',C.p f css as r fr css'/\k (.dat r (fr.map fun _=>id)) (dc ids css' bx) (match fr with|some e=>(id,e)::lv|none=>lv)
def Xo(C:bz) (f:Nat) (css:List (List AV)) (as:List (Option AV)) (ids:List Nat) (id:Nat) (bx:List (Nat×cg)) (lv:List (Nat×Nat)) [k:XK]:Prop:=yY C f css as ids id bx lv k.run
theorem iq(C:bz) (f:Nat) (css:List (List AV)) (as:List (Option AV)) (ids:List Nat) (id:Nat) (bx:List (Nat×cg)) (lv:List (Nat×Nat)) (k:SV->List (Nat×cg)->List (Nat×Nat)->Prop):yY C f css as ids id bx lv k=@Xo C f css as ids id bx lv ⟨k⟩:=rfl
theorem ax{C:bz} {f:Nat} {css:List (List AV)} {as:List (Option AV)} {ids:List Nat} {id:Nat} {bx:List (Nat×cg)} {lv:List (Nat×Nat)} {k:SV->List (Nat×cg)->List (Nat×Nat)->Prop} {r:AV} {css':List (List AV)} (h:C.p f css as r none css') (hk:k (.dat r none) (dc ids css' bx) lv):@Xo C f css as ids id bx lv ⟨k⟩:=⟨r,none,css',h,hk⟩
class XL where
 run:SV->Prop
def BJ(C:bz) (f:Nat) (css:List (List AV)) (as:List (Option AV)) (k:SV->Prop):Prop:=∃r,C.p f css as r none css/\k (.dat r none)
def Xp(C:bz) (f:Nat) (css:List (List AV)) (as:List (Option AV)) [k:XL]:Prop:=BJ C f css as k.run
theorem Sr(C:bz) (f:Nat) (css:List (List AV)) (as:List (Option AV)) (k:SV->Prop):BJ C f css as k=@Xp C f css as ⟨k⟩:=rfl
theorem ke{C:bz} {f:Nat} {css:List (List AV)} {as:List (Option AV)} {k:SV->Prop} {r:AV} (h:C.p f css as r none css) (hk:k (.dat r none)):@Xp C f css as ⟨k⟩:=⟨r,h,hk⟩
def FB(x:Option cg) (y:Option (List (List AV))):Option (List (List AV)):=
 match x,y with
 |some ⟨cs,[]⟩,some css=>some (cs::css)
 |_,_=>none
theorem OF(ro:List Nat) (i:Nat):nA ro i []=[]:=rfl
theorem Ss(ro:List Nat) (i:Nat) (o:CO) (r:List CO):nA ro i (o::r)=(bif ro.contains i then o.ro else o)::nA ro (i+1) r:=rfl
theorem Wg(d:Option Nat) (o:bT) (g:Option (Nat×Bool)):CO.ro ⟨d,o,g⟩=⟨d,o.ro,g⟩:=rfl
theorem St(f:Nat) (as:List bD):bT.ro (.aB f as)=.yg f as:=rfl
def CO.pq(o:CO):CO:=match o.op with
 | .aB f args=>⟨o.dst,.tj f args,o.g⟩
 |_=>o
theorem Wh(d:Option Nat) (f:Nat) (as:List bD) (g:Option (Nat×Bool)):CO.pq ⟨d,.aB f as,g⟩=⟨d,.tj f as,g⟩:=rfl
theorem LB(k:Nat) (dep:List Nat) (i:Nat):mu k dep i []=[]:=rfl
theorem OG(k:Nat) (dep:List Nat) (i:Nat) (o:CO) (r:List CO):mu k dep i (o::r)=(bif i==k then o.pq else bif dep.contains i then⟨none,.mv (.k .mj),none⟩else o)::mu k dep (i+1) r:=by
 simp only[mu,vS,CO.pq,cond_eq_ite,beq_iff_eq];rfl
def LC:List CO->List Nat
 |[]=>[]
 |⟨some d,_,_⟩::r=>d::LC r
 |⟨none,_,_⟩::r=>LC r
theorem OH:LC []=[]:=rfl
theorem OI(d:Nat) (o:bT) (g:Option (Nat×Bool)) (r:List CO):LC (⟨some d,o,g⟩::r)=d::LC r:=rfl
theorem OJ(o:bT) (g:Option (Nat×Bool)) (r:List CO):LC (⟨none,o,g⟩::r)=LC r:=rfl
theorem Ev:∀{l:List CO},(l.flatMap fun o=>o.dst.toList)=LC l
 |[]=>rfl
 |⟨some d,_,_⟩::r=>by rw[List.flatMap_cons,Ev];rfl
 |⟨none,_,_⟩::r=>by rw[List.flatMap_cons,Ev];rfl
def pD:Nat->List CO->Option Nat
 |0,o::_=>o.dst
 |k+1,_::r=>pD k r
 |_,[]=>none
theorem NW:∀{k:Nat} {l:List CO},(l[k]?).bind CO.dst=pD k l
 |0,[]=>rfl
 |_+1,[]=>rfl
 |0,o::_=>rfl
 |k+1,_::r=>by rw[List.getElem?_cons_succ];exact NW
class XM where
 run:AV->List (List AV)->Prop
def BK(C:bz) (f:Nat) (css:List (List AV)) (as:List (Option AV)) (k:AV->List (List AV)->Prop):Prop:=∃v css',C.q f css as v css'/\k v css'
def Xq(C:bz) (f:Nat) (css:List (List AV)) (as:List (Option AV)) [k:XM]:Prop:=BK C f css as k.run
theorem Su(C:bz) (f:Nat) (css:List (List AV)) (as:List (Option AV)) (k:AV->List (List AV)->Prop):BK C f css as k=@Xq C f css as ⟨k⟩:=rfl
theorem mX{C:bz} {f:Nat} {css:List (List AV)} {as:List (Option AV)} {k:AV->List (List AV)->Prop} {v:AV} {css':List (List AV)} (h:C.q f css as v css') (hk:k v css'):@Xq C f css as ⟨k⟩:=⟨v,css',h,hk⟩
theorem Sv(g:bD) (as:List bD):bT.ro (.gN g as)=.qx g as:=rfl
section
variable{C:bz} {Q:Exit->S->Prop} {K:SV->S->Prop} {J:S->Prop}
variable(sl:List (Nat×SV)) (bx:List (Nat×cg)) (lv:List (Nat×Nat)) (nx:Nat)
theorem C3(n m:Nat) (v:SV) (r:List (Nat×SV)):lk n ((m,v)::r)=bif n==m then some v else lk n r:=rfl
theorem xk(n m:Nat) (v:cg) (r:List (Nat×cg)):cm n ((m,v)::r)=bif n==m then some v else cm n r:=rfl
theorem uV(n m:Nat) (v:Nat) (r:List (Nat×Nat)):er n ((m,v)::r)=bif n==m then some v else er n r:=rfl
theorem qY(n:Nat):er n []=none:=rfl
theorem OK(n m:Nat) (b v:cg) (r:List (Nat×cg)):nZ n b ((m,v)::r)=bif n==m then(m,b)::r else(m,v)::nZ n b r:=rfl
theorem OL(n m:Nat) (v:Nat) (r:List (Nat×Nat)):mq n ((m,v)::r)=bif n==m then mq n r else(m,v)::mq n r:=rfl
theorem LD(n:Nat):mq n []=[]:=rfl
theorem Sw(d:Nat) (v:SV):S.put ⟨sl,bx,lv,nx⟩ (some d) v=⟨(d,v)::sl,bx,lv,nx⟩:=rfl
theorem OM(v:SV):S.put ⟨sl,bx,lv,nx⟩ none v=⟨sl,bx,lv,nx⟩:=rfl
theorem ON(n:Nat):bQ ⟨sl,bx,lv,nx⟩ (.t n)=lk n sl:=rfl
theorem OO(v:AV):bQ ⟨sl,bx,lv,nx⟩ (.k v)=some (.dat v none):=rfl
def OP:Option SV->Option AV
 |some (.dat a _)=>some a
 |some (.rp cs)=>some (.ref cs)
 |_=>none
theorem LF(cs:List AV):OP (some (.rp cs))=some (.ref cs):=rfl
theorem OQ(a:AV) (q:Option Nat):OP (some (.dat a q))=some a:=rfl
theorem LG(n:Nat):aR ⟨sl,bx,lv,nx⟩ (.t n)=OP (lk n sl):=rfl
theorem LH(v:AV):aR ⟨sl,bx,lv,nx⟩ (.k v)=some v:=rfl
def NX:Option AV->Option (List AV)->Option (List AV)
 |some a,some as=>some (a::as)
 |_,_=>none
theorem LI(a:AV) (as:List AV):NX (some a) (some as)=some (a::as):=rfl
theorem LJ(x:bD) (r:List bD):dA ⟨sl,bx,lv,nx⟩ (x::r)=NX (aR ⟨sl,bx,lv,nx⟩ x) (dA ⟨sl,bx,lv,nx⟩ r):=rfl
theorem Ip:dA ⟨sl,bx,lv,nx⟩ []=some []:=rfl
theorem LK(b i:Nat):jg C b i [] J ⟨sl,bx,lv,nx⟩=J ⟨sl,bx,lv,nx⟩:=rfl
theorem OR(b i:Nat) (d:Option Nat) (o:bT) (r:List CO):jg C b i (⟨d,o,none⟩::r) J ⟨sl,bx,lv,nx⟩=bJ C (b+i) o (fun v s'=>jg C b (i+1) r J (s'.put d v)) ⟨sl,bx,lv,nx⟩:=rfl
def lT(want:Bool) (yes no:Prop):Option SV->Prop
 |some (.dat (.bool b) _)=>(b=want->yes)/\(b=!want->no)
 |some .undef=>no
 |_=>False
theorem LL(b i t:Nat) (w:Bool) (d:Option Nat) (o:bT) (r:List CO):jg C b i (⟨d,o,some (t,w)⟩::r) J ⟨sl,bx,lv,nx⟩=
  lT w (bJ C (b+i) o (fun v s'=>jg C b (i+1) r J (s'.put d v)) ⟨sl,bx,lv,nx⟩) (jg C b (i+1) r J (S.put ⟨sl,bx,lv,nx⟩ d .undef)) (lk t sl):=by
 simp only[jg,ee,lT]
 cases lk t sl with
 |none=>rfl
 |some v=>cases v with
  |dat a q=>cases a<;>rfl
  |ptr=>rfl
  |rp=>rfl
  |undef=>rfl
  |vs=>rfl
  |ot=>rfl
  |raw=>rfl
  |pt=>rfl
class KP where
 yes:Prop
 no:Prop
def gd(w:Bool) (v:Option SV) [k:KP]:Prop:=lT w k.yes k.no v
theorem mB(w:Bool) (yes no:Prop) (v:Option SV):lT w yes no v=@gd w v ⟨yes,no⟩:=rfl
theorem Iq(w:Bool) (yes no:Prop):@gd w (some .undef) ⟨yes,no⟩=no:=rfl
theorem Ir(yes no:Prop) (q:Option Nat):@gd true (some (.dat (.bool true) q)) ⟨yes,no⟩=yes:=by simp[gd,lT]
theorem GC(yes no:Prop) (q:Option Nat):@gd true (some (.dat (.bool false) q)) ⟨yes,no⟩=no:=by simp[gd,lT]
theorem Is(yes no:Prop) (q:Option Nat):@gd false (some (.dat (.bool false) q)) ⟨yes,no⟩=yes:=by simp[gd,lT]
theorem GD(yes no:Prop) (q:Option Nat):@gd false (some (.dat (.bool true) q)) ⟨yes,no⟩=no:=by simp[gd,lT]
theorem Wi(id:Nat) (x:bD):bJ C id (.mv x) K ⟨sl,bx,lv,nx⟩=aj (bQ ⟨sl,bx,lv,nx⟩ x) fun v=>K v ⟨sl,bx,lv,nx⟩:=rfl
def yZ(a b:Option SV) (k:SV->Prop):AV->Prop
 | .bool t=>aj a fun u=>aj b fun v=>(t=true->k u)/\(t=false->k v)
 |_=>False
theorem OS(id:Nat) (c a b:bD):bJ C id (.pick c a b) K ⟨sl,bx,lv,nx⟩=aj (aR ⟨sl,bx,lv,nx⟩ c) (yZ (bQ ⟨sl,bx,lv,nx⟩ a) (bQ ⟨sl,bx,lv,nx⟩ b) fun v=>K v ⟨sl,bx,lv,nx⟩):=rfl
def pk(a b:Option SV) (c:AV) [k:Kn SV]:Prop:=yZ a b k.run c
theorem mC(a b:Option SV) (k:SV->Prop) (c:AV):yZ a b k c=@pk a b c ⟨k⟩:=rfl
theorem LM(k:SV->Prop) (b:Option SV) (v:SV):@pk (some v) b (.bool true) ⟨k⟩=aj b fun _=>k v:=by simp[pk,yZ]
theorem LN(k:SV->Prop) (a:Option SV) (v:SV):@pk a (some v) (.bool false) ⟨k⟩=aj a fun _=>k v:=by
 cases a<;>simp[pk,yZ]
theorem LO(id:Nat) (cs:List AV):bJ C id (.alloc cs) K ⟨sl,bx,lv,nx⟩=K (.ptr id 0) ⟨sl,(id,⟨cs,[]⟩)::bx,lv,nx⟩:=rfl
theorem Sx(id:Nat) (x:bD):bJ C id (.box x) K ⟨sl,bx,lv,nx⟩=aj (aR ⟨sl,bx,lv,nx⟩ x) fun a=>jD a none=true/\K (.ptr id 0) ⟨sl,(id,⟨a.cells,[]⟩)::bx,lv,nx⟩:=rfl
def RM(sz:Option Nat) (bx:List (Nat×cg)) (k:SV->Prop):SV->Prop
 | .ptr b off=>aj (cm b bx) fun x=>aj (bG x.cells off sz) fun a=>k (.dat a (match sz with|none=>er off x.tags|some _=>none))
 | .rp cs=>aj (bG cs 0 sz) fun a=>k (.dat a none)
 |_=>False
theorem Wj(id:Nat) (x:bD) (sz:Option Nat):bJ C id (.ld x sz) K ⟨sl,bx,lv,nx⟩=aj (bQ ⟨sl,bx,lv,nx⟩ x) (RM sz bx fun v=>K v ⟨sl,bx,lv,nx⟩):=rfl
theorem OT(k:SV->Prop) (b off:Nat):RM none bx k (.ptr b off)=aj (cm b bx) fun x=>aj (bG x.cells off none) fun a=>k (.dat a (er off x.tags)):=rfl
theorem OU(k:SV->Prop) (b off n:Nat):RM (some n) bx k (.ptr b off)=aj (cm b bx) fun x=>aj (bG x.cells off (some n)) fun a=>k (.dat a none):=rfl
theorem Sy(k:SV->Prop) (sz:Option Nat) (cs:List AV):RM sz bx k (.rp cs)=aj (bG cs 0 sz) fun a=>k (.dat a none):=rfl
def gC(off sz:Nat) (q:Option Nat) (tags:List (Nat×Nat)):List (Nat×Nat):=
 match q with
 |some q=>(off,q)::tags.filter (fun p=>p.1<off||off+sz<=p.1)
 |none=>tags.filter (fun p=>p.1<off||off+sz<=p.1)
def Sz(sz off:Nat) (x:cg) (k:cg->Prop):SV->Prop
 | .dat a q=>jD a q=true/\a.cells.length=sz/\off+sz<=x.cells.length/\k ⟨setCells x.cells off a.cells,gC off sz q x.tags⟩
 |_=>False
def V2(sz:Nat) (bx:List (Nat×cg)) (v:Option SV) (k:List (Nat×cg)->Prop):SV->Prop
 | .ptr b off=>aj (cm b bx) fun x=>aj v (Sz sz off x fun y=>k (nZ b y bx))
 |_=>False
theorem Wk(id:Nat) (x v:bD) (sz:Nat):bJ C id (.st x v sz) K ⟨sl,bx,lv,nx⟩=aj (bQ ⟨sl,bx,lv,nx⟩ x) (V2 sz bx (bQ ⟨sl,bx,lv,nx⟩ v) fun b=>K .undef ⟨sl,b,lv,nx⟩):=by
 show aj _ _=aj _ _
 cases hx:bQ ⟨sl,bx,lv,nx⟩ x with
 |none=>rfl
 |some p=>cases p with
  |ptr b off=>
   show aj _ _=aj _ _
   cases hb:cm b bx with
   |none=>rfl
   |some y=>
    show aj _ _=aj _ _
    cases hv:bQ ⟨sl,bx,lv,nx⟩ v with
    |none=>rfl
    |some u=>cases u with
     |dat a q=>cases q<;>rfl
     |_=>rfl
  |_=>rfl
theorem SA(sz b off:Nat) (v:Option SV) (k:List (Nat×cg)->Prop):V2 sz bx v k (.ptr b off)=aj (cm b bx) fun x=>aj v (Sz sz off x fun y=>k (nZ b y bx)):=rfl
theorem SB(sz off:Nat) (cs:List AV) (tg:List (Nat×Nat)) (k:cg->Prop) (a:AV) (q:Option Nat):Sz sz off ⟨cs,tg⟩ k (.dat a q)=(jD a q=true/\a.cells.length=sz/\off+sz<=cs.length/\k ⟨setCells cs off a.cells,gC off sz q tg⟩):=rfl
theorem LP(off sz:Nat):gC off sz none []=[]:=rfl
theorem LQ(off sz q:Nat):gC off sz (some q) []=[(off,q)]:=rfl
def RO(off:Nat) (k:SV->Prop):SV->Prop
 | .ptr b o=>k (.ptr b (o+off))
 | .rp cs=>k (.rp (cs.drop off))
 | .pt 2 ps=>k (.pt 2 (ps.drop off))
 |_=>False
theorem Wl(id:Nat) (x:bD) (off:Nat):bJ C id (.fa x off) K ⟨sl,bx,lv,nx⟩=aj (bQ ⟨sl,bx,lv,nx⟩ x) (RO off fun v=>K v ⟨sl,bx,lv,nx⟩):=rfl
theorem SC(k:SV->Prop) (b o off:Nat):RO off k (.ptr b o)=k (.ptr b (o+off)):=rfl
theorem SD(k:SV->Prop) (cs:List AV) (off:Nat):RO off k (.rp cs)=k (.rp (cs.drop off)):=rfl
def SE(d:Nat) (k:SV->Prop):SV->Prop
 | .ptr b o=>k (.ptr b (o+d))
 | .rp cs=>k (.rp (cs.drop d))
 |_=>False
theorem SF(id:Nat) (x i:bD) (n z:Nat):bJ C id (.Ay x i n z) K ⟨sl,bx,lv,nx⟩=aj (bQ ⟨sl,bx,lv,nx⟩ x) fun p=>aj (aR ⟨sl,bx,lv,nx⟩ i) fun a=>aj (idxOf a) fun i=>(0<=i/\i<n)/\SE (i.toNat*z) (fun v=>K v ⟨sl,bx,lv,nx⟩) p:=rfl
theorem SG(k:SV->Prop) (b o d:Nat):SE d k (.ptr b o)=k (.ptr b (o+d)):=rfl
theorem SH(k:SV->Prop) (cs:List AV) (d:Nat):SE d k (.rp cs)=k (.rp (cs.drop d)):=rfl
theorem SI(k:IntKind) (i:Int):idxOf (.int k i)=some i:=rfl
theorem SJ(id:Nat) (x i:bD) (z:Nat):bJ C id (.Bl x i z) K ⟨sl,bx,lv,nx⟩=aj (aR ⟨sl,bx,lv,nx⟩ x) fun l=>aj (aR ⟨sl,bx,lv,nx⟩ i) fun a=>aj (idxOf a) fun i=>aj (rowsOf l) fun xs=>(0<=i/\i<xs.length)/\aj (xs[i.toNat]?) fun row=>row.length=z/\K (.rp row) ⟨sl,bx,lv,nx⟩:=rfl
theorem OV(xs:List (List AV)):rowsOf (.sl xs)=some xs:=rfl
theorem LR:rowsOf .bM=some []:=rfl
def Ew(k:List AV->Prop):AV->Prop
 | .agg cs=>k cs
 |_=>False
theorem SK(k:List AV->Prop) (cs:List AV):Ew k (.agg cs)=k cs:=rfl
theorem SL(id:Nat) (x:bD) (off:Nat) (sz:Option Nat):bJ C id (.Sd x off sz) K ⟨sl,bx,lv,nx⟩=aj (aR ⟨sl,bx,lv,nx⟩ x) (Ew fun cs=>aj (bG cs off sz) fun a=>K (.dat a none) ⟨sl,bx,lv,nx⟩):=rfl
theorem SM(id:Nat) (x i:bD) (n z:Nat) (sz:Option Nat):bJ C id (.K1 x i n z sz) K ⟨sl,bx,lv,nx⟩=aj (aR ⟨sl,bx,lv,nx⟩ x) (Ew fun cs=>aj (aR ⟨sl,bx,lv,nx⟩ i) fun a=>aj (idxOf a) fun i=>(0<=i/\i<n)/\aj (bG cs (i.toNat*z) sz) fun a=>K (.dat a none) ⟨sl,bx,lv,nx⟩):=rfl
theorem SN(id:Nat) (op:BinOp) (x y:bD):bJ C id (.bin op x y) K ⟨sl,bx,lv,nx⟩=aj (aR ⟨sl,bx,lv,nx⟩ x) fun a=>aj (aR ⟨sl,bx,lv,nx⟩ y) fun b=>aj (ep op a b) fun v=>K (.dat v none) ⟨sl,bx,lv,nx⟩:=rfl
theorem SO(id:Nat) (ks:List CK) (neg:Bool) (x y:bD):bJ C id (.eqc ks neg x y) K ⟨sl,bx,lv,nx⟩=aj (aR ⟨sl,bx,lv,nx⟩ x) (Ew fun as=>aj (aR ⟨sl,bx,lv,nx⟩ y) (Ew fun bs=>aj (bn ks as bs) fun e=>K (.dat (.bool (e !=neg)) none) ⟨sl,bx,lv,nx⟩)):=rfl
theorem Wm(id:Nat) (neg:Bool) (x y:bD):bJ C id (.bb neg x y) K ⟨sl,bx,lv,nx⟩=aj (aR ⟨sl,bx,lv,nx⟩ x) fun a=>aj (aR ⟨sl,bx,lv,nx⟩ y) fun b=>aj (RH neg a b) fun v=>K (.dat v none) ⟨sl,bx,lv,nx⟩:=rfl
theorem Wn(id:Nat) (op:UnOp) (x:bD):bJ C id (.un op x) K ⟨sl,bx,lv,nx⟩=aj (aR ⟨sl,bx,lv,nx⟩ x) fun a=>aj (Oi op a) fun v=>K (.dat v none) ⟨sl,bx,lv,nx⟩:=rfl
theorem OW(id:Nat) (k:IntKind) (x:bD):bJ C id (.kF k x) K ⟨sl,bx,lv,nx⟩=aj (aR ⟨sl,bx,lv,nx⟩ x) fun a=>aj (AA k a) fun v=>K (.dat v none) ⟨sl,bx,lv,nx⟩:=rfl
theorem OX(id:Nat) (k:FloatKind) (x:bD):bJ C id (.Ah k x) K ⟨sl,bx,lv,nx⟩=aj (aR ⟨sl,bx,lv,nx⟩ x) fun a=>aj (yj k a) fun v=>K (.dat v none) ⟨sl,bx,lv,nx⟩:=rfl
theorem OY(id:Nat) (k:IntKind) (x:bD):bJ C id (.Bm k x) K ⟨sl,bx,lv,nx⟩=aj (aR ⟨sl,bx,lv,nx⟩ x) fun a=>aj (uC k a) fun v=>K (.dat v none) ⟨sl,bx,lv,nx⟩:=rfl
theorem OZ(id:Nat) (x:bD):bJ C id (.nC x) K ⟨sl,bx,lv,nx⟩=aj (aR ⟨sl,bx,lv,nx⟩ x) fun a=>aj (Cz a) fun v=>K (.dat v none) ⟨sl,bx,lv,nx⟩:=rfl
theorem Wo(id:Nat) (e:Xt) (x:bD):bJ C id (.xt e x) K ⟨sl,bx,lv,nx⟩=aj (aR ⟨sl,bx,lv,nx⟩ x) fun a=>aj (RI e a) fun v=>K (.dat v none) ⟨sl,bx,lv,nx⟩:=rfl
theorem Wp(b:Nat):RI .Aw (.float .f64 b)=some (.int .u64 b):=rfl
theorem Wq(n:Int):RI .ffrom (.int .u64 n)=some (.float .f64 n.toNat):=rfl
theorem Ws(b:Nat):RI .rte (.float .f64 b)=Bt b:=rfl
def O0(n z:Nat) (s:S) (k:SV->S->Prop):SV->Prop
 | .rp cs=>n*z<=cs.length/\k (.dat (.sl (cN z n cs)) none) s
 | .ptr b off=>4<=b/\aj (cm b s.boxes) fun bx=>n*z<=(bx.cells.drop off).length/\k (.dat (.sl (cN z n (bx.cells.drop off))) none) (iB [b] [bx.cells] s)
 |_=>False
theorem SP(id:Nat) (x:bD) (n z:Nat):bJ C id (.Gd x n z) K ⟨sl,bx,lv,nx⟩=aj (bQ ⟨sl,bx,lv,nx⟩ x) (O0 n z ⟨sl,bx,lv,nx⟩ K):=by
 show aj _ _=aj _ _
 cases bQ ⟨sl,bx,lv,nx⟩ x with
 |none=>rfl
 |some v=>cases v<;>rfl
theorem O1(n z:Nat) (s:S) (k:SV->S->Prop) (cs:List AV):O0 n z s k (.rp cs)=(n*z<=cs.length/\k (.dat (.sl (cN z n cs)) none) s):=rfl
theorem O2(n z:Nat) (k:SV->S->Prop) (b off:Nat):O0 n z ⟨sl,bx,lv,nx⟩ k (.ptr b off)=(4<=b/\aj (cm b bx) fun y=>n*z<=(y.cells.drop off).length/\k (.dat (.sl (cN z n (y.cells.drop off))) none) (iB [b] [y.cells] ⟨sl,bx,lv,nx⟩)):=rfl
def SQ(s:S) (i:bD) (k:AV->Prop):AV->Prop
 | .str b=>aj (aR s i) fun a=>aj (idxOf a) fun j=>aj (E8 b j) k
 |_=>False
theorem SR(id:Nat) (x i:bD):bJ C id (.Se x i) K ⟨sl,bx,lv,nx⟩=aj (aR ⟨sl,bx,lv,nx⟩ x) (SQ ⟨sl,bx,lv,nx⟩ i fun v=>K (.dat v none) ⟨sl,bx,lv,nx⟩):=by
 show aj _ _=aj _ _
 cases aR ⟨sl,bx,lv,nx⟩ x with
 |none=>rfl
 |some v=>cases v<;>rfl
theorem O3(s:S) (i:bD) (k:AV->Prop) (b:ByteArray):SQ s i k (.str b)=aj (aR s i) fun a=>aj (idxOf a) fun j=>aj (E8 b j) k:=rfl
theorem O4(id n:Nat):bJ C id (.HC n) K ⟨sl,bx,lv,nx⟩=K (.dat (.int .i64 n) none) ⟨sl,bx,lv,nx⟩:=rfl
theorem O5(id f:Nat) (args:List bD):bJ C id (.call f args) K ⟨sl,bx,lv,nx⟩=aj (dA ⟨sl,bx,lv,nx⟩ args) fun as=>xj C f as id lv fun v l=>K v ⟨sl,bx,l,nx⟩:=rfl
def BL(C:bz) (id:Nat) (lv:List (Nat×Nat)) (as:List AV) (k:SV->List (Nat×Nat)->Prop):AV->Prop
 | .fn (.func f) first caps=>xj C f (first++as++caps) id lv k
 |_=>False
@[congr] theorem SS (id:Nat) (lv:List (Nat×Nat)) (as:List AV) (k:SV->List (Nat×Nat)->Prop) {v v':AV} (h:v=v'):BL C id lv as k v=BL C id lv as k v':=by rw[h]
def AT(h:Bool):Option SV->Option (List (Option AV)×List Nat)->Option (List (Option AV)×List Nat)
 |some (.dat a _),some p=>some (some a::p.1,p.2)
 |some (.rp cs),some p=>some (some (.ref cs)::p.1,p.2)
 |some (.ptr b 0),some p=>some (none::p.1,b::p.2)
 |some (.pt 0 [(b,0)]),some p=>bif h then some (some .hole::p.1,b::p.2)else none
 |_,_=>none
theorem It(h:Bool) (a:AV) (q:Option Nat) (p:List (Option AV)×List Nat):AT h (some (.dat a q)) (some p)=some (some a::p.1,p.2):=rfl
theorem Iu(h:Bool) (cs:List AV) (p:List (Option AV)×List Nat):AT h (some (.rp cs)) (some p)=some (some (.ref cs)::p.1,p.2):=rfl
theorem Iv(h:Bool) (b:Nat) (p:List (Option AV)×List Nat):AT h (some (.ptr b 0)) (some p)=some (none::p.1,b::p.2):=rfl
theorem O6(h:Bool):de h ⟨sl,bx,lv,nx⟩ []=some ([],[]):=rfl
theorem SU(h:Bool) (x:bD) (r:List bD):de h ⟨sl,bx,lv,nx⟩ (x::r)=AT h (bQ ⟨sl,bx,lv,nx⟩ x) (de h ⟨sl,bx,lv,nx⟩ r):=by
 rw[de];unfold AT
 cases bQ ⟨sl,bx,lv,nx⟩ x with
 |none=>rfl
 |some v=>
  cases de h ⟨sl,bx,lv,nx⟩ r with
  |none=>cases v with
   |ptr b o=>cases o<;>rfl
   |pt k ps=>match k,ps with
    |0,[(b,0)]=>rfl
    |0,[(b,o+1)]=>rfl
    |0,[]=>rfl
    |0,(_,0)::_::_=>rfl
    |0,(_,o+1)::_::_=>rfl
    |k+1,_=>rfl
   |_=>rfl
  |some p=>
   obtain⟨as,bs⟩:=p
   cases v with
   |ptr b o=>cases o<;>rfl
   |pt k ps=>match k,ps with
    |0,[(b,0)]=>rfl
    |0,[(b,o+1)]=>rfl
    |0,[]=>rfl
    |0,(_,0)::_::_=>rfl
    |0,(_,o+1)::_::_=>rfl
    |k+1,_=>rfl
   |_=>rfl
theorem Iw:bh bx []=some []:=rfl
def NY:Option cg->Option (List (List AV))->Option (List (List AV))
 |some x,some css=>some (x.cells::css)
 |_,_=>none
theorem LS(x:cg) (css:List (List AV)):NY (some x) (some css)=some (x.cells::css):=rfl
theorem LU(b:Nat) (bs:List Nat):bh bx (b::bs)=NY (cm b bx) (bh bx bs):=rfl
theorem Iy:cU []=true:=rfl
theorem LV(b:Nat) (bs:List Nat):cU (b::bs)=(!bs.contains b&&cU bs):=rfl
theorem LW(b:Nat) (bs:List Nat) (cs:List AV) (css:List (List AV)):dc (b::bs) (cs::css) bx=dc bs css (nZ b ⟨cs,[]⟩ bx):=rfl
theorem GF:dU bx []=some []:=rfl
theorem Iz(b:Nat) (bs:List Nat):dU bx (b::bs)=FB (cm b bx) (dU bx bs):=rfl
theorem GG(cs:List AV) (css:List (List AV)):FB (some ⟨cs,[]⟩) (some css)=some (cs::css):=rfl
theorem IA(css:List (List AV)):dc [] css bx=bx:=rfl
def BM(C:bz) (f id:Nat) (bx:List (Nat×cg)) (lv:List (Nat×Nat)) (k:SV->List (Nat×cg)->List (Nat×Nat)->Prop) (p:List (Option AV)×List Nat):Prop:=
 cU p.2=true/\aj (bh bx p.2) fun css=>yY C f css p.1 p.2 id bx lv k
theorem IB(f id:Nat) (as:List (Option AV)) (ids:List Nat) (k:SV->List (Nat×cg)->List (Nat×Nat)->Prop):BM C f id bx lv k (as,ids)=(cU ids=true/\aj (bh bx ids) fun css=>yY C f css as ids id bx lv k):=rfl
def IC(C:bz) (f:Nat) (bx:List (Nat×cg)) (k:SV->List (Nat×cg)->Prop) (p:List (Option AV)×List Nat):Prop:=
 cU p.2=true/\aj (bh bx p.2) fun css=>BK C f css p.1 fun v css'=>k (.dat v none) (dc p.2 css' bx)
theorem ID(f:Nat) (as:List (Option AV)) (ids:List Nat) (k:SV->List (Nat×cg)->Prop):IC C f bx k (as,ids)=(cU ids=true/\aj (bh bx ids) fun css=>BK C f css as fun v css'=>k (.dat v none) (dc ids css' bx)):=rfl
theorem LY(id f:Nat) (args:List bD):bJ C id (.tj f args) K ⟨sl,bx,lv,nx⟩=aj (de true ⟨sl,bx,lv,nx⟩ args) (IC C f bx fun v b=>K v ⟨sl,b,lv,nx⟩):=rfl
theorem LZ(id f:Nat) (args:List bD):bJ C id (.aB f args) K ⟨sl,bx,lv,nx⟩=aj (de true ⟨sl,bx,lv,nx⟩ args) (BM C f id bx lv fun v b l=>K v ⟨sl,b,l,nx⟩):=rfl
theorem L0(id:Nat) (g:bD) (args:List bD):bJ C id (.eS g args) K ⟨sl,bx,lv,nx⟩=aj (aR ⟨sl,bx,lv,nx⟩ g) fun a=>aj (dA ⟨sl,bx,lv,nx⟩ args) fun as=>BL C id lv as (fun v l=>K v ⟨sl,bx,l,nx⟩) a:=by
 show aj _ _=aj _ _
 cases hx:aR ⟨sl,bx,lv,nx⟩ g with
 |none=>rfl
 |some a=>
  show(match a with| .fn (.func f) first caps=>_|_=>False)=_
  cases hy:dA ⟨sl,bx,lv,nx⟩ args with
  |none=>cases a<;>first|rfl|(rename_i f _ _;cases f<;>rfl)
  |some as=>cases a<;>first|rfl|(rename_i f _ _;cases f<;>rfl)
theorem IE(id f:Nat) (as first caps:List AV) (k:SV->List (Nat×Nat)->Prop):BL C id lv as k (.fn (.func f) first caps)=xj C f (first++as++caps) id lv k:=rfl
def xU(C:bz) (id:Nat) (bx:List (Nat×cg)) (lv:List (Nat×Nat)) (p:List (Option AV)×List Nat) (k:SV->List (Nat×cg)->List (Nat×Nat)->Prop):AV->Prop
 | .fn (.func f) [] []=>BM C f id bx lv k p
 |_=>False
@[congr] theorem RQ (id:Nat) (bx:List (Nat×cg)) (lv:List (Nat×Nat)) {p p':List (Option AV)×List Nat} (k:SV->List (Nat×cg)->List (Nat×Nat)->Prop) {v v':AV} (h1:p=p') (h:v=v'):xU C id bx lv p k v=xU C id bx lv p' k v':=by rw[h,h1]
theorem IF(id:Nat) (g:bD) (args:List bD):bJ C id (.gN g args) K ⟨sl,bx,lv,nx⟩=aj (aR ⟨sl,bx,lv,nx⟩ g) fun a=>aj (de true ⟨sl,bx,lv,nx⟩ args) fun p=>xU C id bx lv p (fun v b l=>K v ⟨sl,b,l,nx⟩) a:=by
 show aj _ _=aj _ _
 cases hx:aR ⟨sl,bx,lv,nx⟩ g with
 |none=>rfl
 |some a=>
  show(match a with| .fn (.func f) [] []=>_|_=>False)=_
  cases hy:de true ⟨sl,bx,lv,nx⟩ args with
  |none=>cases a<;>first|rfl|(rename_i f x y;cases f<;>first|rfl|(cases x<;>first|rfl|(cases y<;>rfl)))
  |some as=>cases a<;>first|rfl|(rename_i f x y;cases f<;>first|rfl|(cases x<;>first|rfl|(cases y<;>rfl)))
def BN(C:bz) (f:Nat) (bx:List (Nat×cg)) (k:SV->Prop) (p:List (Option AV)×List Nat):Prop:=
 cU p.2=true/\aj (dU bx p.2) fun css=>BJ C f css p.1 k
theorem L1(id f:Nat) (args:List bD):bJ C id (.yg f args) K ⟨sl,bx,lv,nx⟩=aj (de true ⟨sl,bx,lv,nx⟩ args) (BN C f bx fun v=>K v ⟨sl,bx,lv,nx⟩):=rfl
theorem IG(f:Nat) (as:List (Option AV)) (ids:List Nat) (k:SV->Prop):BN C f bx k (as,ids)=(cU ids=true/\aj (dU bx ids) fun css=>BJ C f css as k):=rfl
def xV(C:bz) (bx:List (Nat×cg)) (p:List (Option AV)×List Nat) (k:SV->Prop):AV->Prop
 | .fn (.func f) [] []=>BN C f bx k p
 |_=>False
@[congr] theorem RR (bx:List (Nat×cg)) {p p':List (Option AV)×List Nat} (k:SV->Prop) {v v':AV} (h1:p=p') (h:v=v'):xV C bx p k v=xV C bx p' k v':=by rw[h,h1]
theorem II(id:Nat) (g:bD) (args:List bD):bJ C id (.qx g args) K ⟨sl,bx,lv,nx⟩=aj (aR ⟨sl,bx,lv,nx⟩ g) fun a=>aj (de true ⟨sl,bx,lv,nx⟩ args) fun p=>xV C bx p (fun v=>K v ⟨sl,bx,lv,nx⟩) a:=by
 show aj _ _=aj _ _
 cases hx:aR ⟨sl,bx,lv,nx⟩ g with
 |none=>rfl
 |some a=>
  show(match a with| .fn (.func f) [] []=>_|_=>False)=_
  cases hy:de true ⟨sl,bx,lv,nx⟩ args with
  |none=>cases a<;>first|rfl|(rename_i f x y;cases f<;>first|rfl|(cases x<;>first|rfl|(cases y<;>rfl)))
  |some as=>cases a<;>first|rfl|(rename_i f x y;cases f<;>first|rfl|(cases x<;>first|rfl|(cases y<;>rfl)))
theorem GH(f:Nat) (p:List (Option AV)×List Nat) (k:SV->Prop):xV C bx p k (.fn (.func f) [] [])=BN C f bx k p:=rfl
theorem GI(id f:Nat) (p:List (Option AV)×List Nat) (k:SV->List (Nat×cg)->List (Nat×Nat)->Prop):xU C id bx lv p k (.fn (.func f) [] [])=BM C f id bx lv k p:=rfl
theorem SW(id:Nat) (neg:Bool) (x:bD):bJ C id (.NK neg x) K ⟨sl,bx,lv,nx⟩=aj (aR ⟨sl,bx,lv,nx⟩ x) fun a=>aj (CA neg a) fun v=>K (.dat (.bool v) none) ⟨sl,bx,lv,nx⟩:=rfl
theorem SX(id:Nat) (x:bD) (i:Nat):bJ C id (.ext x i) K ⟨sl,bx,lv,nx⟩=aj (aR ⟨sl,bx,lv,nx⟩ x) fun a=>aj (HF a i) fun v=>K (.dat v none) ⟨sl,bx,lv,nx⟩:=rfl
theorem O7(b:Nat) (cs:List AV) (b' o:Nat):ov b cs (.ptr b' o)=bif b'==b then .rp (cs.drop o)else .ptr b' o:=rfl
theorem O8(b:Nat) (cs:List AV) (a:AV) (q:Option Nat):ov b cs (.dat a q)=.dat a q:=rfl
theorem O9(b:Nat) (cs cs':List AV):ov b cs (.rp cs')=.rp cs':=rfl
theorem Pa(b:Nat) (cs:List AV):ov b cs .undef=.undef:=rfl
theorem L2(b:Nat) (cs:List AV):yp b cs []=[]:=rfl
theorem Pb(b:Nat) (cs:List AV) (t:Nat) (v:SV) (r:List (Nat×SV)):yp b cs ((t,v)::r)=(t,ov b cs v)::yp b cs r:=rfl
theorem L3(n:Nat):lg n []=[]:=rfl
theorem Pc(n m:Nat) (v:cg) (r:List (Nat×cg)):lg n ((m,v)::r)=bif n==m then lg n r else(m,v)::lg n r:=rfl
theorem L4(css:List (List AV)) (s:S):iB [] css s=s:=rfl
theorem Pd(b:Nat) (bs:List Nat) (cs:List AV) (css:List (List AV)):iB (b::bs) (cs::css) ⟨sl,bx,lv,nx⟩=iB bs css ⟨yp b cs sl,lg b bx,lv,nx⟩:=rfl
theorem IJ(css:List (List AV)):lZ [] css=[]:=by cases css<;>rfl
theorem IK(a:AV) (as:List (Option AV)) (css:List (List AV)):lZ (some a::as) css=a::lZ as css:=by cases css<;>rfl
theorem IL(as:List (Option AV)) (cs:List AV) (css:List (List AV)):lZ (none::as) (cs::css)=.ref cs::lZ as css:=rfl
theorem Pe:jE []=true:=rfl
theorem SY(b:Nat) (bs:List Nat):jE (b::bs)=(decide (4<=b)&&jE bs):=rfl
def SZ(fn:Fn) (as:List AV) (s:S) (k:SV->S->Prop) (p:List (Option AV)×List Nat):Prop:=
 (cU p.2&&jE p.2)=true/\aj (bh s.boxes p.2) fun css=>k (.dat (.fn fn as (lZ p.1 css)) none) (iB p.2 css s)
theorem Pf(fn:Fn) (as:List AV) (k:SV->S->Prop) (ps:List (Option AV)) (ids:List Nat):SZ fn as ⟨sl,bx,lv,nx⟩ k (ps,ids)=((cU ids&&jE ids)=true/\aj (bh bx ids) fun css=>k (.dat (.fn fn as (lZ ps css)) none) (iB ids css ⟨sl,bx,lv,nx⟩)):=rfl
theorem Ta(id:Nat) (fn:Fn) (a b:List bD):bJ C id (.Bo fn a b) K ⟨sl,bx,lv,nx⟩=aj (dA ⟨sl,bx,lv,nx⟩ a) fun as=>aj (de false ⟨sl,bx,lv,nx⟩ b) (SZ fn as ⟨sl,bx,lv,nx⟩ K):=rfl
def Tc(mx:Bool) (k:AV->Prop):List AV->Prop
 |[]=>False
 |a::r=>aj (r.foldlM (NM mx) a) k
theorem Wt(id:Nat) (mx:Bool) (args:List bD):bJ C id (.mm mx args) K ⟨sl,bx,lv,nx⟩=aj (dA ⟨sl,bx,lv,nx⟩ args) (Tc mx fun v=>K (.dat v none) ⟨sl,bx,lv,nx⟩):=by
 show aj _ _=aj _ _
 cases dA ⟨sl,bx,lv,nx⟩ args with
 |none=>rfl
 |some l=>cases l<;>rfl
theorem Td(mx:Bool) (k:AV->Prop) (a b:AV):Tc mx k [a,b]=aj (NM mx a b) k:=by simp[Tc]
theorem Te(kd:IntKind) (x y:Int):NM true (.int kd x) (.int kd y)=some (.int kd (if y>x then y else x)):=rfl
theorem Pg(kd:IntKind) (x y:Int):NM false (.int kd x) (.int kd y)=some (.int kd (if y<x then y else x)):=rfl
theorem L5(id:Nat) (zs:List AV) (parts:List (Nat×Nat×bD)):bJ C id (.build zs parts) K ⟨sl,bx,lv,nx⟩=aj (jf ⟨sl,bx,lv,nx⟩ parts) fun ps=>K (.dat (.agg (iA zs ps)) none) ⟨sl,bx,lv,nx⟩:=rfl
def FC(off sz:Nat):Option AV->Option (List (Nat×List AV))->Option (List (Nat×List AV))
 |some a,some ps=>if a.cells.length=sz/\jD a none=true then some ((off,a.cells)::ps)else none
 |_,_=>none
theorem IM(off sz:Nat) (x:bD) (r:List (Nat×Nat×bD)):jf ⟨sl,bx,lv,nx⟩ ((off,sz,x)::r)=FC off sz (aR ⟨sl,bx,lv,nx⟩ x) (jf ⟨sl,bx,lv,nx⟩ r):=rfl
theorem GJ:jf ⟨sl,bx,lv,nx⟩ []=some []:=rfl
theorem gQ(off sz:Nat) (a:AV) (ps:List (Nat×List AV)) (h:a.cells.length=sz) (h':jD a none=true):FC off sz (some a) (some ps)=some ((off,a.cells)::ps):=by simp[FC,h,h']
theorem Tf(id e z:Nat) (xs:List bD):bJ C id (.gw e z xs) K ⟨sl,bx,lv,nx⟩=aj (lY ⟨sl,bx,lv,nx⟩ z xs) fun rows=>K (.dat (.sl rows) (some id)) ⟨sl,bx,(id,e)::lv,nx⟩:=rfl
def Pj(z:Nat):Option AV->Option (List (List AV))->Option (List (List AV))
 |some a,some rows=>if a.cells.length=z/\jD a none=true then some (a.cells::rows)else none
 |_,_=>none
theorem L6(z:Nat) (x:bD) (r:List bD):lY ⟨sl,bx,lv,nx⟩ z (x::r)=Pj z (aR ⟨sl,bx,lv,nx⟩ x) (lY ⟨sl,bx,lv,nx⟩ z r):=rfl
theorem IN(z:Nat):lY ⟨sl,bx,lv,nx⟩ z []=some []:=rfl
theorem jH(z:Nat) (a:AV) (rows:List (List AV)) (h:a.cells.length=z) (h':jD a none=true):Pj z (some a) (some rows)=some (a.cells::rows):=by simp[Pj,h,h']
theorem Tg(id e z bytes:Nat) (x y:bD):bJ C id (.app e z bytes x y) K ⟨sl,bx,lv,nx⟩=aj (bQ ⟨sl,bx,lv,nx⟩ x) fun
   | .dat a q=>aj (rowsOf a) fun xs=>aj (aR ⟨sl,bx,lv,nx⟩ y) fun b=>aj (rowsOf b) fun ys=>
     (xs.length+ys.length)*bytes<=140737488355328/\(∀r∈xs,r.length=z)/\(∀r∈ys,r.length=z)/\
     (match a,q with
      | .bM,_=>if ys=[]then K (.dat .bM none) ⟨sl,bx,lv,nx⟩else K (.dat (.sl (xs++ys)) (some id)) ⟨sl,bx,(id,e)::lv,nx⟩
      | .sl _,some q=>er q lv=some e/\K (.dat (.sl (xs++ys)) (some id)) ⟨sl,bx,(id,e)::mq q lv,nx⟩
      |_,_=>False)
   |_=>False:=rfl
theorem Th(id z:Nat) (x:bD) (lo hi:Option bD):bJ C id (.HD z x lo hi) K ⟨sl,bx,lv,nx⟩=aj (aR ⟨sl,bx,lv,nx⟩ x) fun a=>aj (rowsOf a) fun xs=>aj (yl ⟨sl,bx,lv,nx⟩ lo) fun l=>aj (ym ⟨sl,bx,lv,nx⟩ xs hi) fun h=>(0<=l/\l<=h/\h<=xs.length)/\(∀r∈xs,r.length=z)/\K (.dat (yo a xs l h) none) ⟨sl,bx,lv,nx⟩:=rfl
theorem L7:yl ⟨sl,bx,lv,nx⟩ none=some 0:=rfl
theorem Pk(x:bD):yl ⟨sl,bx,lv,nx⟩ (some x)=vR (aR ⟨sl,bx,lv,nx⟩ x):=by cases h:aR ⟨sl,bx,lv,nx⟩ x<;>simp[yl,vR,h]
theorem L8(xs:List (List AV)):ym ⟨sl,bx,lv,nx⟩ xs none=some (xs.length:Int):=rfl
theorem Pm(xs:List (List AV)) (x:bD):ym ⟨sl,bx,lv,nx⟩ xs (some x)=vR (aR ⟨sl,bx,lv,nx⟩ x):=by cases h:aR ⟨sl,bx,lv,nx⟩ x<;>simp[ym,vR,h]
theorem Pn(k:IntKind) (i:Int):vR (some (.int k i))=some i:=rfl
theorem Ti(xs ys:List (List AV)) (l h:Int):yo (.sl ys) xs l h=.sl ((xs.take h.toNat).drop l.toNat):=rfl
theorem Po(xs:List (List AV)) (l h:Int):yo .bM xs l h=.bM:=rfl
def RS(k:SV->Prop):SV->Prop
 | .ptr b o=>k (.ptr b o)
 | .rp cs=>k (.rp cs)
 | .dat (.fn (.func f) as bs) q=>k (.dat (.fn (.func f) as bs) q)
 | .dat (.ref cs) _=>k (.rp cs)
 |_=>False
theorem Wu(id:Nat) (x:bD):bJ C id (.nc x) K ⟨sl,bx,lv,nx⟩=aj (bQ ⟨sl,bx,lv,nx⟩ x) (RS fun v=>K v ⟨sl,bx,lv,nx⟩):=by
 show aj _ _=aj _ _
 cases bQ ⟨sl,bx,lv,nx⟩ x with
 |none=>rfl
 |some v=>cases v with
  |dat a q=>cases a<;>first|rfl|(rename_i f _ _;cases f<;>rfl)
  |_=>rfl
theorem Tj(k:SV->Prop) (b o:Nat):RS k (.ptr b o)=k (.ptr b o):=rfl
theorem Tk(k:SV->Prop) (cs:List AV) (q:Option Nat):RS k (.dat (.ref cs) q)=k (.rp cs):=rfl
theorem Tl(k:SV->Prop) (cs:List AV):RS k (.rp cs)=k (.rp cs):=rfl
theorem Pp:aw C .skip Q ⟨sl,bx,lv,nx⟩=Q .normal ⟨sl,bx,lv,nx⟩:=rfl
def Aq(k:S->Prop) (n:Nat):S->Prop:=fun s=>k {s with nx:=n}
theorem Tm(ops:List CO):aw C (.Cv ops) Q ⟨sl,bx,lv,nx⟩=jg C nx 0 ops (Aq (Q .normal) (nx+ops.length)) ⟨sl,bx,lv,nx⟩:=rfl
def L9(ops:List CO) (dQ:List (Nat×Nat)) (s:S) (F:List CO->S->Prop):Prop:=∃ids,(cU ids&&jE ids)=true/\aj (bh s.boxes ids) fun css=>∃ro,qD (nA ro 0 ops) dQ (iB ids css s).nx (iB ids css s).slots=true/\F (nA ro 0 ops) (iB ids css s)
class KF where
 k:List CO->S->Prop
def dg(ops:List CO) (dQ:List (Nat×Nat)) (s:S) [k:KF]:Prop:=L9 ops dQ s k.k
theorem Wv(ops:List CO) (dQ:List (Nat×Nat)) (s:S) (F:List CO->S->Prop):L9 ops dQ s F=@dg ops dQ s ⟨F⟩:=rfl
theorem qf{ops:List CO} {dQ:List (Nat×Nat)} {s:S} {F:List CO->S->Prop} (h:qD ops dQ s.nx s.slots=true) (hk:F ops s):@dg ops dQ s ⟨F⟩:=⟨[],rfl,[],by rw[oZ];exact h,by rw[oZ];exact hk⟩
theorem IP{ops:List CO} {dQ:List (Nat×Nat)} {s:S} {F:List CO->S->Prop} (ro:List Nat) (h:qD (nA ro 0 ops) dQ s.nx s.slots=true) (hk:F (nA ro 0 ops) s):@dg ops dQ s ⟨F⟩:=⟨[],rfl,ro,h,hk⟩
def RU(C:bz) (nx:Nat) (K:S->Prop) (ops:List CO) (s:S):Prop:=jg C nx 0 ops K s
theorem Tn(nx:Nat) (K:S->Prop) (o:CO) (ops:List CO):RU C nx K (o::ops) ⟨sl,bx,lv,nx⟩=jg C nx 0 (o::ops) K ⟨sl,bx,lv,nx⟩:=rfl
theorem IQ(ops:List CO) (dQ:List (Nat×Nat)):aw C (.qm ops dQ) Q ⟨sl,bx,lv,nx⟩=L9 ops dQ ⟨sl,bx,lv,nx⟩ (RU C nx (Aq (Q .normal) (nx+ops.length))):=by
 show(∃ids,_/\aj _ _)=(∃ids,_/\aj _ _)
 congr 1;funext ids;congr 2;funext css
 show Gh _ _ _ _ _=_
 unfold Gh RU;simp only[xQ];rfl
def Ww(ops:List CO) (dQ:List (Nat×Nat)) (k:Nat) (dep:List Nat) (s:S) (F G:List CO->S->Prop):Prop:=L9 ops dQ s F\/(qD (mu k dep 0 ops) dQ s.nx s.slots=true/\G (mu k dep 0 ops) s)
class KG where
 k:List CO->S->Prop
 q:List CO->S->Prop
def pg(ops:List CO) (dQ:List (Nat×Nat)) (k:Nat) (dep:List Nat) (s:S) [h:KG]:Prop:=Ww ops dQ k dep s h.k h.q
theorem Wx(ops:List CO) (dQ:List (Nat×Nat)) (k:Nat) (dep:List Nat) (s:S) (F G:List CO->S->Prop):Ww ops dQ k dep s F G=@pg ops dQ k dep s ⟨F,G⟩:=rfl
section
variable{ops:List CO} {dQ:List (Nat×Nat)} {k:Nat} {dep:List Nat} {s:S} {F G:List CO->S->Prop}
theorem y4(h:qD ops dQ s.nx s.slots=true) (hk:F ops s):@pg ops dQ k dep s ⟨F,G⟩:=.inl (qf h hk)
theorem y5(h:qD (mu k dep 0 ops) dQ s.nx s.slots=true) (hk:G (mu k dep 0 ops) s):@pg ops dQ k dep s ⟨F,G⟩:=.inr ⟨h,hk⟩
end
def IS:Option SV->Option AV
 |some (.dat p none)=>some p
 |_=>none
theorem Pq(p:AV):IS (some (.dat p none))=some p:=rfl
def Pt(d:Option Nat) (ds:List Nat) (X:AV->S->Prop) (s:S):Prop:=aj d fun d=>aj (IS (lk d s.slots)) fun p=>X p (tf ds s)
theorem Pu(d:Option Nat) (ds:List Nat) (X:AV->S->Prop):Pt d ds X ⟨sl,bx,lv,nx⟩=aj d fun d=>aj (IS (lk d sl)) fun p=>X p ⟨nD ds sl,bx,lv,nx⟩:=rfl
theorem Pv(ops:List CO) (dQ:List (Nat×Nat)) (k:Nat) (dep:List Nat):aw C (.xH ops dQ k dep) Q ⟨sl,bx,lv,nx⟩=Ww ops dQ k dep ⟨sl,bx,lv,nx⟩ (RU C nx (Aq (Q .normal) (nx+ops.length))) (RU C nx (Pt (pD k ops) (LC ops) fun p=>Aq (Q (.panic (dS p))) (nx+ops.length))):=by
 show(_\/_)=(_\/_)
 congr 1
 ·exact IQ sl bx lv nx ops dQ
 ·unfold On RU
  congr 1
  rw[Ev,NW]
  congr 1
  funext s
  unfold Pt
  apply propext
  constructor
  ·rintro⟨d,p,h1,h2,h3⟩
   rw[h1]
   show aj (IS (lk d s.slots)) _
   rw[h2];exact h3
  ·intro h
   cases hd:pD k ops with
   |none=>rw[hd]at h;exact h.elim
   |some d=>
    rw[hd]at h
    have h:aj (IS (lk d s.slots)) _:=h
    cases hp:lk d s.slots with
    |none=>rw[hp]at h;exact h.elim
    |some v=>cases v with
     |dat p q=>cases q with
      |none=>rw[hp]at h;exact⟨d,p,rfl,hp,h⟩
      |some _=>rw[hp]at h;exact h.elim
     |_=>rw[hp]at h;exact h.elim
theorem Pw(k:S->Prop) (n:Nat):Aq k n ⟨sl,bx,lv,nx⟩=k ⟨sl,bx,lv,n⟩:=rfl
theorem To(a b:bp):aw C (.seq a b) Q ⟨sl,bx,lv,nx⟩=aw C a (jZ (aw C b Q) Q) ⟨sl,bx,lv,nx⟩:=rfl
theorem IT(a b:bp):aw C (.join a b) Q ⟨sl,bx,lv,nx⟩=aw C a (jZ (down (aw C b Q)) Q) ⟨sl,bx,lv,nx⟩:=rfl
def tB(a b:Prop):AV->Prop
 | .bool t=>(t=true->a)/\(t=false->b)
 |_=>False
theorem Px(c:bD) (a b:bp):aw C (.cond c a b) Q ⟨sl,bx,lv,nx⟩=aj (aR ⟨sl,bx,lv,nx⟩ c) (tB (aw C a Q ⟨sl,bx,lv,nx⟩) (aw C b Q ⟨sl,bx,lv,nx⟩)):=rfl
def Tp(n z:Nat) (a:Option AV) (k:SV->Prop):SV->Prop
 | .ptr b off=>aj a fun a=>aj (idxOf a) fun h=>(0<=h/\h<=n)/\k (.vs b off h.toNat z)
 |_=>False
theorem Tq(id:Nat) (x:bD) (n z:Nat) (hi:bD):bJ C id (.Sf x n z hi) K ⟨sl,bx,lv,nx⟩=aj (bQ ⟨sl,bx,lv,nx⟩ x) (Tp n z (aR ⟨sl,bx,lv,nx⟩ hi) fun v=>K v ⟨sl,bx,lv,nx⟩):=by
 show aj _ _=aj _ _
 cases bQ ⟨sl,bx,lv,nx⟩ x with
 |none=>rfl
 |some v=>cases v<;>rfl
theorem Py(n z:Nat) (a:Option AV) (k:SV->Prop) (b off:Nat):Tp n z a k (.ptr b off)=aj a fun a=>aj (idxOf a) fun h=>(0<=h/\h<=n)/\k (.vs b off h.toNat z):=rfl
theorem Pz(k:SV->Prop) (ps:List (Nat×Nat)) (off:Nat):RO off k (.pt 2 ps)=k (.pt 2 (ps.drop off)):=rfl
theorem IU(b:Nat) (p:List (Option AV)×List Nat):AT true (some (.pt 0 [(b,0)])) (some p)=some (some .hole::p.1,b::p.2):=rfl
def Ex(k:SV->Prop):Option Nat->List (Nat×Nat)->Prop
 |none,(b,o)::_=>k (.ptr b o)
 |some n,ps=>n<=ps.length/\k (.pt 0 (ps.take n))
 |_,_=>False
def Ma(sz:Option Nat) (k:SV->Prop):SV->Prop
 | .pt 2 ps=>Ex k sz ps
 |_=>False
theorem Tt(id:Nat) (x:bD) (sz:Option Nat):bJ C id (.jX x sz) K ⟨sl,bx,lv,nx⟩=aj (bQ ⟨sl,bx,lv,nx⟩ x) (Ma sz fun v=>K v ⟨sl,bx,lv,nx⟩):=by
 show aj _ _=aj _ _
 cases bQ ⟨sl,bx,lv,nx⟩ x with
 |none=>rfl
 |some v=>cases v with
  |pt k ps=>match k,sz,ps with
   |2,none,(_,_)::_=>rfl
   |2,none,[]=>rfl
   |2,some _,[]=>rfl
   |2,some _,_::_=>rfl
   |0,_,_=>rfl
   |1,_,_=>rfl
   |k+3,_,_=>rfl
  |_=>rfl
theorem PA(sz:Option Nat) (k:SV->Prop) (ps:List (Nat×Nat)):Ma sz k (.pt 2 ps)=Ex k sz ps:=rfl
theorem PB(k:SV->Prop) (b o:Nat) (ps:List (Nat×Nat)):Ex k none ((b,o)::ps)=k (.ptr b o):=rfl
theorem PC(k:SV->Prop) (b o:Nat) (ps:List (Nat×Nat)):Ex k (some 1) ((b,o)::ps)=k (.pt 0 [(b,o)]):=by simp[Ex]
@[congr] theorem Wy (sz:Option Nat) (k:SV->Prop) {v v':SV} (h:v=v'):Ma sz k v=Ma sz k v':=by rw[h]
@[congr] theorem Wz (k:SV->Prop) (sz:Option Nat) {v v':List (Nat×Nat)} (h:v=v'):Ex k sz v=Ex k sz v':=by rw[h]
theorem PD(b:Nat) (cs:List AV) (k:Nat) (ps:List (Nat×Nat)):ov b cs (.pt k ps)=.pt k ps:=rfl
def FD(a b:Prop):AV->Prop
 | .bool t=>(t=true->a)/\(t=false->b)
 |_=>False
def IV(id e z bytes:Nat) (s:S) (K:SV->S->Prop) (b off n z':Nat):SV->Prop
 | .ptr b' _=>(b'=b/\z'=z)/\aj (cm b s.boxes) fun y=>(n*z<=(y.cells.drop off).length/\n*bytes<=140737488355328)/\
   FD (K (.dat .bM none) s) (K (.dat (.sl (cN z n (y.cells.drop off))) (some id)) {s with live:=(id,e)::s.live}) (.bool (n==0))
 |_=>False
def NZ(id e z bytes:Nat) (s:S) (K:SV->S->Prop) (x:Option SV):SV->Prop
 | .vs b off n z'=>aj x (IV id e z bytes s K b off n z')
 |_=>False
theorem IW(a b:Prop) (n:Nat):FD a b (.bool (n==0))=(if n=0 then a else b):=by
 by_cases h:n=0
 ·subst h;simp[FD]
 ·simp[FD,h]
theorem PE(id e z bytes:Nat) (y x:bD):bJ C id (.Bp e z bytes y x) K ⟨sl,bx,lv,nx⟩=aj (bQ ⟨sl,bx,lv,nx⟩ y) (NZ id e z bytes ⟨sl,bx,lv,nx⟩ K (bQ ⟨sl,bx,lv,nx⟩ x)):=by
 show aj _ _=aj _ _
 cases bQ ⟨sl,bx,lv,nx⟩ y with
 |none=>rfl
 |some v=>
  cases v<;>try rfl
  show aj _ _=aj _ _
  cases bQ ⟨sl,bx,lv,nx⟩ x with
  |none=>rfl
  |some u=>
   cases u<;>try rfl
   show(_/\aj _ _)=(_/\aj _ _)
   congr 2
   funext y
   rw[IW]
theorem Mb(id e z bytes:Nat) (K:SV->S->Prop) (x:Option SV) (b off n z':Nat):NZ id e z bytes ⟨sl,bx,lv,nx⟩ K x (.vs b off n z')=aj x (IV id e z bytes ⟨sl,bx,lv,nx⟩ K b off n z'):=rfl
theorem Mc(id e z bytes:Nat) (K:SV->S->Prop) (b off n z' b' o:Nat):IV id e z bytes ⟨sl,bx,lv,nx⟩ K b off n z' (.ptr b' o)=((b'=b/\z'=z)/\aj (cm b bx) fun y=>(n*z<=(y.cells.drop off).length/\n*bytes<=140737488355328)/\
   tB (K (.dat .bM none) ⟨sl,bx,lv,nx⟩) (K (.dat (.sl (cN z n (y.cells.drop off))) (some id)) ⟨sl,bx,(id,e)::lv,nx⟩) (.bool (n==0))):=rfl
def cd(c:AV) [k:KP]:Prop:=tB k.yes k.no c
theorem mD(a b:Prop) (c:AV):tB a b c=@cd c ⟨a,b⟩:=rfl
theorem Md(a b:Prop):@cd (.bool true) ⟨a,b⟩=a:=by simp[cd,tB]
theorem Me(a b:Prop):@cd (.bool false) ⟨a,b⟩=b:=by simp[cd,tB]
theorem Mf(id:Nat) (c:bp):aw C (.block id c) Q ⟨sl,bx,lv,nx⟩=aw C c (gO id Q) ⟨sl,bx,lv,nx⟩:=rfl
theorem PF(id:Nat):aw C (.exit id) Q ⟨sl,bx,lv,nx⟩=Q (.exit id) ⟨sl,bx,lv,nx⟩:=rfl
theorem Tu:aw C .ret Q ⟨sl,bx,lv,nx⟩=Q .ret ⟨sl,bx,lv,nx⟩:=rfl
theorem Mg(l:Nat) (c r:bp):aw C (.scope l c r) Q ⟨sl,bx,lv,nx⟩=aw C c (mM l (aw C r (xI Q)) Q) ⟨sl,bx,lv,nx⟩:=rfl
theorem Mh(l:Nat):aw C (.label l) Q ⟨sl,bx,lv,nx⟩=Q .normal ⟨sl,bx,lv,nx⟩:=rfl
theorem PG(l:Nat):aw C (.goto l) Q ⟨sl,bx,lv,nx⟩=Q (.goto l) ⟨sl,bx,lv,nx⟩:=rfl
theorem Mi(k:S->Prop) (s:S) (l:Nat):jZ k Q (.goto l) s=Q (.goto l) s:=rfl
theorem PI(id:Nat) (s:S) (l:Nat):gO id Q (.goto l) s=Q (.goto l) s:=rfl
theorem Tv(l:Nat) (k:S->Prop) (s:S):mM l k Q .normal s=Q .normal s:=rfl
theorem Tw(l:Nat) (k:S->Prop) (s:S):mM l k Q .ret s=Q .ret s:=rfl
theorem Tx(l:Nat) (k:S->Prop) (s:S) (id:Nat):mM l k Q (.exit id) s=Q (.exit id) s:=rfl
theorem Tz(l:Nat) (k:S->Prop) (s:S) (l':Nat):mM l k Q (.goto l') s=(l'=l/\k s):=rfl
theorem TA(s:S):xI Q .normal s=Q .normal s:=rfl
theorem TC(s:S):xI Q .ret s=Q .ret s:=rfl
theorem TD(s:S) (id:Nat):xI Q (.exit id) s=Q (.exit id) s:=rfl
theorem Mj(k:S->Prop) (s:S):jZ k Q .normal s=k s:=rfl
theorem Mk(k:S->Prop) (s:S):jZ k Q .ret s=Q .ret s:=rfl
theorem Ml(k:S->Prop) (s:S) (id:Nat):jZ k Q (.exit id) s=Q (.exit id) s:=rfl
theorem PJ(id:Nat) (s:S):gO id Q .normal s=Q .normal s:=rfl
theorem PK(id:Nat) (s:S):gO id Q .ret s=Q .ret s:=rfl
theorem PL(id:Nat) (s:S):gO id Q (.exit id) s=Q .normal s:=by simp[gO]
theorem jI(id id':Nat) (s:S) (h:(id'==id)=false):gO id Q (.exit id') s=Q (.exit id') s:=by
 have:id'≠id:=by simpa using h
 simp[gO,this]
end
section
variable{C:bz} {Q:Exit->S->Prop} {K:SV->S->Prop} {J:S->Prop}
@[congr] theorem V3 {α:Type} {o o':Option α} (k:α->Prop) (h:o=o'):aj o k=aj o' k:=by rw[h]
@[congr] theorem Xr (id:Nat) (o:bT) (s:S):bJ C id o K s=bJ C id o K s:=rfl
@[congr] theorem WA (b i:Nat) (l:List CO) (s:S):jg C b i l J s=jg C b i l J s:=rfl
@[congr] theorem XN (c:bp) (s:S):aw C c Q s=aw C c Q s:=rfl
@[congr] theorem V4 (e:Exit) (s:S):jZ J Q e s=jZ J Q e s:=rfl
@[congr] theorem TE {J:S->Prop} (l:Nat) (e:Exit) (s:S):mM l J Q e s=mM l J Q e s:=rfl
@[congr] theorem WB (e:Exit) (s:S):xI Q e s=xI Q e s:=rfl
@[congr] theorem TF (id:Nat) (e:Exit) (s:S):gO id Q e s=gO id Q e s:=rfl
@[congr] theorem WC (n:Nat) (s:S):Aq J n s=Aq J n s:=rfl
@[congr] theorem WD {s s':S} (h:s=s'):down J s=down J s':=by rw[h]
@[congr] theorem TG (w:Bool) (yes no:Prop) {g g':Option SV} (h:g=g'):lT w yes no g=lT w yes no g':=by rw[h]
@[congr] theorem V5 {a a' b b':Option SV} (k:SV->Prop) {c c':AV} (ha:a=a') (hb:b=b') (hc:c=c'):yZ a b k c=yZ a' b' k c':=by rw[ha,hb,hc]
@[congr] theorem V6 (a b:Prop) {c c':AV} (h:c=c'):tB a b c=tB a b c':=by rw[h]
@[congr] theorem Xu (sz:Option Nat) (bx:List (Nat×cg)) (k:SV->Prop) {v v':SV} (h:v=v'):RM sz bx k v=RM sz bx k v':=by rw[h]
@[congr] theorem Xv (off:Nat) (k:SV->Prop) {v v':SV} (h:v=v'):RO off k v=RO off k v':=by rw[h]
@[congr] theorem Xw {d d':Nat} (k:SV->Prop) {v v':SV} (h:v=v') (hd:d=d'):SE d k v=SE d' k v':=by rw[h,hd]
@[congr] theorem Xx (sz:Nat) (bx:List (Nat×cg)) {u u':Option SV} (k:List (Nat×cg)->Prop) {v v':SV} (hu:u=u') (h:v=v'):V2 sz bx u k v=V2 sz bx u' k v':=by rw[h,hu]
@[congr] theorem Xy (sz off:Nat) (x:cg) (k:cg->Prop) {v v':SV} (h:v=v'):Sz sz off x k v=Sz sz off x k v':=by rw[h]
@[congr] theorem WE (k:List AV->Prop) {v v':AV} (h:v=v'):Ew k v=Ew k v':=by rw[h]
@[congr] theorem Xz (m:Bool) (k:AV->Prop) {v v':List AV} (h:v=v'):Tc m k v=Tc m k v':=by rw[h]
@[congr] theorem XA (k:SV->Prop) {v v':SV} (h:v=v'):RS k v=RS k v':=by rw[h]
end
section
variable(k:IntKind) (x y:Int)
theorem TH:ep .add (.int k x) (.int k y)=some (.int k (k.wrap (x+y))):=by simp[ep,qn]
theorem TI:ep .sub (.int k x) (.int k y)=some (.int k (k.wrap (x-y))):=by simp[ep,qn]
theorem TJ:ep .mul (.int k x) (.int k y)=some (.int k (k.wrap (x*y))):=by simp[ep,qn]
theorem TK:ep .eql (.int k x) (.int k y)=some (.bool (x==y)):=by simp[ep,qn]
theorem TL:ep .neq (.int k x) (.int k y)=some (.bool (x !=y)):=by simp[ep,qn]
theorem TM:ep .lss (.int k x) (.int k y)=some (.bool (decide (x<y))):=by simp[ep,qn]
theorem TN:ep .leq (.int k x) (.int k y)=some (.bool (decide (x<=y))):=by simp[ep,qn]
theorem TO:ep .gtr (.int k x) (.int k y)=some (.bool (decide (y<x))):=by simp[ep,qn]
theorem TP:ep .geq (.int k x) (.int k y)=some (.bool (decide (y<=x))):=by simp[ep,qn]
def oa(k:IntKind) (x y:Int):Int:=k.wrap (BitVec.ofInt k.bits x&&&BitVec.ofInt k.bits y).toNat
def K0(k:IntKind) (x y:Int):Int:=k.wrap (BitVec.ofInt k.bits x|||BitVec.ofInt k.bits y).toNat
def IX(k:IntKind) (x y:Int):Int:=k.wrap (BitVec.ofInt k.bits x^^^BitVec.ofInt k.bits y).toNat
def nP(k:IntKind) (x y:Int):Int:=k.wrap (BitVec.ofInt k.bits x&&& ~~~BitVec.ofInt k.bits y).toNat
theorem TQ:ep .and (.int k x) (.int k y)=some (.int k (oa k x y)):=by simp[ep,qn,wR,oa]
theorem WG:ep .or (.int k x) (.int k y)=some (.int k (K0 k x y)):=by simp[ep,qn,wR,K0]
theorem TR:ep .xor (.int k x) (.int k y)=some (.int k (IX k x y)):=by simp[ep,qn,wR,IX]
theorem IY:ep .andNot (.int k x) (.int k y)=some (.int k (nP k x y)):=by simp[ep,qn,wR,nP]
def qg(c:Prop) [Decidable c] (v:AV):Option AV:=if c then some v else none
theorem Mm(c:Prop) [Decidable c] (v:AV) (K:AV->Prop):@wv _ (qg c v) ⟨K⟩=(c/\K v):=by
 rw[<-lS];unfold qg;split<;>simp_all
theorem TS:ep .quo (.int k x) (.int k y)=qg (y≠0) (.int k (k.wrap (x.tdiv y))):=by
 by_cases h:y=0<;>simp[ep,qn,qg,h]
theorem TT:ep .rem (.int k x) (.int k y)=qg (y≠0) (.int k (x.tmod y)):=by
 by_cases h:y=0<;>simp[ep,qn,qg,h]
theorem TU(k':IntKind):ep .shl (.int k x) (.int k' y)=qg (0<=y) (.int k (k.wrap (x*2^min y.toNat k.bits))):=by
 by_cases h:0<=y
 ·have:¬y<0:=by omega
  simp[ep,qy,qg,h,this]
 ·have:y<0:=by omega
  simp[ep,qy,qg,this]
theorem TV(k':IntKind):ep .shr (.int k x) (.int k' y)=qg (0<=y) (.int k (x.fdiv (2^min y.toNat k.bits))):=by
 by_cases h:0<=y
 ·have:¬y<0:=by omega
  simp[ep,qy,qg,h,this]
 ·have:y<0:=by omega
  simp[ep,qy,qg,this]
theorem TW(x y:Bool):RH false (.bool x) (.bool y)=some (.bool (x==y)):=rfl
theorem TX(x y:Bool):RH true (.bool x) (.bool y)=some (.bool (x !=y)):=rfl
theorem TY(b:Bool):Oi .not (.bool b)=some (.bool !b):=rfl
theorem TZ:Oi .neg (.int k x)=some (.int k (k.wrap (0-x))):=rfl
theorem T6:CA false .bM=some true:=rfl
theorem T7:CA true .bM=some false:=rfl
theorem T8(xs:List (List AV)):CA false (.sl xs)=some false:=rfl
theorem T9(xs:List (List AV)):CA true (.sl xs)=some true:=rfl
theorem Ua:Cz .bM=some (.int .i64 0):=rfl
theorem WH(xs:List (List AV)):Cz (.sl xs)=some (.int .i64 xs.length):=rfl
theorem WI(k':IntKind):AA k (.int k' x)=some (.int k (k.wrap x)):=rfl
theorem WJ(k':IntKind) (f:FloatKind):yj f (.int k' x)=some (.float f (f.nearest x)):=rfl
theorem Ub(vs:List AV) (i:Nat):HF (.qb vs) i=vs[i]?:=rfl
theorem Uc(cs:List AV):jD (.agg cs) none=true:=rfl
theorem Ud(q:Option Nat):jD (.int k x) q=true:=rfl
theorem Ue(b:Bool) (q:Option Nat):jD (.bool b) q=true:=rfl
theorem Uf(f:FloatKind) (n:Nat) (q:Option Nat):jD (.float f n) q=true:=rfl
theorem Ug(q:Option Nat):jD .bM q=true:=rfl
theorem Uh(xs:List (List AV)) (q:Option Nat):jD (.sl xs) q=true:=rfl
theorem Ui(b:ByteArray) (q:Option Nat):jD (.str b) q=true:=rfl
theorem Uj(f:Fn) (as bs:List AV) (q:Option Nat):jD (.fn f as bs) q=true:=rfl
theorem PM(cs:List AV) (q:Option Nat):jD (.ref cs) q=true:=rfl
theorem Uk(q:Option Nat):jD .yf q=true:=rfl
theorem GK(cs:List AV):AV.cells (.agg cs)=cs:=rfl
theorem GL:AV.cells (.int k x)=[.int k x]:=rfl
theorem Ey(b:Bool):AV.cells (.bool b)=[.bool b]:=rfl
theorem C4(f:FloatKind) (n:Nat):AV.cells (.float f n)=[.float f n]:=rfl
theorem Ez:AV.cells .bM=[.bM]:=rfl
theorem GM(cs:List AV):AV.cells (.ref cs)=[.ref cs]:=rfl
theorem IZ(f:Fn) (as bs:List AV):AV.cells (.fn f as bs)=[.fn f as bs]:=rfl
theorem I0(xs:List (List AV)):AV.cells (.sl xs)=[.sl xs]:=rfl
theorem wk(cs:List AV) (off:Nat):bG cs off none=cs[off]?:=rfl
theorem iF(cs:List AV) (off n:Nat) (h:off+n<=cs.length):bG cs off (some n)=some (.agg ((cs.drop off).take n)):=by simp[bG,h]
end
theorem bB{w:Bool} {yes no:Prop} {t:Bool} {q:Option Nat} (h1:t=true->@gd w (some (.dat (.bool true) q)) ⟨yes,no⟩) (h2:t=false->@gd w (some (.dat (.bool false) q)) ⟨yes,no⟩):@gd w (some (.dat (.bool t) q)) ⟨yes,no⟩:=by
 cases t
 ·exact h2 rfl
 ·exact h1 rfl
theorem aq{a b:Prop} {t:Bool} (h1:t=true->a) (h2:t=false->b):@cd (.bool t) ⟨a,b⟩:=by
 cases t
 ·simpa[cd,tB]using h2 rfl
 ·simpa[cd,tB]using h1 rfl
theorem cO{a b:Option SV} {k:SV->Prop} {t:Bool} (h1:t=true->@pk a b (.bool true) ⟨k⟩) (h2:t=false->@pk a b (.bool false) ⟨k⟩):@pk a b (.bool t) ⟨k⟩:=by
 cases t
 ·exact h2 rfl
 ·exact h1 rfl
theorem Mo(p:Nat) (ps:List Nat) (x:AV) (xs:List AV) (s:S):qE (p::ps) (x::xs) s=qE ps xs (s.put (some p) (.dat x none)):=rfl
theorem I1(s:S):qE [] [] s=s:=rfl
theorem PN(wr:List Nat) (sl:List (Nat×SV)) (bx:List (Nat×cg)) (lv:List (Nat×Nat)) (nx:Nat):tf wr ⟨sl,bx,lv,nx⟩=⟨nD wr sl,bx,lv,nx⟩:=rfl
theorem Mp(wr:List Nat):nD wr []=[]:=rfl
theorem PO(wr:List Nat) (t:Nat) (v:SV) (r:List (Nat×SV)):nD wr ((t,v)::r)=bif wr.contains t then nD wr r else(t,v)::nD wr r:=rfl
theorem PR(wr:List Nat) (F:S->Prop) (Q:Exit->S->Prop) (s:S):Fc wr F Q .normal s=down F (tf wr s):=rfl
theorem PS(wr:List Nat) (F:S->Prop) (Q:Exit->S->Prop) (s:S):Fc wr F Q .ret s=Q .ret (tf wr s):=rfl
theorem PT(wr:List Nat) (F:S->Prop) (Q:Exit->S->Prop) (id:Nat) (s:S):Fc wr F Q (.exit id) s=Q (.exit id) (tf wr s):=rfl
theorem Mq(K:S->Prop) (s:S):uH K .normal s=K s:=rfl
def XP:=
 And.intro @OD (And.intro @OE (And.intro @OF (And.intro @Ss (And.intro @Wg (And.intro @St (And.intro @Sv (And.intro @C3 (And.intro @xk (And.intro @uV (And.intro @qY (And.intro @OK (And.intro @OL (And.intro @LD (And.intro @Sw (And.intro @OM (And.intro @ON (And.intro @OO (And.intro @LF (And.intro @OQ (And.intro @LG (And.intro @LH (And.intro @LI (And.intro @LJ (And.intro @Ip (And.intro @LK (And.intro @OR (And.intro @LL (And.intro @Iq (@Ir)))))))))))))))))))))))))))))
def XQ:=
 And.intro @GC (And.intro @Is (And.intro @GD (And.intro @Wi (And.intro @OS (And.intro @LM (And.intro @LN (And.intro @LO (And.intro @Sx (And.intro @Wj (And.intro @OT (And.intro @OU (And.intro @Sy (And.intro @Wk (And.intro @SA (And.intro @SB (And.intro @LP (And.intro @LQ (And.intro @Wl (And.intro @SC (And.intro @SD (And.intro @SF (And.intro @SG (And.intro @SH (And.intro @SI (And.intro @SJ (And.intro @OV (And.intro @LR (And.intro @SK (@SL)))))))))))))))))))))))))))))
def XR:=
 And.intro @SM (And.intro @SN (And.intro @SO (And.intro @Wm (And.intro @Wn (And.intro @OW (And.intro @OX (And.intro @OY (And.intro @OZ (And.intro @Wo (And.intro @Wp (And.intro @Wq (And.intro @Ws (And.intro @SP (And.intro @O1 (And.intro @O2 (And.intro @SR (And.intro @O3 (And.intro @O4 (And.intro @O5 (And.intro @It (And.intro @Iu (And.intro @Iv (And.intro @O6 (And.intro @SU (And.intro @Iw (And.intro @LS (And.intro @LU (And.intro @Iy (@LV)))))))))))))))))))))))))))))
def XS:=
 And.intro @LW (And.intro @GF (And.intro @Iz (And.intro @GG (And.intro @IA (And.intro @IB (And.intro @LZ (And.intro @L0 (And.intro @IE (And.intro @IF (And.intro @L1 (And.intro @IG (And.intro @II (And.intro @GH (And.intro @GI (And.intro @SW (And.intro @SX (And.intro @O7 (And.intro @O8 (And.intro @O9 (And.intro @Pa (And.intro @L2 (And.intro @Pb (And.intro @L3 (And.intro @Pc (And.intro @L4 (And.intro @Pd (And.intro @IJ (And.intro @IK (@IL)))))))))))))))))))))))))))))
def XT:=
 And.intro @Pe (And.intro @SY (And.intro @Pf (And.intro @Ta (And.intro @Wt (And.intro @Td (And.intro @Te (And.intro @Pg (And.intro @L5 (And.intro @IM (And.intro @GJ (And.intro @Tf (And.intro @L6 (And.intro @IN (And.intro @Tg (And.intro @Th (And.intro @L7 (And.intro @Pk (And.intro @L8 (And.intro @Pm (And.intro @Pn (And.intro @Ti (And.intro @Po (And.intro @Wu (And.intro @Tj (And.intro @Tk (And.intro @Tl (And.intro @Pp (And.intro @Tm (@Tn)))))))))))))))))))))))))))))
def XU:=
 And.intro @IQ (And.intro @Pw (And.intro @To (And.intro @IT (And.intro @Px (And.intro @Tq (And.intro @Py (And.intro @Pz (And.intro @IU (And.intro @Tt (And.intro @PA (And.intro @PB (And.intro @PC (And.intro @PD (And.intro @PE (And.intro @Mb (And.intro @Mc (And.intro @Md (And.intro @Me (And.intro @Mf (And.intro @PF (And.intro @Tu (And.intro @Mg (And.intro @Mh (And.intro @PG (And.intro @Mi (And.intro @PI (And.intro @Tv (And.intro @Tw (@Tx)))))))))))))))))))))))))))))
def XV:=
 And.intro @Tz (And.intro @TA (And.intro @TC (And.intro @TD (And.intro @Mj (And.intro @Mk (And.intro @Ml (And.intro @PJ (And.intro @PK (And.intro @PL (And.intro @TH (And.intro @TI (And.intro @TJ (And.intro @TK (And.intro @TL (And.intro @TM (And.intro @TN (And.intro @TO (And.intro @TP (And.intro @TQ (And.intro @WG (And.intro @TR (And.intro @IY (And.intro @Mm (And.intro @TS (And.intro @TT (And.intro @TU (And.intro @TV (And.intro @TW (@TX)))))))))))))))))))))))))))))
def XW:=
 And.intro @TY (And.intro @TZ (And.intro @T6 (And.intro @T7 (And.intro @T8 (And.intro @T9 (And.intro @Ua (And.intro @WH (And.intro @WI (And.intro @WJ (And.intro @Ub (And.intro @Uc (And.intro @Ud (And.intro @Ue (And.intro @Uf (And.intro @Ug (And.intro @Uh (And.intro @Ui (And.intro @Uj (And.intro @PM (And.intro @Uk (And.intro @GK (And.intro @GL (And.intro @Ey (And.intro @C4 (And.intro @Ez (And.intro @GM (And.intro @IZ (And.intro @I0 (@wk)))))))))))))))))))))))))))))
def XX:=
 And.intro @Mo (And.intro @I1 (And.intro @PN (And.intro @Mp (And.intro @PO (And.intro @PR (And.intro @PS (And.intro @PT (@Mq))))))))
def XY:=
 And.intro @Pv (And.intro @Pu (And.intro @Pq (And.intro @LY (And.intro @ID (And.intro @Wh (And.intro @LB (And.intro @OG (And.intro @OH (And.intro @OI (And.intro @OJ (And.intro @pD.eq_1 @pD.eq_2)))))))))))
def EV:=
 And.intro @XP (And.intro @XQ (And.intro @XR (And.intro @XS (And.intro @XT (And.intro @XU (And.intro @XV (And.intro @XW (And.intro @XX @XY))))))))
section
variable{C:bz}
theorem uW{id:Nat} {o:bT} {K K':SV->S->Prop} {s:S} (hk:∀v s',K v s'->K' v s') (h:bJ C id o K s):bJ C id o K' s:=by
 obtain⟨v,d,hK,_,_,hs⟩:=qO h;exact hs.2 s .refl K' (hk _ _ hK)
theorem oF{base:Nat}:∀{l:List CO} {i:Nat} {s:S} {K K':S->Prop},(∀s,K s->K' s)->jg C base i l K s->jg C base i l K' s
 |[],i,s,K,K',hk,h=>hk s h
 |o::l,i,s,K,K',hk,h=>by
  rw[kP]at h⊢;obtain⟨v,d,hd,hk',_⟩:=eN h;exact hd.2 s .refl _ (oF hk hk')
theorem GN{id:Nat} {o:D7} {K K':SV->S->Prop} {X X':AV->S->Prop} {s:S} (hk:∀v s',K v s'->K' v s') (hx:∀p s',X p s'->X' p s') (h:bI C id o K X s):bI C id o K' X' s:=by
 cases o with
 |o c=>exact uW hk h
 |call f args=>
  simp only[bI]at h⊢
  rcases h with h|h
  ·exact .inl (uW hk h)
  ·obtain⟨as,has,h⟩:=af h
   rw[has]
   rcases h with⟨cs,h1,h2⟩|⟨p,h1,h2⟩
   ·exact .inr (.inl ⟨cs,h1,hk _ _ h2⟩)
   ·exact .inr (.inr ⟨p,h1,hx _ _ h2⟩)
 |aB f args=>
  simp only[bI]at h⊢
  rcases h with h|h
  ·exact .inl (uW hk h)
  ·obtain⟨p,hp,hn,h⟩:=af h
   obtain⟨css,hcs,h⟩:=af h;rw[hp];refine .inr ⟨hn,?_⟩;rw[hcs]
   rcases h with⟨v,css',h1,h2⟩|⟨tg,r,css',tg',h1,h2⟩
   ·exact .inl ⟨v,css',h1,hx _ _ h2⟩
   ·obtain⟨qo,hq,h2⟩:=af h2
    exact .inr ⟨tg,r,css',tg',h1,by rw[hq];exact hk _ _ h2⟩
 |eS b g args=>
  simp only[bI]at h⊢;split at h
  ·obtain⟨p,hp,hn,h⟩:=af h
   obtain⟨css,hcs,h⟩:=af h;rw[hp];refine⟨hn,?_⟩;rw[hcs]
   rcases h with⟨r,fr,css',h1,h2⟩|⟨v,css',h1,h2⟩|⟨tg,r,css',tg',h1,h2⟩
   ·exact .inl ⟨r,fr,css',h1,hk _ _ h2⟩
   ·exact .inr (.inl ⟨v,css',h1,hx _ _ h2⟩)
   ·obtain⟨qo,hq,h2⟩:=af h2
    exact .inr (.inr ⟨tg,r,css',tg',h1,by rw[hq];exact hk _ _ h2⟩)
  ·exact uW hk h
 |Ge x=>
  obtain⟨p,hp,h⟩:=af h;simp only[bI,hp,aE]
  cases p<;>first|exact hk _ _ h|exact h.elim
 |tc x=>
  obtain⟨p,hp,h⟩:=af h;simp only[bI,hp,aE]
  cases p<;>try(exact h.elim)
  rename_i k ps
  cases k<;>first|exact hk _ _ h|exact h.elim
 |RG x v=>
  obtain⟨p,hp,h⟩:=af h;simp only[bI,hp,aE]
  cases p<;>try(exact h.elim)
  rename_i b o
  cases o<;>try(exact h.elim)
  obtain⟨q,hq,h⟩:=af h;simp only[hq,aE]
  cases q<;>try(exact h.elim)
  rename_i k ps
  cases k<;>try(exact h.elim)
  obtain⟨y,hy,h1,h2⟩:=af h;simp only[hy,aE];exact⟨h1,hk _ _ h2⟩
 |Bq xs=>obtain⟨p,hp,h⟩:=af h;simp only[bI,hp];exact hk _ _ h
 |K3 x i=>
  obtain⟨p,hp,h⟩:=af h;simp only[bI,hp,aE]
  cases p<;>try(exact h.elim)
  rename_i k ps
  match k,h with
  |1,h=>
   obtain⟨a,ha,h⟩:=af h;obtain⟨j,hj,h1,h2⟩:=af h;simp only[ha,aE,hj];exact⟨h1,hk _ _ h2⟩
  |0,h=>exact h.elim
  |k+2,h=>exact h.elim
 |K4 x=>
  obtain⟨p,hp,h⟩:=af h;simp only[bI,hp,aE]
  cases p<;>try(exact h.elim)
  rename_i k ps
  match k,h with
  |1,h=>exact hk _ _ h
  |0,h=>exact h.elim
  |k+2,h=>exact h.elim
 |Az g args=>
  obtain⟨av,hav,h⟩:=af h;simp only[bI,hav,aE]
  cases av<;>try(exact h.elim)
  rename_i fn first caps
  cases fn<;>try(exact h.elim)
  cases first<;>try(exact h.elim)
  cases caps<;>try(exact h.elim)
  obtain⟨p,hp,hn,h⟩:=af h;obtain⟨css,hcs,j,o,b,h1,h2,h3⟩:=af h;simp only[hp,aE,hcs];exact⟨hn,j,o,b,h1,h2,hk _ _ h3⟩
 |Sg f caps=>obtain⟨p,hp,h⟩:=af h;simp only[bI,hp];exact hk _ _ h
 |Hx x=>obtain⟨a,ha,h1,h2⟩:=af h;simp only[bI,ha];exact⟨h1,hx _ _ h2⟩
 |Hy t x=>obtain⟨a,ha,h1,h2⟩:=af h;simp only[bI,ha];exact⟨h1,hk _ _ h2⟩
 |NL t z x=>
  obtain⟨a,ha,h⟩:=af h;obtain⟨v,hv,h⟩:=af h;simp only[bI,ha,aE,hv];exact hk _ _ h
 |RD neg x=>
  obtain⟨a,ha,h⟩:=af h;obtain⟨v,hv,h⟩:=af h;simp only[bI,ha,aE,hv];exact hk _ _ h
 |K2 neg x=>
  obtain⟨a,ha,h⟩:=af h;obtain⟨v,hv,h⟩:=af h;simp only[bI,ha,aE,hv];exact hk _ _ h
 |RE e bytes l c=>
  obtain⟨a,ha,h⟩:=af h;obtain⟨l',hl,h⟩:=af h;obtain⟨b,hb,h⟩:=af h;obtain⟨c',hc,h1,h⟩:=af h;simp only[bI,ha,aE,hl,hb,hc];exact⟨h1,hk _ _ h⟩
 |RF e x y=>
  obtain⟨p,hp,h⟩:=af h;simp only[bI,hp,aE]
  cases p<;>try(exact h.elim)
  obtain⟨b,hb,h⟩:=af h;obtain⟨ys,hy,h1,h2,h⟩:=af h;simp only[hb,aE,hy];exact⟨h1,h2,hk _ _ h⟩
theorem C5{s:S} {g:Option (Nat×Bool)} {y y' n n':Prop} (hy:y->y') (hn:n->n') (h:ee s g y n):ee s g y' n':=by
 unfold ee at h⊢;split at h
 ·exact hy h
 ·split at h
  ·exact⟨fun e=>hy (h.1 e),fun e=>hn (h.2 e)⟩
  ·exact hn h
  ·exact h.elim
theorem uc{base:Nat}:∀{l:List XO} {i:Nat} {s:S} {K K':S->Prop} {X X':AV->S->Prop},(∀s,K s->K' s)->(∀p s',X p s'->X' p s')->eJ C base i l K X s->eJ C base i l K' X' s
 |[],i,s,K,K',X,X',hk,hx,h=>hk s h
 |o::l,i,s,K,K',X,X',hk,hx,h=>C5 (GN (fun v s' h=>uc hk hx h) hx) (uc hk hx) h
theorem kR{F G:S->Prop} (h:∀s,F s->G s) {s:S} (hd:down F s):down G s:=by
 obtain⟨s1,⟨hl,hF⟩|hF⟩:=hd
 ·exact⟨s1,.inl ⟨hl,h _ hF⟩⟩
 ·exact⟨s1,.inr (h _ hF)⟩
theorem iG{F G:S->Prop} {Q Q':Exit->S->Prop} (h:∀s,F s->G s) (hq:∀e s,Q e s->Q' e s) {e:Exit} {s:S} (ha:jZ F Q e s):jZ G Q' e s:=by
 cases e<;>first|exact h _ ha|exact hq _ _ ha
theorem C6{id:Nat} {Q Q':Exit->S->Prop} (hq:∀e s,Q e s->Q' e s) {e:Exit} {s:S} (ha:gO id Q e s):gO id Q' e s:=by
 cases e with
 |exit i=>
  simp only[gO]at ha⊢;split
  ·rename_i hi;rw[if_pos hi]at ha;exact hq _ _ ha
  ·rename_i hi;rw[if_neg hi]at ha;exact hq _ _ ha
 |_=>exact hq _ _ ha
theorem pI{F G:(Exit->S->Prop)->S->Prop} (hF:∀Q Q' s,(∀e s,Q e s->Q' e s)->F Q s->G Q' s) {Q Q':Exit->S->Prop} (hq:∀e s,Q e s->Q' e s):∀{n:Nat} {s:S},nG F Q n s->nG G Q' n s
 |0,s,h=>h
 |n+1,s,h=>hF _ _ s (fun e s ha=>iG (fun s hd=>kR (fun s h=>pI hF hq h) hd) hq ha) h
theorem I2{wr:List Nat} {F:S->Prop} {Q Q':Exit->S->Prop} (hq:∀e s,Q e s->Q' e s) {e:Exit} {s:S} (h:Fc wr F Q e s):Fc wr F Q' e s:=by
 cases e<;>first|exact h|exact hq _ _ h
theorem jb:∀{c:bp} {Q Q':Exit->S->Prop} {s:S},(∀e s,Q e s->Q' e s)->aw C c Q s->aw C c Q' s:=by
 intro c
 induction c with
 |skip=>intro Q Q' s hq h;exact hq _ _ h
 |Cv ops=>intro Q Q' s hq h;exact oF (fun s h=>hq _ _ h) h
 |aO ops=>intro Q Q' s hq h;exact uc (fun s h=>hq _ _ h) (fun p s h=>hq _ _ h) h
 |qm ops dQ=>
  intro Q Q' s hq h;obtain⟨ids,hids,h⟩:=h;obtain⟨css,hcss,ro,hd,h⟩:=af h
  exact⟨ids,hids,by rw[hcss];exact⟨ro,hd,oF (fun s h=>hq _ _ h) h⟩⟩
 |xH ops dQ k dep=>
  intro Q Q' s hq h
  rcases h with⟨ids,hids,h⟩|h
  ·obtain⟨css,hcss,ro,hd,h⟩:=af h
   exact .inl ⟨ids,hids,by rw[hcss];exact⟨ro,hd,oF (fun s h=>hq _ _ h) h⟩⟩
  ·exact .inr ⟨h.1,oF (fun s ⟨d,p,h1,h2,h3⟩=>⟨d,p,h1,h2,hq _ _ h3⟩) h.2⟩
 |seq a b iha ihb=>intro Q Q' s hq h;exact iha (fun e s ha=>iG (fun s h=>ihb hq h) hq ha) h
 |join a b iha ihb=>intro Q Q' s hq h;exact iha (fun e s ha=>iG (fun s h=>kR (fun s h=>ihb hq h) h) hq ha) h
 |cond c a b iha ihb=>
  intro Q Q' s hq h;simp only[aw]at h⊢;obtain⟨v,hv,h⟩:=af h;rw[hv]
  cases v<;>try(exact h.elim)
  exact⟨fun e=>iha hq (h.1 e),fun e=>ihb hq (h.2 e)⟩
 |block id c ih=>intro Q Q' s hq h;exact ih (fun e s ha=>C6 hq ha) h
 |loop c ih=>
  intro Q Q' s hq h
  exact kR (fun s ⟨n,h⟩=>⟨n,pI (F:=aw C c) (G:=aw C c) (fun Q Q' s hq h=>ih hq h) hq h⟩) h
 |exit id=>intro Q Q' s hq h;exact hq _ _ h
 |ret=>intro Q Q' s hq h;exact hq _ _ h
 |label l=>intro Q Q' s hq h;exact hq _ _ h
 |goto l=>intro Q Q' s hq h;exact hq _ _ h
 |scope l c r ihc ihr=>
  intro Q Q' s hq h
  refine ihc (fun e s ha=>?_) h
  cases e with
  |goto l'=>
   refine⟨ha.1,ihr (fun e s hb=>?_) ha.2⟩
   cases e<;>first|exact hb|exact hq _ _ hb
  |_=>exact hq _ _ ha
 |Ai g ps wr as bd iha ihb=>
  intro Q Q' s hq h;simp only[aw]at h⊢;obtain⟨gv,hgv,xs,h1,h2,F,h3,h4,h5,h6⟩:=af h;rw[hgv]
  refine⟨xs,h1,h2,F,h3,h4,fun i x s' hx hs=>iha (fun e s ha=>?_) (h5 i x s' hx hs),fun s' hs=>hq _ _ (h6 s' hs)⟩
  cases e<;>first|exact ha.elim|exact ihb (fun e s hb=>I2 hq hb) ha
def flat(keep:List Nat):Nat->bp->bp×Nat
 |i,.join a b=>
  let p:=flat keep (i+1) a
  let q:=flat keep p.2 b
  (if keep.contains i then .join p.1 q.1 else .seq p.1 q.1,q.2)
 |i,.seq a b=>
  let p:=flat keep i a
  let q:=flat keep p.2 b
  (.seq p.1 q.1,q.2)
 |i,.cond c a b=>
  let p:=flat keep i a
  let q:=flat keep p.2 b
  (.cond c p.1 q.1,q.2)
 |i,.block id c=>(.block id (flat keep i c).1,(flat keep i c).2)
 |i,.Ai g ps wr as bd=>
  let p:=flat keep i as
  let q:=flat keep p.2 bd
  (.Ai g ps wr p.1 q.1,q.2)
 |i,.loop c=>(.loop (flat keep i c).1,(flat keep i c).2)
 |i,.scope l c r=>
  let p:=flat keep i c
  let q:=flat keep p.2 r
  (.scope l p.1 q.1,q.2)
 |i,c=>(c,i)
theorem ay{keep:List Nat}:∀{c:bp} {i:Nat} {Q:Exit->S->Prop} {s:S},aw C (flat keep i c).1 Q s->aw C c Q s:=by
 intro c
 induction c with
 |join a b iha ihb=>
  intro i Q s h;simp only[flat]at h;split at h
  ·exact iha (jb (fun e s ha=>iG (fun s h=>kR (fun s h=>ihb h) h) (fun _ _ h=>h) ha) h)
  ·exact iha (jb (fun e s ha=>iG (fun s h=>gA (ihb h)) (fun _ _ h=>h) ha) h)
 |seq a b iha ihb=>intro i Q s h;exact iha (jb (fun e s ha=>iG (fun s h=>ihb h) (fun _ _ h=>h) ha) h)
 |cond c a b iha ihb=>
  intro i Q s h;simp only[flat,aw]at h⊢;obtain⟨v,hv,h⟩:=af h;rw[hv]
  cases v<;>try(exact h.elim)
  exact⟨fun e=>iha (h.1 e),fun e=>ihb (h.2 e)⟩
 |block id c ih=>intro i Q s h;exact ih h
 |scope l c r ihc ihr=>
  intro i Q s h
  refine ihc (jb (fun e s ha=>?_) h)
  cases e with
  |goto l'=>exact⟨ha.1,ihr ha.2⟩
  |_=>exact ha
 |Ai g ps wr as bd iha ihb=>
  intro i Q s h;simp only[flat,aw]at h⊢;obtain⟨gv,hgv,xs,h1,h2,F,h3,h4,h5,h6⟩:=af h;rw[hgv]
  refine⟨xs,h1,h2,F,h3,h4,fun i x s' hx hs=>iha (jb (fun e s ha=>?_) (h5 i x s' hx hs)),h6⟩
  cases e<;>first|exact ha.elim|exact ihb ha
 |loop c ih=>
  intro i Q s h
  exact kR (fun s ⟨n,h⟩=>⟨n,pI (F:=aw C (flat keep i c).1) (G:=aw C c) (fun Q Q' s hq h=>jb hq (ih h)) (fun _ _ h=>h) h⟩) h
 |_=>intro i Q s h;exact h
theorem Mr{c:bp} {Q:Exit->S->Prop} {α:Type} (hd:α->S) (μ:α->Nat) (I:α->Prop)
  (round:∀x,I x->aw C c (jZ (down fun s=>∃y,s=hd y/\I y/\μ y<μ x) Q) (hd x)) {x:α} (hx:I x) {s:S} (h0:Le s (hd x)\/s=hd x):aw C (.loop c) Q s:=by
 have key:∀n x,I x->μ x<n->nG (aw C c) Q n (hd x):=by
  intro n
  induction n with
  |zero=>intro x _ h;omega
  |succ n ih=>
   intro x hx hn;refine jb ?_ (round x hx);intro e s ha
   refine iG ?_ (fun _ _ h=>h) ha
   intro s hd;refine kR ?_ hd
   rintro s ⟨y,rfl,hy,hlt⟩
   exact ih y hy (by omega)
 rcases h0 with h0|rfl
 ·exact⟨hd x,.inl ⟨h0,μ x+1,key _ x hx (by omega)⟩⟩
 ·exact gA ⟨μ x+1,key _ x hx (by omega)⟩
end
theorem Ul(k:IntKind) (n:Int):js (.int k n)=.dat (.int k n) none:=rfl
theorem PU(b:Bool):js (.bool b)=.dat (.bool b) none:=rfl
theorem Ms(k:FloatKind) (n:Nat):js (.float k n)=.dat (.float k n) none:=rfl
theorem Um(s:ByteArray):js (.str s)=.dat (.str s) none:=rfl
theorem PV:js .mj=.dat .mj none:=rfl
theorem PW:js .bM=.dat .bM none:=rfl
theorem WK(xs:List (List AV)):js (.sl xs)=.dat (.sl xs) none:=rfl
theorem WL(f:Fn) (as bs:List AV):js (.fn f as bs)=.dat (.fn f as bs) none:=rfl
theorem Un(cs:List AV):js (.agg cs)=.dat (.agg cs) none:=rfl
theorem Uo(cs:List AV):js (.ref cs)=.rp cs:=rfl
theorem Mt(i:Nat) (a:AV) (r:List AV):slotsOf i (a::r)=(i,js a)::slotsOf (i+1) r:=rfl
theorem I3(i:Nat):slotsOf i []=[]:=rfl
theorem PX(as:List AV):Im as=⟨slotsOf 0 as,[],[],4⟩:=rfl
theorem PY(i k:Nat) (q:IntKind) (n:Int) (r:List (Option AV)):cj i k (some (.int q n)::r)=(i,.dat (.int q n) none)::cj (i+1) k r:=rfl
theorem Mu(i k:Nat) (b:Bool) (r:List (Option AV)):cj i k (some (.bool b)::r)=(i,.dat (.bool b) none)::cj (i+1) k r:=rfl
theorem I4(i k:Nat) (q:FloatKind) (n:Nat) (r:List (Option AV)):cj i k (some (.float q n)::r)=(i,.dat (.float q n) none)::cj (i+1) k r:=rfl
theorem PZ(i k:Nat) (b:ByteArray) (r:List (Option AV)):cj i k (some (.str b)::r)=(i,.dat (.str b) none)::cj (i+1) k r:=rfl
theorem Mv(i k:Nat) (r:List (Option AV)):cj i k (some (.mj)::r)=(i,.dat .mj none)::cj (i+1) k r:=rfl
theorem Mw(i k:Nat) (r:List (Option AV)):cj i k (some (.bM)::r)=(i,.dat .bM none)::cj (i+1) k r:=rfl
theorem Up(i k:Nat) (xs:List (List AV)) (r:List (Option AV)):cj i k (some (.sl xs)::r)=(i,.dat (.sl xs) none)::cj (i+1) k r:=rfl
theorem Uq(i k:Nat) (g:Fn) (as bs:List AV) (r:List (Option AV)):cj i k (some (.fn g as bs)::r)=(i,.dat (.fn g as bs) none)::cj (i+1) k r:=rfl
theorem P1(i k:Nat) (cs:List AV) (r:List (Option AV)):cj i k (some (.agg cs)::r)=(i,.dat (.agg cs) none)::cj (i+1) k r:=rfl
theorem P2(i k:Nat) (cs:List AV) (r:List (Option AV)):cj i k (some (.ref cs)::r)=(i,.rp cs)::cj (i+1) k r:=rfl
theorem P3(i k:Nat) (t:Nat) (a:AV) (r:List (Option AV)):cj i k (some (.iface t a)::r)=(i,.dat (.iface t a) none)::cj (i+1) k r:=rfl
theorem P4(i k:Nat) (r:List (Option AV)):cj i k (some (.fq)::r)=(i,.dat .fq none)::cj (i+1) k r:=rfl
theorem P5(i k:Nat) (r:List (Option AV)):cj i k (some (.iz)::r)=(i,.dat .iz none)::cj (i+1) k r:=rfl
theorem Mx(i k:Nat) (r:List (Option AV)):cj i k (some .hole::r)=(i,.pt 0 [(k,0)])::cj (i+1) (k+1) r:=rfl
def GO:=And.intro @PY (And.intro @Mu (And.intro @I4 (And.intro @PZ (And.intro @Mv (And.intro @Mw (And.intro @Up (And.intro @Uq (And.intro @P1 (And.intro @P2 (And.intro @P3 (And.intro @P4 (And.intro @P5 @Mx))))))))))))
theorem GP(i k:Nat) (r:List (Option AV)):cj i k (none::r)=(i,.ptr k 0)::cj (i+1) (k+1) r:=rfl
theorem GQ(i k:Nat):cj i k []=[]:=rfl
theorem I5(k:Nat) (cs:List AV) (css:List (List AV)):qW k (cs::css)=(k,⟨cs,[]⟩)::qW (k+1) css:=rfl
theorem GR(k:Nat):qW k []=[]:=rfl
theorem My(css:List (List AV)) (as:List (Option AV)):oC css as=⟨cj 0 0 as,qW 0 css,[],4⟩:=rfl
theorem P6(res:List gb) (r:AV) (s:S):fin res r none .normal s=aj (eM s res) fun p=>p.1=r:=by simp[fin,D8]
theorem P7(res:List gb) (r:AV) (s:S):fin res r none .ret s=aj (eM s res) fun p=>p.1=r:=by simp[fin,D8]
theorem P8(res:List gb) (r:AV) (e:Nat) (s:S):fin res r (some e) .normal s=aj (eM s res) fun p=>p.1=r/\D8 (some e) p.2 s.live:=rfl
theorem P9(res:List gb) (r:AV) (e:Nat) (s:S):fin res r (some e) .ret s=aj (eM s res) fun p=>p.1=r/\D8 (some e) p.2 s.live:=rfl
theorem WM(e q:Nat) (lv:List (Nat×Nat)):D8 (some e) (some q) lv=(er q lv=some e):=rfl
theorem Mz(res:List gb) (r:AV) (css:List (List AV)) (s:S):BI res r none css .normal s=aj (eM s res) fun p=>p.1=r/\gi s.boxes 0 css:=by simp[BI,D8]
theorem MA(res:List gb) (r:AV) (css:List (List AV)) (s:S):BI res r none css .ret s=aj (eM s res) fun p=>p.1=r/\gi s.boxes 0 css:=by simp[BI,D8]
theorem MB(l:List (Nat×cg)) (k:Nat):gi l k []=True:=rfl
theorem Qa(l:List (Nat×cg)) (k:Nat) (cs:List AV) (css:List (List AV)):gi l k (cs::css)=(aj (cm k l) (fun x=>x.cells=cs)/\gi l (k+1) css):=rfl
def Ur:Option SV->Option (AV×Option Nat)
 |some (.dat a q)=>some (a,q)
 |_=>none
theorem Qb(a:AV) (q:Option Nat):Ur (some (.dat a q))=some (a,q):=rfl
theorem Qc(s:S) (t:Nat):eM s [.tmp t]=Ur (lk t s.slots):=rfl
def I6(sz:Option Nat) (bx:List (Nat×cg)):Option SV->Option (AV×Option Nat)
 |some (.ptr b off)=>match cm b bx with
  |some x=>match bG x.cells off sz with
   |some a=>some (a,match sz with|none=>er off x.tags|some _=>none)
   |none=>none
  |none=>none
 |_=>none
def AU(off:Nat) (sz:Option Nat):Option cg->Option (AV×Option Nat)
 |some x=>match bG x.cells off sz with
  |some a=>some (a,match sz with|none=>er off x.tags|some _=>none)
  |none=>none
 |none=>none
theorem Qd(s:S) (t:Nat) (sz:Option Nat):eM s [.cell t sz]=I6 sz s.boxes (lk t s.slots):=rfl
theorem MC(sz:Option Nat) (bx:List (Nat×cg)) (b off:Nat):I6 sz bx (some (.ptr b off))=AU off sz (cm b bx):=by
 simp only[I6,AU]
theorem MD(off n:Nat) (x:cg):AU off (some n) (some x)=(bG x.cells off (some n)).map fun a=>(a,none):=by
 simp only[AU]<;>cases bG x.cells off (some n)<;>rfl
theorem ME(off:Nat) (x:cg):AU off none (some x)=(x.cells[off]?).map fun a=>(a,er off x.tags):=by
 simp only[AU,bG]<;>cases x.cells[off]?<;>rfl
theorem Qe(s:S):eM s []=some (.qb [],none):=rfl
theorem Qf(s:S) (x y:gb) (r:List gb):eM s (x::y::r)=(mW s (x::y::r)).map fun as=>(.qb as,none):=rfl
def I7:Option (AV×Option Nat)->Option (List AV)->Option (List AV)
 |some p,some as=>some (p.1::as)
 |_,_=>none
theorem MF(a:AV) (q:Option Nat) (as:List AV):I7 (some (a,q)) (some as)=some (a::as):=rfl
theorem Qg(s:S) (x:gb) (r:List gb):mW s (x::r)=I7 (eM s [x]) (mW s r):=by
 simp only[mW,I7,eM]<;>cases GB s x<;>cases mW s r<;>rfl
theorem MG(s:S):mW s []=some []:=rfl
def XZ:=
 And.intro @Ul (And.intro @PU (And.intro @Ms (And.intro @Um (And.intro @PV (And.intro @PW (And.intro @WK (And.intro @WL (And.intro @Un (And.intro @Uo (And.intro @Mt (And.intro @I3 (And.intro @PX (And.intro @GO (And.intro @GP (And.intro @GQ (And.intro @I5 (And.intro @GR (And.intro @My (And.intro @P6 (And.intro @P7 (And.intro @P8 (And.intro @P9 (And.intro @WM (And.intro @Mz (And.intro @MA (And.intro @MB (And.intro @Qa (And.intro @Qb (@Qc)))))))))))))))))))))))))))))
def X0:=
 And.intro @Qd (And.intro @MC (And.intro @MD (And.intro @ME (And.intro @Qe (And.intro @Qf (And.intro @MF (And.intro @Qg (@MG))))))))
def EW:=
 And.intro @XZ (@X0)
abbrev I (n:Int):AV:=.int .i64 n
abbrev B (b:Bool):AV:=.bool b
abbrev D (n:Nat):AV:=.float .f64 n
def bV(n:Int):Int:=IntKind.i64.wrap n
def aF{α:Type} (f:α->List AV):Option (List α)->AV
 |none=>.bM
 |some l=>.sl (l.map f)
def aD(n:Int):List AV:=[I n]
structure Ph where
 on:Bool
 min:Int
 C7:Int
 max:Int
 top:Int
 step:Int
 eO:Int
 red:Int
 walk:Int
 fc:Int
 iH:Int
 lock:Bool
 rest:Bool
 deriving Inhabited,DecidableEq
def Ph.cells(p:Ph):List AV:=[B p.on,I p.min,I p.C7,I p.max,I p.top,I p.step,I p.eO,I p.red,I p.walk,I p.fc,I p.iH,B p.lock,B p.rest]
structure gu where
 phase:Int
 on:Nat
 off:Nat
 delay:Nat
 extend:Nat
 maxOn:Int
 kg:Int
 deriving Inhabited,DecidableEq
def gu.cells(d:gu):List AV:=[I d.phase,D d.on,D d.off,D d.delay,D d.extend,I d.maxOn,I d.kg]
structure Rl where
 bars:Int
 clear:Int
 ki:Int
 exit:Int
 delay:Int
 green:Int
 lU:Int
 hold:Int
 stay:Int
 most:Int
 limit:Int
 deriving Inhabited,DecidableEq
def Rl.cells(r:Rl):List AV:=[I r.bars,I r.clear,I r.ki,I r.exit,I r.delay,I r.green,I r.lU,I r.hold,I r.stay,I r.most,I r.limit]
structure Bs where
 set:Int
 lock:Int
 deriving Inhabited,DecidableEq
def Bs.cells(b:Bs):List AV:=[I b.set,I b.lock]
structure Gr where
 a:Option (List Int)
 b:Option (List Int)
 deriving Inhabited,DecidableEq
def Gr.cells(g:Gr):List AV:=[aF aD g.a,aF aD g.b]
structure Tb where
 phases:List Ph
 groups:Option (List Gr)
 conflict:List Int
 aA:Option (List gu)
 aV:Option (List Rl)
 bl:Option (List Bs)
 extend:Int
 cV:Int
 start:Int
 revert:Int
 least:Int
 bq:List Int
 dw:Int
 share:Int
 deriving Inhabited,DecidableEq
def Tb.cells(t:Tb):List AV:=
 t.phases.flatMap Ph.cells++(aF Gr.cells t.groups::(t.conflict.map I++(aF gu.cells t.aA::aF Rl.cells t.aV::aF Bs.cells t.bl::
  I t.extend::I t.cV::I t.start::I t.revert::I t.least::(t.bq.map I++[I t.dw,I t.share]))))
structure Tb.Ok (t:Tb):Prop where
 phases:t.phases.length=8
 conflict:t.conflict.length=8
 bq:t.bq.length=8
 groups:(t.groups.getD []).length<=1048576
 rows:∀g∈t.groups.getD [],(g.a.getD []).length<=1048576/\(g.b.getD []).length<=1048576
 WN:(t.aA.getD []).length<=1048576
 aV:(t.aV.getD []).length<=1048576
 bl:(t.bl.getD []).length<=1048576
theorem aX{α:Type} {f:α->List AV} {z:Nat} (hf:∀x,(f x).length=z):∀{l:List α},(l.flatMap f).length=l.length*z
 |[]=>by simp
 |x::l=>by simp[List.flatMap_cons,hf,aX hf (l:=l),Nat.add_mul];omega
theorem Ph.len(p:Ph):p.cells.length=13:=rfl
theorem Tb.len{t:Tb} (h:t.Ok):t.cells.length=131:=by
 simp[Tb.cells,aX Ph.len,h.phases,h.conflict,h.bq]
theorem BO{α:Type}:∀{l:List α} {i:Nat} {x:α},l[i]? =some x->l=l.take i++x::l.drop (i+1)
 |[],i,x,h=>by simp at h
 |y::l,0,x,h=>by
  simp at h;subst h;simp
 |y::l,i+1,x,h=>by
  have:=BO (l:=l) (i:=i) (x:=x) (by simpa using h)
  simp only[List.take_succ_cons,List.drop_succ_cons,List.cons_append]
  exact congrArg (y:: ·) this
theorem y6{α:Type} {f:α->List AV} {l:List α} {i:Nat} {x:α} (h:l[i]? =some x):l.flatMap f=(l.take i).flatMap f++(f x++(l.drop (i+1)).flatMap f):=by
 conv=>lhs;rw[BO h]
 rw[List.flatMap_append,List.flatMap_cons]
theorem uX{α:Type} {l:List α} {i:Nat} {x:α} (h:l[i]? =some x):(l.take i).length=i:=by
 have:=(List.getElem?_eq_some_iff.1 h).1
 simp;omega
theorem C8{pre mid post:List AV} {off z:Nat} (h1:pre.length=off) (h2:mid.length=z):bG (pre++(mid++post)) off (some z)=some (.agg mid):=by
 subst h1 h2
 have hle:pre.length+mid.length<=(pre++(mid++post)).length:=by simp
 simp only[bG,hle,if_true,Option.some.injEq,AV.agg.injEq];simp
theorem MH{pre mid post ps:List AV} {off:Nat} (h1:pre.length=off) (h2:mid.length=ps.length):setCells (pre++(mid++post)) off ps=pre++(ps++post):=by
 subst h1;simp only[setCells];rw[<-h2];simp[List.drop_append]
theorem dW{cs ps:List AV} (h:cs.length=ps.length):setCells cs 0 ps=ps:=by
 simp only[setCells,List.take_zero,List.nil_append,Nat.zero_add,<-h,List.drop_length,List.append_nil]
theorem Tb.y7{t:Tb} {i:Nat} {p:Ph} (h:t.phases[i]? =some p):bG t.cells (i*13) (some 13)=some (.agg p.cells):=by
 unfold Tb.cells;rw[y6 h,List.append_assoc,List.append_assoc]
 exact C8 (by rw[aX Ph.len,uX h]) rfl
theorem Qh{α:Type} {l:List α} {i:Nat} {x y:α} (h:l[i]? =some x):l.set i y=l.take i++y::l.drop (i+1):=by
 have hlt:=(List.getElem?_eq_some_iff.1 h).1
 rw[List.set_eq_take_append_cons_drop,if_pos hlt]
theorem Tb.GS{t:Tb} {i:Nat} {p q:Ph} (h:t.phases[i]? =some p):setCells t.cells (i*13) q.cells={t with phases:=t.phases.set i q}.cells:=by
 unfold Tb.cells;simp only;rw[Qh h,List.flatMap_append,List.flatMap_cons]
 conv=>lhs;rw[y6 h]
 rw[List.append_assoc,List.append_assoc,List.append_assoc,List.append_assoc]
 exact MH (by rw[aX Ph.len,uX h]) rfl
end Go.Eng
namespace Go.Eng.Z
open Go
def o(d:Nat) (x:bT):CO:=⟨some d,x,none⟩
def p(d:Nat) (x:bT) (g:Nat):CO:=⟨some d,x,some (g,true)⟩
def q(d:Nat) (x:bT) (g:Nat):CO:=⟨some d,x,some (g,false)⟩
def n(x:bT):CO:=⟨none,x,none⟩
def M(d x:Nat):CO:=⟨some d,.mv (.t x),none⟩
def V(d:Nat) (v:AV):CO:=⟨some d,.mv (.k v),none⟩
def m(x:Nat):bT:=.mv (.t x)
def v(x:AV):bT:=.mv (.k x)
def l(x:Nat):bT:=.ld (.t x) none
def L(x z:Nat):bT:=.ld (.t x) (some z)
def f(x z:Nat):bT:=.fa (.t x) z
def s(x y z:Nat):bT:=.st (.t x) (.t y) z
def ss(x:Nat) (y:AV) (z:Nat):bT:=.st (.t x) (.k y) z
def A(x y a b:Nat):bT:=.Ay (.t x) (.t y) a b
def a(x y z:Nat):bT:=.Bl (.t x) (.t y) z
def P(x y:Nat):bT:=.pick (.t x) (.t y) (.k (.bool false))
def Q(x y:Nat):bT:=.pick (.t x) (.k (.bool true)) (.t y)
def h(x:Nat):bT:=.nC (.t x)
def w(x:Nat):bT:=.box (.t x)
def b(g:BinOp) (x y:Nat):bT:=.bin g (.t x) (.t y)
def bb(g:BinOp) (x:Nat) (y:AV):bT:=.bin g (.t x) (.k y)
def e(x y:Nat):bT:=.ext (.t x) y
def i(x:Int):AV:=.int .i64 x
def t(x:Nat):bD:=.t x
def k(x:AV):bD:=.k x
def r(x:List CO) (y:bp):bp:=.seq (.Cv x) y
def R(x:List CO):bp:=.Cv x
def j(x y:bp):bp:=.join x y
def c(x:Nat) (y z:bp):bp:=.cond (.t x) y z
def u(x:Nat) (y:bp):bp:=.block x y
def y:bp:=.ret
def z:bp:=.skip
def T:AV:=.bool true
def F:AV:=.bool false
def H:=
 And.intro @o.eq_1 (And.intro @p.eq_1 (And.intro @q.eq_1 (And.intro @n.eq_1 (And.intro @M.eq_1 (And.intro @V.eq_1 (And.intro @m.eq_1 (And.intro @v.eq_1 (And.intro @l.eq_1 (And.intro @L.eq_1 (And.intro @f.eq_1 (And.intro @s.eq_1 (And.intro @ss.eq_1 (And.intro @A.eq_1 (And.intro @a.eq_1 (And.intro @P.eq_1 (And.intro @Q.eq_1 (And.intro @h.eq_1 (And.intro @w.eq_1 (And.intro @b.eq_1 (And.intro @bb.eq_1 (And.intro @e.eq_1 (And.intro @i.eq_1 (And.intro @t.eq_1 (And.intro @k.eq_1 (And.intro @r.eq_1 (And.intro @R.eq_1 (And.intro @j.eq_1 (And.intro @c.eq_1 (And.intro @u.eq_1 (And.intro @y.eq_1 (And.intro @z.eq_1 (And.intro @T.eq_1 @F.eq_1))))))))))))))))))))))))))))))))
end Go.Eng.Z
