/- Part 9 of the engine and its library. -/
import Derived.Test.YtjnbemnncjbmgaaGreatPkA8
set_option linter.all false
set_option maxRecDepth 10000
set_option maxHeartbeats 4000000
namespace Go.Eng
open Go
section
variable (C:aQ) (f:Nat) (as:List AV) (id:Nat) (lv:List (Nat×Nat)) {α:Type} (a:α) (k:SV->List (Nat×Nat)->Prop)
class Kn (α:Type) where
 run:α->Prop
class Kn2 where
 run:SV->List (Nat×Nat)->Prop
def wv{α:Type} (o:Option α) [k:Kn α]:Prop:=aj o k.run
theorem ei(o:Option α) (k:α->Prop):aj o k=@wv α o ⟨k⟩:=rfl
theorem aa6(k:α->Prop):@wv α (some a) ⟨k⟩=k a:=rfl
theorem aa7(k:α->Prop):@wv α none ⟨k⟩=False:=rfl
theorem afu{o:Option α} {k:α->Prop} (h:o=some a) (hk:k a):@wv α o ⟨k⟩:=by subst h;exact hk
def BR:Prop:=
 ∃r fr,C.c f as r fr/\k (.dat r (fr.map λ_=>id)) (match fr with|some e=>(id,e)::lv|none=>lv)
def cl(C:aQ) (f:Nat) (as:List AV) (id:Nat) (lv:List (Nat×Nat)) [k:Kn2]:Prop:=BR C f as id lv k.run
theorem me:BR C f as id lv k=@cl C f as id lv ⟨k⟩:=rfl
@[congr] theorem ai5{C:aQ} {as D:List AV} (h:as=D):BR C f as id lv k=BR C f D id lv k:=by rw[h]
end
section
variable (C:aQ) (f:Nat) (css:List (List AV)) (ro:List Nat) (as:List (Option AV)) (i:Nat) {id:Nat} {lv:List (Nat×Nat)} (d:Option Nat) (ids:List Nat) (o:CO)
theorem af{C:aQ} {f:Nat} {as:List AV} {k:SV->List (Nat×Nat)->Prop} {r:AV} (h:C.c f as r none) (hk:k (.dat r none) lv):@cl C f as id lv ⟨k⟩:=⟨r,none,h,hk⟩
theorem Sw{C:aQ} {f:Nat} {as:List AV} {k:SV->List (Nat×Nat)->Prop} {r:AV} {e:Nat} (h:C.c f as r (some e)) (hk:k (.dat r (some id)) ((id,e)::lv)):@cl C f as id lv ⟨k⟩:=⟨r,some e,h,hk⟩
class Kn3 where
 run:SV->List (Nat×bH)->List (Nat×Nat)->Prop
def D9(id:Nat) (bx:List (Nat×bH)) (lv:List (Nat×Nat)) (k:SV->List (Nat×bH)->List (Nat×Nat)->Prop):Prop:=
 ∃r fr D,C.p f css as r fr D/\k (.dat r (fr.map λ_=>id)) (dm ids D bx) (match fr with|some e=>(id,e)::lv|none=>lv)
def clp(C:aQ) (f:Nat) (css:List (List AV)) (as:List (Option AV)) (ids:List Nat) (id:Nat) (bx:List (Nat×bH)) (lv:List (Nat×Nat)) [k:Kn3]:Prop:=D9 C f css as ids id bx lv k.run
theorem afv(id:Nat) (bx:List (Nat×bH)) (lv:List (Nat×Nat)) (k:SV->List (Nat×bH)->List (Nat×Nat)->Prop):D9 C f css as ids id bx lv k=@clp C f css as ids id bx lv ⟨k⟩:=rfl
theorem aZ{C:aQ} {f:Nat} {css:List (List AV)} {as:List (Option AV)} {ids:List Nat} {bx:List (Nat×bH)} {k:SV->List (Nat×bH)->List (Nat×Nat)->Prop} {r:AV} {D:List (List AV)} (h:C.p f css as r none D) (hk:k (.dat r none) (dm ids D bx) lv):@clp C f css as ids id bx lv ⟨k⟩:=⟨r,none,D,h,hk⟩
class Kn4 where
 run:SV->Prop
def Ir(k:SV->Prop):Prop:=∃r,C.p f css as r none css/\k (.dat r none)
def clr(C:aQ) (f:Nat) (css:List (List AV)) (as:List (Option AV)) [k:Kn4]:Prop:=Ir C f css as k.run
theorem afw(k:SV->Prop):Ir C f css as k=@clr C f css as ⟨k⟩:=rfl
theorem cN{C:aQ} {f:Nat} {css:List (List AV)} {as:List (Option AV)} {k:SV->Prop} {r:AV} (h:C.p f css as r none css) (hk:k (.dat r none)):@clr C f css as ⟨k⟩:=⟨r,h,hk⟩
def Ov(x:Option bH) (y:Option (List (List AV))):Option (List (List AV)):=
 match x,y with
 |some ⟨cs,[]⟩,some css=>some (cs::css)
 |_,_=>none
theorem aa8:kO ro i []=[]:=rfl
theorem afx(r:List CO):kO ro i (o::r)=(bif ro.contains i then o.ro else o)::kO ro (i+1) r:=rfl
theorem ajz(o:bG) (g:Option (Nat×Bool)):CO.ro ⟨d,o,g⟩=⟨d,o.ro,g⟩:=rfl
theorem afy(as:List aM):bG.ro (.dR f as)=.BA f as:=rfl
def CO.pq:CO:=match o.op with
 | .dR f args=>⟨o.dst,.uk f args,o.g⟩
 |_=>o
theorem ajA(f:Nat) (as:List aM) (g:Option (Nat×Bool)):CO.pq ⟨d,.dR f as,g⟩=⟨d,.uk f as,g⟩:=rfl
theorem WY(k:Nat) (D:List Nat) (i:Nat):oH k D i []=[]:=rfl
theorem aa9(k:Nat) (D:List Nat) (i:Nat) (o:CO) (r:List CO):oH k D i (o::r)=(bif i==k then o.pq else bif D.contains i then⟨none,.mv (.k .rG),none⟩else o)::oH k D (i+1) r:=by
 simp only[oH,AS,CO.pq,cond_eq_ite,md];rfl
def WZ:List CO->List Nat
 |[]=>[]
 |⟨some d,_,_⟩::r=>d::WZ r
 |⟨none,_,_⟩::r=>WZ r
theorem aba:WZ []=[]:=rfl
theorem abb(d:Nat) (o:bG) (g:Option (Nat×Bool)) (r:List CO):WZ (⟨some d,o,g⟩::r)=d::WZ r:=rfl
theorem abc(o:bG) (g:Option (Nat×Bool)) (r:List CO):WZ (⟨none,o,g⟩::r)=WZ r:=rfl
theorem MU:∀{l:List CO},(l.flatMap λo=>o.dst.toList)=WZ l
 |[]=>rfl
 |⟨some d,_,_⟩::r=>by rw[yr,MU];rfl
 |⟨none,_,_⟩::r=>by rw[yr,MU];rfl
def pD:Nat->List CO->Option Nat
 |0,o::_=>o.dst
 |k+1,_::r=>pD k r
 |_,[]=>none
theorem Z2:∀{k:Nat} {l:List CO},(l[k]?).bind CO.dst=pD k l
 |0,[]=>rfl
 |_+1,[]=>rfl
 |0,o::_=>rfl
 |k+1,_::r=>by rw[ix];exact Z2
class Kn5 where
 run:AV->List (List AV)->Prop
def Is(k:AV->List (List AV)->Prop):Prop:=∃v D,C.q f css as v D/\k v D
def clq(C:aQ) (f:Nat) (css:List (List AV)) (as:List (Option AV)) [k:Kn5]:Prop:=Is C f css as k.run
theorem afz(k:AV->List (List AV)->Prop):Is C f css as k=@clq C f css as ⟨k⟩:=rfl
theorem afA(g:aM) (as:List aM):bG.ro (.gi g as)=.rH g as:=rfl
end
section
variable{C:aQ} {Q:Exit->S->Prop} {K:SV->S->Prop} {J:S->Prop}
variable(sl:List (Nat×SV)) (bx:List (Nat×bH)) (lv:List (Nat×Nat)) (nx:Nat)
section
variable (id:Nat) (k:SV->Prop) (b f n:Nat) (ops:List CO) (yes:Prop) (h:Bool) (cs:List AV) (a:AV) (x:aM) (as:List (Option AV)) (d:Option Nat) (cJ:List (Nat×Nat)) (o:Nat) (ds:List Nat) (g:aM) (no:Prop) (X:AV->S->Prop) (css:List (List AV)) (s:S) (i:aM) (ids:List Nat) (mx:Bool) (ps:List (Nat×Nat)) (q:Option Nat) (F:List CO->S->Prop) (args:List aM) (c:aM) (fn:Fn) (m:Nat) (neg:Bool) (off:Nat) (p:List (Option AV)×List Nat) (ro:List Nat) (t:Nat) (w:Bool) (xs:List (List AV)) (z:Nat)
theorem Kq(v:SV) (r:List (Nat×SV)):lk n ((m,v)::r)=bif n==m then some v else lk n r:=rfl
theorem BS(v:bH) (r:List (Nat×bH)):bO n ((m,v)::r)=bif n==m then some v else bO n r:=rfl
theorem zc(v:Nat) (r:List (Nat×Nat)):dJ n ((m,v)::r)=bif n==m then some v else dJ n r:=rfl
theorem uN:dJ n []=none:=rfl
theorem abd(b v:bH) (r:List (Nat×bH)):nO n b ((m,v)::r)=bif n==m then(m,b)::r else(m,v)::nO n b r:=rfl
theorem abe(v:Nat) (r:List (Nat×Nat)):jj n ((m,v)::r)=bif n==m then jj n r else(m,v)::jj n r:=rfl
theorem W0:jj n []=[]:=rfl
theorem afB(d:Nat) (v:SV):S.put ⟨sl,bx,lv,nx⟩ (some d) v=⟨(d,v)::sl,bx,lv,nx⟩:=rfl
theorem abf(v:SV):S.put ⟨sl,bx,lv,nx⟩ none v=⟨sl,bx,lv,nx⟩:=rfl
theorem abg:bJ ⟨sl,bx,lv,nx⟩ (.t n)=lk n sl:=rfl
theorem abh(v:AV):bJ ⟨sl,bx,lv,nx⟩ (.k v)=some (.dat v none):=rfl
def Qd:Option SV->Option AV
 |some (.dat a _)=>some a
 |some (.rp cs)=>some (.ref cs)
 |_=>none
theorem W4:Qd (some (.rp cs))=some (.ref cs):=rfl
theorem abi:Qd (some (.dat a q))=some a:=rfl
theorem W5:aG ⟨sl,bx,lv,nx⟩ (.t n)=Qd (lk n sl):=rfl
theorem W6(v:AV):aG ⟨sl,bx,lv,nx⟩ (.k v)=some v:=rfl
def Z3:Option AV->Option (List AV)->Option (List AV)
 |some a,some as=>some (a::as)
 |_,_=>none
theorem W7(as:List AV):Z3 (some a) (some as)=some (a::as):=rfl
theorem W8(r:List aM):dO ⟨sl,bx,lv,nx⟩ (x::r)=Z3 (aG ⟨sl,bx,lv,nx⟩ x) (dO ⟨sl,bx,lv,nx⟩ r):=rfl
theorem Sx:dO ⟨sl,bx,lv,nx⟩ []=some []:=rfl
theorem W9(i:Nat):je C b i [] J ⟨sl,bx,lv,nx⟩=J ⟨sl,bx,lv,nx⟩:=rfl
theorem abj(i:Nat) (d:Option Nat) (o:bG) (r:List CO):je C b i (⟨d,o,none⟩::r) J ⟨sl,bx,lv,nx⟩=bn C (b+i) o (λv D=>je C b (i+1) r J (D.put d v)) ⟨sl,bx,lv,nx⟩:=rfl
def mM(want:Bool) (yes no:Prop):Option SV->Prop
 |some (.dat (.bool b) _)=>(b=want->yes)/\(b=!want->no)
 |some .undef=>no
 |_=>False
theorem Xa(i t:Nat) (w:Bool) (d:Option Nat) (o:bG) (r:List CO):je C b i (⟨d,o,some (t,w)⟩::r) J ⟨sl,bx,lv,nx⟩=
  mM w (bn C (b+i) o (λv D=>je C b (i+1) r J (D.put d v)) ⟨sl,bx,lv,nx⟩) (je C b (i+1) r J (S.put ⟨sl,bx,lv,nx⟩ d .undef)) (lk t sl):=by
 simp only[je,fj,mM]
 cases lk t sl with
 |none=>rfl
 |some v=>cases v with
  |dat a q=>cases a<;>rfl
  |ptr=>rfl
  |rp=>rfl
  |undef=>rfl
  |vs=>rfl
  |mL=>rfl
  |raw=>rfl
  |pt=>rfl
class KP where
 yes:Prop
 no:Prop
def gd(w:Bool) (v:Option SV) [k:KP]:Prop:=mM w k.yes k.no v
theorem pQ(yes no:Prop) (v:Option SV):mM w yes no v=@gd w v ⟨yes,no⟩:=rfl
theorem Sy(yes no:Prop):@gd w (some .undef) ⟨yes,no⟩=no:=rfl
theorem Sz:@gd true (some (.dat (.bool true) q)) ⟨yes,no⟩=yes:=by simp[gd,mM]
theorem Qe:@gd true (some (.dat (.bool false) q)) ⟨yes,no⟩=no:=by simp[gd,mM]
theorem SA:@gd false (some (.dat (.bool false) q)) ⟨yes,no⟩=yes:=by simp[gd,mM]
theorem Qf:@gd false (some (.dat (.bool true) q)) ⟨yes,no⟩=no:=by simp[gd,mM]
theorem ajB:bn C id (.mv x) K ⟨sl,bx,lv,nx⟩=aj (bJ ⟨sl,bx,lv,nx⟩ x) λv=>K v ⟨sl,bx,lv,nx⟩:=rfl
def Ea(a b:Option SV) (k:SV->Prop):AV->Prop
 | .bool t=>aj a λu=>aj b λv=>(t=true->k u)/\(t=false->k v)
 |_=>False
theorem abk(a b:aM):bn C id (.pick c a b) K ⟨sl,bx,lv,nx⟩=aj (aG ⟨sl,bx,lv,nx⟩ c) (Ea (bJ ⟨sl,bx,lv,nx⟩ a) (bJ ⟨sl,bx,lv,nx⟩ b) λv=>K v ⟨sl,bx,lv,nx⟩):=rfl
def pk(a b:Option SV) (c:AV) [k:Kn SV]:Prop:=Ea a b k.run c
theorem zf(a b:Option SV) (k:SV->Prop) (c:AV):Ea a b k c=@pk a b c ⟨k⟩:=rfl
theorem Xb(b:Option SV) (v:SV):@pk (some v) b (.bool true) ⟨k⟩=aj b λ_=>k v:=by simp[pk,Ea]
theorem Xc(a:Option SV) (v:SV):@pk a (some v) (.bool false) ⟨k⟩=aj a λ_=>k v:=by
 cases a<;>simp[pk,Ea]
theorem Xd:bn C id (.alloc cs) K ⟨sl,bx,lv,nx⟩=K (.ptr id 0) ⟨sl,(id,⟨cs,[]⟩)::bx,lv,nx⟩:=rfl
theorem afC:bn C id (.box x) K ⟨sl,bx,lv,nx⟩=aj (aG ⟨sl,bx,lv,nx⟩ x) λa=>gS a none=true/\K (.ptr id 0) ⟨sl,(id,⟨a.cells,[]⟩)::bx,lv,nx⟩:=rfl
def ldP(D:Option Nat) (bx:List (Nat×bH)) (k:SV->Prop):SV->Prop
 | .ptr b off=>aj (bO b bx) λx=>aj (aB x.cells off D) λa=>k (.dat a (match D with|none=>dJ off x.tags|some _=>none))
 | .rp cs=>aj (aB cs 0 D) λa=>k (.dat a none)
 |_=>False
theorem ajC(D:Option Nat):bn C id (.ld x D) K ⟨sl,bx,lv,nx⟩=aj (bJ ⟨sl,bx,lv,nx⟩ x) (ldP D bx λv=>K v ⟨sl,bx,lv,nx⟩):=rfl
theorem abl:ldP none bx k (.ptr b off)=aj (bO b bx) λx=>aj (aB x.cells off none) λa=>k (.dat a (dJ off x.tags)):=rfl
theorem abm(n:Nat):ldP (some n) bx k (.ptr b off)=aj (bO b bx) λx=>aj (aB x.cells off (some n)) λa=>k (.dat a none):=rfl
theorem afD(D:Option Nat) (cs:List AV):ldP D bx k (.rp cs)=aj (aB cs 0 D) λa=>k (.dat a none):=rfl
def r8(D:Nat) (q:Option Nat) (tags:List (Nat×Nat)):List (Nat×Nat):=
 match q with
 |some q=>(off,q)::tags.filter (λp=>p.1<off||off+D<=p.1)
 |none=>tags.filter (λp=>p.1<off||off+D<=p.1)
def stV(D off:Nat) (x:bH) (k:bH->Prop):SV->Prop
 | .dat a q=>gS a q=true/\a.cells.length=D/\off+D<=x.cells.length/\k ⟨setCells x.cells off a.cells,r8 off D q x.tags⟩
 |_=>False
def stP(D:Nat) (bx:List (Nat×bH)) (v:Option SV) (k:List (Nat×bH)->Prop):SV->Prop
 | .ptr b off=>aj (bO b bx) λx=>aj v (stV D off x λy=>k (nO b y bx))
 |_=>False
theorem ajD(v:aM) (D:Nat):bn C id (.st x v D) K ⟨sl,bx,lv,nx⟩=aj (bJ ⟨sl,bx,lv,nx⟩ x) (stP D bx (bJ ⟨sl,bx,lv,nx⟩ v) λb=>K .undef ⟨sl,b,lv,nx⟩):=by
 show aj _ _=aj _ _
 cases M:bJ ⟨sl,bx,lv,nx⟩ x with
 |none=>rfl
 |some p=>cases p with
  |ptr b off=>
   show aj _ _=aj _ _
   cases O:bO b bx with
   |none=>rfl
   |some y=>
    show aj _ _=aj _ _
    cases L:bJ ⟨sl,bx,lv,nx⟩ v with
    |none=>rfl
    |some u=>cases u with
     |dat a q=>cases q<;>rfl
     |_=>rfl
  |_=>rfl
theorem afF(D b off:Nat) (v:Option SV) (k:List (Nat×bH)->Prop):stP D bx v k (.ptr b off)=aj (bO b bx) λx=>aj v (stV D off x λy=>k (nO b y bx)):=rfl
theorem afG(D off:Nat) (cs:List AV) (L:List (Nat×Nat)) (k:bH->Prop) (a:AV) (q:Option Nat):stV D off ⟨cs,L⟩ k (.dat a q)=(gS a q=true/\a.cells.length=D/\off+D<=cs.length/\k ⟨setCells cs off a.cells,r8 off D q L⟩):=rfl
theorem Xe(D:Nat):r8 off D none []=[]:=rfl
theorem Xf(D q:Nat):r8 off D (some q) []=[(off,q)]:=rfl
def faP(k:SV->Prop):SV->Prop
 | .ptr b o=>k (.ptr b (o+off))
 | .rp cs=>k (.rp (cs.drop off))
 | .pt 2 ps=>k (.pt 2 (ps.drop off))
 |_=>False
theorem ajE:bn C id (.fa x off) K ⟨sl,bx,lv,nx⟩=aj (bJ ⟨sl,bx,lv,nx⟩ x) (faP off λv=>K v ⟨sl,bx,lv,nx⟩):=rfl
theorem afH:faP off k (.ptr b o)=k (.ptr b (o+off)):=rfl
theorem afI:faP off k (.rp cs)=k (.rp (cs.drop off)):=rfl
def iaP(d:Nat) (k:SV->Prop):SV->Prop
 | .ptr b o=>k (.ptr b (o+d))
 | .rp cs=>k (.rp (cs.drop d))
 |_=>False
theorem afK(n z:Nat):bn C id (.MB x i n z) K ⟨sl,bx,lv,nx⟩=aj (bJ ⟨sl,bx,lv,nx⟩ x) λp=>aj (aG ⟨sl,bx,lv,nx⟩ i) λa=>aj (idxOf a) λi=>(0<=i/\i<n)/\iaP (i.toNat*z) (λv=>K v ⟨sl,bx,lv,nx⟩) p:=rfl
theorem afL(d:Nat):iaP d k (.ptr b o)=k (.ptr b (o+d)):=rfl
theorem afM(d:Nat):iaP d k (.rp cs)=k (.rp (cs.drop d)):=rfl
theorem afN(k:IntKind) (i:Int):idxOf (.int k i)=some i:=rfl
def SB(D:Option AV) (z:Nat) (k:SV->Prop):SV->Prop
 | .dat l _=>aj D λa=>aj (idxOf a) λi=>aj (rowsOf l) λxs=>(0<=i/\i<xs.length)/\aj (xs[i.toNat]?) λrow=>row.length=z/\k (.rp row)
 | .vs b off n L=>aj D λa=>aj (idxOf a) λi=>(0<=i/\i<n)/\L=z/\k (.ptr b (off+i.toNat*z))
 |_=>False
theorem afO:bn C id (.V3 x i z) K ⟨sl,bx,lv,nx⟩=aj (bJ ⟨sl,bx,lv,nx⟩ x) (SB (aG ⟨sl,bx,lv,nx⟩ i) z λv=>K v ⟨sl,bx,lv,nx⟩):=by
 show aj _ _=aj _ _
 cases bJ ⟨sl,bx,lv,nx⟩ x with
 |none=>rfl
 |some v=>cases v<;>rfl
theorem abn(D:Option AV) (z:Nat) (k:SV->Prop) (l:AV) (q:Option Nat):SB D z k (.dat l q)=aj D λa=>aj (idxOf a) λi=>aj (rowsOf l) λxs=>(0<=i/\i<xs.length)/\aj (xs[i.toNat]?) λrow=>row.length=z/\k (.rp row):=rfl
theorem abo(L:Option AV) (z:Nat) (k:SV->Prop) (b off n D:Nat):SB L z k (.vs b off n D)=aj L λa=>aj (idxOf a) λi=>(0<=i/\i<n)/\D=z/\k (.ptr b (off+i.toNat*z)):=rfl
@[congr] theorem ajF{L D:Option AV} (k:SV->Prop) {v M:SV} (h:L=D) (O:v=M):SB L z k v=SB D z k M:=by rw[h,O]
theorem abp:rowsOf (.sl xs)=some xs:=rfl
theorem Xg:rowsOf .aU=some []:=rfl
def MV(k:List AV->Prop):AV->Prop
 | .agg cs=>k cs
 |_=>False
theorem afP(k:List AV->Prop) (cs:List AV):MV k (.agg cs)=k cs:=rfl
theorem afQ(D:Option Nat):bn C id (.GB x off D) K ⟨sl,bx,lv,nx⟩=aj (aG ⟨sl,bx,lv,nx⟩ x) (MV λcs=>aj (aB cs off D) λa=>K (.dat a none) ⟨sl,bx,lv,nx⟩):=rfl
theorem afR(n z:Nat) (D:Option Nat):bn C id (.GC x i n z D) K ⟨sl,bx,lv,nx⟩=aj (aG ⟨sl,bx,lv,nx⟩ x) (MV λcs=>aj (aG ⟨sl,bx,lv,nx⟩ i) λa=>aj (idxOf a) λi=>(0<=i/\i<n)/\aj (aB cs (i.toNat*z) D) λa=>K (.dat a none) ⟨sl,bx,lv,nx⟩):=rfl
theorem afS(op:BinOp) (x y:aM):bn C id (.bin op x y) K ⟨sl,bx,lv,nx⟩=aj (aG ⟨sl,bx,lv,nx⟩ x) λa=>aj (aG ⟨sl,bx,lv,nx⟩ y) λb=>aj (d7 op a b) λv=>K (.dat v none) ⟨sl,bx,lv,nx⟩:=rfl
theorem afT(D:List CK) (neg:Bool) (x y:aM):bn C id (.eqc D neg x y) K ⟨sl,bx,lv,nx⟩=aj (aG ⟨sl,bx,lv,nx⟩ x) (MV λas=>aj (aG ⟨sl,bx,lv,nx⟩ y) (MV λL=>aj (cq D as L) λe=>K (.dat (.bool (e !=neg)) none) ⟨sl,bx,lv,nx⟩)):=rfl
theorem ajG(x y:aM):bn C id (.bb neg x y) K ⟨sl,bx,lv,nx⟩=aj (aG ⟨sl,bx,lv,nx⟩ x) λa=>aj (aG ⟨sl,bx,lv,nx⟩ y) λb=>aj (bbA neg a b) λv=>K (.dat v none) ⟨sl,bx,lv,nx⟩:=rfl
theorem ajH(op:UnOp) (x:aM):bn C id (.un op x) K ⟨sl,bx,lv,nx⟩=aj (aG ⟨sl,bx,lv,nx⟩ x) λa=>aj (ZU op a) λv=>K (.dat v none) ⟨sl,bx,lv,nx⟩:=rfl
theorem abq(k:IntKind) (x:aM):bn C id (.qi k x) K ⟨sl,bx,lv,nx⟩=aj (aG ⟨sl,bx,lv,nx⟩ x) λa=>aj (Dp k a) λv=>K (.dat v none) ⟨sl,bx,lv,nx⟩:=rfl
theorem abr(k:FloatKind) (x:aM):bn C id (.Gi k x) K ⟨sl,bx,lv,nx⟩=aj (aG ⟨sl,bx,lv,nx⟩ x) λa=>aj (Dq k a) λv=>K (.dat v none) ⟨sl,bx,lv,nx⟩:=rfl
theorem abt(k:IntKind) (x:aM):bn C id (.JN k x) K ⟨sl,bx,lv,nx⟩=aj (aG ⟨sl,bx,lv,nx⟩ x) λa=>aj (yI k a) λv=>K (.dat v none) ⟨sl,bx,lv,nx⟩:=rfl
def Qg:SV->Prop
 | .dat a _=>aj (xH a) λv=>k (.dat v none)
 | .vs _ _ n _=>k (.dat (.int .i64 n) none)
 |_=>False
theorem abu:bn C id (.JO x) K ⟨sl,bx,lv,nx⟩=aj (bJ ⟨sl,bx,lv,nx⟩ x) (Qg λv=>K v ⟨sl,bx,lv,nx⟩):=by
 show aj _ _=aj _ _
 cases bJ ⟨sl,bx,lv,nx⟩ x with
 |none=>rfl
 |some v=>cases v<;>rfl
theorem Ow:Qg k (.dat a q)=aj (xH a) λv=>k (.dat v none):=rfl
theorem Xh(n z:Nat):Qg k (.vs b o n z)=k (.dat (.int .i64 n) none):=rfl
@[congr] theorem ajI{v D:SV} (L:v=D):Qg k v=Qg k D:=by rw[L]
theorem ajJ(e:Xt) (x:aM):bn C id (.xt e x) K ⟨sl,bx,lv,nx⟩=aj (aG ⟨sl,bx,lv,nx⟩ x) λa=>aj (xtA e a) λv=>K (.dat v none) ⟨sl,bx,lv,nx⟩:=rfl
theorem ajK:xtA .JM (.float .f64 b)=some (.int .u64 b):=rfl
theorem ajL(n:Int):xtA .ffrom (.int .u64 n)=some (.float .f64 n.toNat):=rfl
theorem ajM:xtA .rte (.float .f64 b)=HY b:=rfl
def abv(s:S) (k:SV->S->Prop):SV->Prop
 | .rp cs=>n*z<=cs.length/\k (.dat (.sl (cU z n cs)) none) s
 | .ptr b off=>4<=b/\aj (bO b s.boxes) λbx=>n*z<=(bx.cells.drop off).length/\k (.dat (.sl (cU z n (bx.cells.drop off))) none) (gM [b] [bx.cells] s)
 |_=>False
theorem afU(n z:Nat):bn C id (.Wj x n z) K ⟨sl,bx,lv,nx⟩=aj (bJ ⟨sl,bx,lv,nx⟩ x) (abv n z ⟨sl,bx,lv,nx⟩ K):=by
 show aj _ _=aj _ _
 cases bJ ⟨sl,bx,lv,nx⟩ x with
 |none=>rfl
 |some v=>cases v<;>rfl
theorem abw(s:S) (k:SV->S->Prop) (cs:List AV):abv n z s k (.rp cs)=(n*z<=cs.length/\k (.dat (.sl (cU z n cs)) none) s):=rfl
theorem abx(k:SV->S->Prop) (b off:Nat):abv n z ⟨sl,bx,lv,nx⟩ k (.ptr b off)=(4<=b/\aj (bO b bx) λy=>n*z<=(y.cells.drop off).length/\k (.dat (.sl (cU z n (y.cells.drop off))) none) (gM [b] [y.cells] ⟨sl,bx,lv,nx⟩)):=rfl
def afV(k:AV->Prop):AV->Prop
 | .str b=>aj (aG s i) λa=>aj (idxOf a) λj=>aj (JQ b j) k
 |_=>False
theorem afW:bn C id (.ixB x i) K ⟨sl,bx,lv,nx⟩=aj (aG ⟨sl,bx,lv,nx⟩ x) (afV ⟨sl,bx,lv,nx⟩ i λv=>K (.dat v none) ⟨sl,bx,lv,nx⟩):=by
 show aj _ _=aj _ _
 cases aG ⟨sl,bx,lv,nx⟩ x with
 |none=>rfl
 |some v=>cases v<;>rfl
theorem aby(k:AV->Prop) (b:ByteArray):afV s i k (.str b)=aj (aG s i) λa=>aj (idxOf a) λj=>aj (JQ b j) k:=rfl
theorem abz:bn C id (.JP n) K ⟨sl,bx,lv,nx⟩=K (.dat (.int .i64 n) none) ⟨sl,bx,lv,nx⟩:=rfl
theorem abA:bn C id (.call f args) K ⟨sl,bx,lv,nx⟩=aj (dO ⟨sl,bx,lv,nx⟩ args) λas=>BR C f as id lv λv l=>K v ⟨sl,bx,l,nx⟩:=rfl
def It(C:aQ) (id:Nat) (lv:List (Nat×Nat)) (as:List AV) (k:SV->List (Nat×Nat)->Prop):AV->Prop
 | .fn (.func f) first caps=>BR C f (first++as++caps) id lv k
 |_=>False
@[congr] theorem afX(lv:List (Nat×Nat)) (as:List AV) (k:SV->List (Nat×Nat)->Prop) {v D:AV} (h:v=D):It C id lv as k v=It C id lv as k D:=by rw[h]
def GX:Option SV->Option (List (Option AV)×List Nat)->Option (List (Option AV)×List Nat)
 |some (.dat a _),some p=>some (some a::p.1,p.2)
 |some (.rp cs),some p=>some (some (.ref cs)::p.1,p.2)
 |some (.ptr b 0),some p=>some (none::p.1,b::p.2)
 |some (.pt 0 [(b,0)]),some p=>bif h then some (some .hole::p.1,b::p.2)else none
 |_,_=>none
theorem SC:GX h (some (.dat a q)) (some p)=some (some a::p.1,p.2):=rfl
theorem SD:GX h (some (.rp cs)) (some p)=some (some (.ref cs)::p.1,p.2):=rfl
theorem SE(b:Nat) (p:List (Option AV)×List Nat):GX h (some (.ptr b 0)) (some p)=some (none::p.1,b::p.2):=rfl
theorem abB:dP h ⟨sl,bx,lv,nx⟩ []=some ([],[]):=rfl
theorem afY(r:List aM):dP h ⟨sl,bx,lv,nx⟩ (x::r)=GX h (bJ ⟨sl,bx,lv,nx⟩ x) (dP h ⟨sl,bx,lv,nx⟩ r):=by
 rw[dP];unfold GX
 cases bJ ⟨sl,bx,lv,nx⟩ x with
 |none=>rfl
 |some v=>
  cases dP h ⟨sl,bx,lv,nx⟩ r with
  |none=>cases v with
   |ptr b o=>cases o<;>rfl
   |pt k ps=>match k,ps with
    |0,[(b,0)]=>rfl
    |0,[(b,o+1)]=>rfl
    |0,[]=>rfl
    |0,(_,0)::_::_=>rfl
    |0,(_,o+1)::_::_=>rfl
    |k+1,_=>rfl
   |_=>rfl
  |some p=>
   obtain⟨as,D⟩:=p
   cases v with
   |ptr b o=>cases o<;>rfl
   |pt k ps=>match k,ps with
    |0,[(b,0)]=>rfl
    |0,[(b,o+1)]=>rfl
    |0,[]=>rfl
    |0,(_,0)::_::_=>rfl
    |0,(_,o+1)::_::_=>rfl
    |k+1,_=>rfl
   |_=>rfl
theorem SF:aS bx []=some []:=rfl
def Z4:Option bH->Option (List (List AV))->Option (List (List AV))
 |some x,some css=>some (x.cells::css)
 |_,_=>none
theorem Xi(x:bH) (css:List (List AV)):Z4 (some x) (some css)=some (x.cells::css):=rfl
theorem Xj(D:List Nat):aS bx (b::D)=Z4 (bO b bx) (aS bx D):=rfl
theorem SG:dn []=true:=rfl
theorem Xk(D:List Nat):dn (b::D)=(!D.contains b&&dn D):=rfl
theorem Xl(D:List Nat) (cs:List AV) (css:List (List AV)):dm (b::D) (cs::css) bx=dm D css (nO b ⟨cs,[]⟩ bx):=rfl
theorem Qh:eI bx []=some []:=rfl
theorem SH(D:List Nat):eI bx (b::D)=Ov (bO b bx) (eI bx D):=rfl
theorem Qi:Ov (some ⟨cs,[]⟩) (some css)=some (cs::css):=rfl
theorem SJ:dm [] css bx=bx:=rfl
def Iu(C:aQ) (f id:Nat) (bx:List (Nat×bH)) (lv:List (Nat×Nat)) (k:SV->List (Nat×bH)->List (Nat×Nat)->Prop) (p:List (Option AV)×List Nat):Prop:=
 dn p.2=true/\aj (aS bx p.2) λcss=>D9 C f css p.1 p.2 id bx lv k
theorem SK(id:Nat) (as:List (Option AV)) (ids:List Nat) (k:SV->List (Nat×bH)->List (Nat×Nat)->Prop):Iu C f id bx lv k (as,ids)=(dn ids=true/\aj (aS bx ids) λcss=>D9 C f css as ids id bx lv k):=rfl
def SL(C:aQ) (f:Nat) (bx:List (Nat×bH)) (k:SV->List (Nat×bH)->Prop) (p:List (Option AV)×List Nat):Prop:=
 dn p.2=true/\aj (aS bx p.2) λcss=>Is C f css p.1 λv D=>k (.dat v none) (dm p.2 D bx)
theorem SM(k:SV->List (Nat×bH)->Prop):SL C f bx k (as,ids)=(dn ids=true/\aj (aS bx ids) λcss=>Is C f css as λv D=>k (.dat v none) (dm ids D bx)):=rfl
theorem Xm:bn C id (.uk f args) K ⟨sl,bx,lv,nx⟩=aj (dP true ⟨sl,bx,lv,nx⟩ args) (SL C f bx λv b=>K v ⟨sl,b,lv,nx⟩):=rfl
theorem Xn:bn C id (.dR f args) K ⟨sl,bx,lv,nx⟩=aj (dP true ⟨sl,bx,lv,nx⟩ args) (Iu C f id bx lv λv b l=>K v ⟨sl,b,l,nx⟩):=rfl
theorem Xp:bn C id (.fu g args) K ⟨sl,bx,lv,nx⟩=aj (aG ⟨sl,bx,lv,nx⟩ g) λa=>aj (dO ⟨sl,bx,lv,nx⟩ args) λas=>It C id lv as (λv l=>K v ⟨sl,bx,l,nx⟩) a:=by
 show aj _ _=aj _ _
 cases L:aG ⟨sl,bx,lv,nx⟩ g with
 |none=>rfl
 |some a=>
  show(match a with| .fn (.func f) first caps=>_|_=>False)=_
  cases D:dO ⟨sl,bx,lv,nx⟩ args with
  |none=>cases a<;>first|rfl|(rename_i f _ _;cases f<;>rfl)
  |some as=>cases a<;>first|rfl|(rename_i f _ _;cases f<;>rfl)
theorem SN(as first caps:List AV) (k:SV->List (Nat×Nat)->Prop):It C id lv as k (.fn (.func f) first caps)=BR C f (first++as++caps) id lv k:=rfl
def CR(C:aQ) (id:Nat) (bx:List (Nat×bH)) (lv:List (Nat×Nat)) (p:List (Option AV)×List Nat) (k:SV->List (Nat×bH)->List (Nat×Nat)->Prop):AV->Prop
 | .fn (.func f) [] []=>Iu C f id bx lv k p
 |_=>False
@[congr] theorem aeT(bx:List (Nat×bH)) (lv:List (Nat×Nat)) {p L:List (Option AV)×List Nat} (k:SV->List (Nat×bH)->List (Nat×Nat)->Prop) {v D:AV} (M:p=L) (h:v=D):CR C id bx lv p k v=CR C id bx lv L k D:=by rw[h,M]
theorem SO:bn C id (.gi g args) K ⟨sl,bx,lv,nx⟩=aj (aG ⟨sl,bx,lv,nx⟩ g) λa=>aj (dP true ⟨sl,bx,lv,nx⟩ args) λp=>CR C id bx lv p (λv b l=>K v ⟨sl,b,l,nx⟩) a:=by
 show aj _ _=aj _ _
 cases L:aG ⟨sl,bx,lv,nx⟩ g with
 |none=>rfl
 |some a=>
  show(match a with| .fn (.func f) [] []=>_|_=>False)=_
  cases D:dP true ⟨sl,bx,lv,nx⟩ args with
  |none=>cases a<;>first|rfl|(rename_i f x y;cases f<;>first|rfl|(cases x<;>first|rfl|(cases y<;>rfl)))
  |some as=>cases a<;>first|rfl|(rename_i f x y;cases f<;>first|rfl|(cases x<;>first|rfl|(cases y<;>rfl)))
def Iv(C:aQ) (f:Nat) (bx:List (Nat×bH)) (k:SV->Prop) (p:List (Option AV)×List Nat):Prop:=
 dn p.2=true/\aj (eI bx p.2) λcss=>Ir C f css p.1 k
theorem Xq:bn C id (.BA f args) K ⟨sl,bx,lv,nx⟩=aj (dP true ⟨sl,bx,lv,nx⟩ args) (Iv C f bx λv=>K v ⟨sl,bx,lv,nx⟩):=rfl
theorem SP(k:SV->Prop):Iv C f bx k (as,ids)=(dn ids=true/\aj (eI bx ids) λcss=>Ir C f css as k):=rfl
def CS(C:aQ) (bx:List (Nat×bH)) (p:List (Option AV)×List Nat) (k:SV->Prop):AV->Prop
 | .fn (.func f) [] []=>Iv C f bx k p
 |_=>False
@[congr] theorem aeU (bx:List (Nat×bH)) {p L:List (Option AV)×List Nat} (k:SV->Prop) {v D:AV} (M:p=L) (h:v=D):CS C bx p k v=CS C bx L k D:=by rw[h,M]
theorem SQ:bn C id (.rH g args) K ⟨sl,bx,lv,nx⟩=aj (aG ⟨sl,bx,lv,nx⟩ g) λa=>aj (dP true ⟨sl,bx,lv,nx⟩ args) λp=>CS C bx p (λv=>K v ⟨sl,bx,lv,nx⟩) a:=by
 show aj _ _=aj _ _
 cases L:aG ⟨sl,bx,lv,nx⟩ g with
 |none=>rfl
 |some a=>
  show(match a with| .fn (.func f) [] []=>_|_=>False)=_
  cases D:dP true ⟨sl,bx,lv,nx⟩ args with
  |none=>cases a<;>first|rfl|(rename_i f x y;cases f<;>first|rfl|(cases x<;>first|rfl|(cases y<;>rfl)))
  |some as=>cases a<;>first|rfl|(rename_i f x y;cases f<;>first|rfl|(cases x<;>first|rfl|(cases y<;>rfl)))
theorem Qj(k:SV->Prop):CS C bx p k (.fn (.func f) [] [])=Iv C f bx k p:=rfl
theorem Qk(k:SV->List (Nat×bH)->List (Nat×Nat)->Prop):CR C id bx lv p k (.fn (.func f) [] [])=Iu C f id bx lv k p:=rfl
theorem afZ(x:aM):bn C id (.ZS neg x) K ⟨sl,bx,lv,nx⟩=aj (aG ⟨sl,bx,lv,nx⟩ x) λa=>aj (HZ neg a) λv=>K (.dat (.bool v) none) ⟨sl,bx,lv,nx⟩:=rfl
theorem af0(i:Nat):bn C id (.ext x i) K ⟨sl,bx,lv,nx⟩=aj (aG ⟨sl,bx,lv,nx⟩ x) λa=>aj (PS a i) λv=>K (.dat v none) ⟨sl,bx,lv,nx⟩:=rfl
theorem abC(D o:Nat):j6 b cs (.ptr D o)=bif D==b then .rp (cs.drop o)else .ptr D o:=rfl
theorem abD:j6 b cs (.dat a q)=.dat a q:=rfl
theorem abE(D:List AV):j6 b cs (.rp D)=.rp D:=rfl
theorem abF:j6 b cs .undef=.undef:=rfl
theorem abG(D o n z:Nat):j6 b cs (.vs D o n z)=bif D==b&&decide (n*z<=(cs.drop o).length)then .dat (.sl (cU z n (cs.drop o))) none else .vs D o n z:=rfl
theorem Xr:CC b cs []=[]:=rfl
theorem abH(v:SV) (r:List (Nat×SV)):CC b cs ((t,v)::r)=(t,j6 b cs v)::CC b cs r:=rfl
theorem Xu:lu n []=[]:=rfl
theorem abI(v:bH) (r:List (Nat×bH)):lu n ((m,v)::r)=bif n==m then lu n r else(m,v)::lu n r:=rfl
theorem Xv:gM [] css s=s:=rfl
theorem abJ(D:List Nat) (cs:List AV) (css:List (List AV)):gM (b::D) (cs::css) ⟨sl,bx,lv,nx⟩=gM D css ⟨CC b cs sl,lu b bx,lv,nx⟩:=rfl
theorem SR:jR [] css=[]:=by cases css<;>rfl
theorem SS:jR (some a::as) css=a::jR as css:=by cases css<;>rfl
theorem SU(cs:List AV) (css:List (List AV)):jR (none::as) (cs::css)=.ref cs::jR as css:=rfl
theorem abK:iu []=true:=rfl
theorem af1(D:List Nat):iu (b::D)=(decide (4<=b)&&iu D):=rfl
def af2(as:List AV) (s:S) (k:SV->S->Prop) (p:List (Option AV)×List Nat):Prop:=
 (dn p.2&&iu p.2)=true/\aj (aS s.boxes p.2) λcss=>k (.dat (.fn fn as (jR p.1 css)) none) (gM p.2 css s)
theorem abL(as:List AV) (k:SV->S->Prop) (ps:List (Option AV)) (ids:List Nat):af2 fn as ⟨sl,bx,lv,nx⟩ k (ps,ids)=((dn ids&&iu ids)=true/\aj (aS bx ids) λcss=>k (.dat (.fn fn as (jR ps css)) none) (gM ids css ⟨sl,bx,lv,nx⟩)):=rfl
theorem af3(a b:List aM):bn C id (.uh fn a b) K ⟨sl,bx,lv,nx⟩=aj (dO ⟨sl,bx,lv,nx⟩ a) λas=>aj (dP false ⟨sl,bx,lv,nx⟩ b) (af2 fn as ⟨sl,bx,lv,nx⟩ K):=rfl
def mmP(k:AV->Prop):List AV->Prop
 |[]=>False
 |a::r=>aj (r.foldlM (Wn mx) a) k
theorem ajN:bn C id (.mm mx args) K ⟨sl,bx,lv,nx⟩=aj (dO ⟨sl,bx,lv,nx⟩ args) (mmP mx λv=>K (.dat v none) ⟨sl,bx,lv,nx⟩):=by
 show aj _ _=aj _ _
 cases dO ⟨sl,bx,lv,nx⟩ args with
 |none=>rfl
 |some l=>cases l<;>rfl
theorem af5(k:AV->Prop) (a b:AV):mmP mx k [a,b]=aj (Wn mx a b) k:=by simp[mmP]
theorem af6(D:IntKind) (x y:Int):Wn true (.int D x) (.int D y)=some (.int D (if y>x then y else x)):=rfl
theorem abM(D:IntKind) (x y:Int):Wn false (.int D x) (.int D y)=some (.int D (if y<x then y else x)):=rfl
theorem Xw(zs:List AV) (parts:List (Nat×Nat×aM)):bn C id (.build zs parts) K ⟨sl,bx,lv,nx⟩=aj (gV ⟨sl,bx,lv,nx⟩ parts) λps=>K (.dat (.agg (nN zs ps)) none) ⟨sl,bx,lv,nx⟩:=rfl
def wZ(D:Nat):Option AV->Option (List (Nat×List AV))->Option (List (Nat×List AV))
 |some a,some ps=>if a.cells.length=D/\gS a none=true then some ((off,a.cells)::ps)else none
 |_,_=>none
theorem SW(D:Nat) (x:aM) (r:List (Nat×Nat×aM)):gV ⟨sl,bx,lv,nx⟩ ((off,D,x)::r)=wZ off D (aG ⟨sl,bx,lv,nx⟩ x) (gV ⟨sl,bx,lv,nx⟩ r):=rfl
theorem Ql:gV ⟨sl,bx,lv,nx⟩ []=some []:=rfl
theorem Iw(D:Nat) (a:AV) (ps:List (Nat×List AV)) (h:a.cells.length=D) (L:gS a none=true):wZ off D (some a) (some ps)=some ((off,a.cells)::ps):=by simp[wZ,h,L]
theorem af7(e z:Nat) (xs:List aM):bn C id (.RG e z xs) K ⟨sl,bx,lv,nx⟩=aj (j7 ⟨sl,bx,lv,nx⟩ z xs) λrows=>K (.dat (.sl rows) (some id)) ⟨sl,bx,(id,e)::lv,nx⟩:=rfl
def abN:Option AV->Option (List (List AV))->Option (List (List AV))
 |some a,some rows=>if a.cells.length=z/\gS a none=true then some (a.cells::rows)else none
 |_,_=>none
theorem Xx(x:aM) (r:List aM):j7 ⟨sl,bx,lv,nx⟩ z (x::r)=abN z (aG ⟨sl,bx,lv,nx⟩ x) (j7 ⟨sl,bx,lv,nx⟩ z r):=rfl
theorem SX:j7 ⟨sl,bx,lv,nx⟩ z []=some []:=rfl
theorem abO(a:AV) (rows:List (List AV)) (h:a.cells.length=z) (D:gS a none=true):abN z (some a) (some rows)=some (a.cells::rows):=by simp[abN,h,D]
theorem af8(e z bytes:Nat) (x y:aM):bn C id (.app e z bytes x y) K ⟨sl,bx,lv,nx⟩=aj (bJ ⟨sl,bx,lv,nx⟩ x) fun
   | .dat a q=>aj (rowsOf a) λxs=>aj (aG ⟨sl,bx,lv,nx⟩ y) λb=>aj (rowsOf b) λD=>
     (xs.length+D.length)*bytes<=140737488355328/\(∀r∈xs,r.length=z)/\(∀r∈D,r.length=z)/\
     (match a,q with
      | .aU,_=>if D=[]then K (.dat .aU none) ⟨sl,bx,lv,nx⟩else K (.dat (.sl (xs++D)) (some id)) ⟨sl,bx,(id,e)::lv,nx⟩
      | .sl _,some q=>dJ q lv=some e/\K (.dat (.sl (xs++D)) (some id)) ⟨sl,bx,(id,e)::jj q lv,nx⟩
      |_,_=>False)
   |_=>False:=rfl
theorem af9(x:aM) (lo D:Option aM):bn C id (.V4 z x lo D) K ⟨sl,bx,lv,nx⟩=aj (aG ⟨sl,bx,lv,nx⟩ x) λa=>aj (rowsOf a) λxs=>aj (yK ⟨sl,bx,lv,nx⟩ lo) λl=>aj (xJ ⟨sl,bx,lv,nx⟩ xs D) λh=>(0<=l/\l<=h/\h<=xs.length)/\(∀r∈xs,r.length=z)/\K (.dat (H6 a xs l h) none) ⟨sl,bx,lv,nx⟩:=rfl
theorem Xy:yK ⟨sl,bx,lv,nx⟩ none=some 0:=rfl
theorem abP:yK ⟨sl,bx,lv,nx⟩ (some x)=xI (aG ⟨sl,bx,lv,nx⟩ x):=by cases h:aG ⟨sl,bx,lv,nx⟩ x<;>simp[yK,xI,h]
theorem Xz:xJ ⟨sl,bx,lv,nx⟩ xs none=some (xs.length:Int):=rfl
theorem abQ(x:aM):xJ ⟨sl,bx,lv,nx⟩ xs (some x)=xI (aG ⟨sl,bx,lv,nx⟩ x):=by cases h:aG ⟨sl,bx,lv,nx⟩ x<;>simp[xJ,xI,h]
theorem abR(k:IntKind) (i:Int):xI (some (.int k i))=some i:=rfl
theorem aga(D:List (List AV)) (l h:Int):H6 (.sl D) xs l h=.sl ((xs.take h.toNat).drop l.toNat):=rfl
theorem abS(l h:Int):H6 .aU xs l h=.aU:=rfl
def ncP:SV->Prop
 | .ptr b o=>k (.ptr b o)
 | .rp cs=>k (.rp cs)
 | .dat (.fn (.func f) as D) q=>k (.dat (.fn (.func f) as D) q)
 | .dat (.ref cs) _=>k (.rp cs)
 |_=>False
theorem ajO:bn C id (.nc x) K ⟨sl,bx,lv,nx⟩=aj (bJ ⟨sl,bx,lv,nx⟩ x) (ncP λv=>K v ⟨sl,bx,lv,nx⟩):=by
 show aj _ _=aj _ _
 cases bJ ⟨sl,bx,lv,nx⟩ x with
 |none=>rfl
 |some v=>cases v with
  |dat a q=>cases a<;>first|rfl|(rename_i f _ _;cases f<;>rfl)
  |_=>rfl
theorem agb:ncP k (.ptr b o)=k (.ptr b o):=rfl
theorem agc:ncP k (.dat (.ref cs) q)=k (.rp cs):=rfl
theorem agd:ncP k (.rp cs)=k (.rp cs):=rfl
theorem abT:aw C .skip Q ⟨sl,bx,lv,nx⟩=Q .normal ⟨sl,bx,lv,nx⟩:=rfl
def Gn(k:S->Prop) (n:Nat):S->Prop:=λs=>k {s with nx:=n}
theorem age:aw C (.GD ops) Q ⟨sl,bx,lv,nx⟩=je C nx 0 ops (Gn (Q .normal) (nx+ops.length)) ⟨sl,bx,lv,nx⟩:=rfl
def XA:Prop:=∃ids,(dn ids&&iu ids)=true/\aj (aS s.boxes ids) λcss=>∃ro,oM (kO ro 0 ops) cJ (gM ids css s).nx (gM ids css s).slots=true/\F (kO ro 0 ops) (gM ids css s)
class KF where
 k:List CO->S->Prop
def dg(ops:List CO) (cJ:List (Nat×Nat)) (s:S) [k:KF]:Prop:=XA ops cJ s k.k
theorem ajP:XA ops cJ s F=@dg ops cJ s ⟨F⟩:=rfl
theorem ej{ops:List CO} {cJ:List (Nat×Nat)} {s:S} {F:List CO->S->Prop} (h:oM ops cJ s.nx s.slots=true) (hk:F ops s):@dg ops cJ s ⟨F⟩:=⟨[],rfl,[],by rw[rL];exact h,by rw[rL];exact hk⟩
theorem jU{ops:List CO} {cJ:List (Nat×Nat)} {s:S} {F:List CO->S->Prop} (h:oM (kO ro 0 ops) cJ s.nx s.slots=true) (hk:F (kO ro 0 ops) s):@dg ops cJ s ⟨F⟩:=⟨[],rfl,ro,h,hk⟩
theorem MW{ops:List CO} {cJ:List (Nat×Nat)} {s:S} {F:List CO->S->Prop} {css:List (List AV)} (L:(dn ids&&iu ids)=true) (D:aS s.boxes ids=some css) (h:oM (kO ro 0 ops) cJ (gM ids css s).nx (gM ids css s).slots=true) (hk:F (kO ro 0 ops) (gM ids css s)):@dg ops cJ s ⟨F⟩:=⟨ids,L,by rw[D];exact⟨ro,h,hk⟩⟩
def goF(C:aQ) (nx:Nat) (K:S->Prop) (ops:List CO) (s:S):Prop:=je C nx 0 ops K s
theorem agf(nx:Nat) (K:S->Prop) (o:CO) (ops:List CO):goF C nx K (o::ops) ⟨sl,bx,lv,nx⟩=je C nx 0 (o::ops) K ⟨sl,bx,lv,nx⟩:=rfl
theorem SY:aw C (.uo ops cJ) Q ⟨sl,bx,lv,nx⟩=XA ops cJ ⟨sl,bx,lv,nx⟩ (goF C nx (Gn (Q .normal) (nx+ops.length))):=by
 show(∃ids,_/\aj _ _)=(∃ids,_/\aj _ _)
 congr 1;funext ids;congr 2;funext css
 show PT _ _ _ _ _=_
 unfold PT goF;simp only[rJ];rfl
def pgG(k:Nat) (D:List Nat) (s:S) (F G:List CO->S->Prop):Prop:=XA ops cJ s F\/(oM (oH k D 0 ops) cJ s.nx s.slots=true/\G (oH k D 0 ops) s)
class KG where
 k:List CO->S->Prop
 q:List CO->S->Prop
def pg(ops:List CO) (cJ:List (Nat×Nat)) (k:Nat) (D:List Nat) (s:S) [h:KG]:Prop:=pgG ops cJ k D s h.k h.q
theorem ajR(k:Nat) (D:List Nat) (s:S) (F G:List CO->S->Prop):pgG ops cJ k D s F G=@pg ops cJ k D s ⟨F,G⟩:=rfl
def SZ:Option SV->Option AV
 |some (.dat p none)=>some p
 |_=>none
theorem abU(p:AV):SZ (some (.dat p none))=some p:=rfl
def abV:Prop:=aj d λd=>aj (SZ (lk d s.slots)) λp=>X p (wT ds s)
theorem abW:abV d ds X ⟨sl,bx,lv,nx⟩=aj d λd=>aj (SZ (lk d sl)) λp=>X p ⟨oI ds sl,bx,lv,nx⟩:=rfl
theorem abX(k:Nat) (L:List Nat):aw C (.CA ops cJ k L) Q ⟨sl,bx,lv,nx⟩=pgG ops cJ k L ⟨sl,bx,lv,nx⟩ (goF C nx (Gn (Q .normal) (nx+ops.length))) (goF C nx (abV (pD k ops) (WZ ops) λp=>Gn (Q (.panic (gL p))) (nx+ops.length))):=by
 show(_\/_)=(_\/_)
 congr 1
 ·exact SY sl bx lv nx ops cJ
 ·unfold aaS goF
  congr 1
  rw[MU,Z2]
  congr 1
  funext s
  unfold abV
  apply propext
  constructor
  ·rintro⟨d,p,O,M,R⟩
   rw[O]
   show aj (SZ (lk d s.slots)) _
   rw[M];exact R
  ·intro h
   cases hd:pD k ops with
   |none=>rw[hd]at h;exact h.elim
   |some d=>
    rw[hd]at h
    have h:aj (SZ (lk d s.slots)) _:=h
    cases D:lk d s.slots with
    |none=>rw[D]at h;exact h.elim
    |some v=>cases v with
     |dat p q=>cases q with
      |none=>rw[D]at h;exact⟨d,p,rfl,D,h⟩
      |some _=>rw[D]at h;exact h.elim
     |_=>rw[D]at h;exact h.elim
theorem abY(k:S->Prop) (n:Nat):Gn k n ⟨sl,bx,lv,nx⟩=k ⟨sl,bx,lv,n⟩:=rfl
theorem agh(a b:aO):aw C (.seq a b) Q ⟨sl,bx,lv,nx⟩=aw C a (jk (aw C b Q) Q) ⟨sl,bx,lv,nx⟩:=rfl
theorem S0(a b:aO):aw C (.join a b) Q ⟨sl,bx,lv,nx⟩=aw C a (jk (down (aw C b Q)) Q) ⟨sl,bx,lv,nx⟩:=rfl
def w6(a b:Prop):AV->Prop
 | .bool t=>(t=true->a)/\(t=false->b)
 |_=>False
theorem abZ(a b:aO):aw C (.cond c a b) Q ⟨sl,bx,lv,nx⟩=aj (aG ⟨sl,bx,lv,nx⟩ c) (w6 (aw C a Q ⟨sl,bx,lv,nx⟩) (aw C b Q ⟨sl,bx,lv,nx⟩)):=rfl
def agi(a:Option AV) (k:SV->Prop):SV->Prop
 | .ptr b off=>aj a λa=>aj (idxOf a) λh=>(0<=h/\h<=n)/\k (.vs b off h.toNat z)
 |_=>False
theorem agj(n z:Nat) (D:aM):bn C id (.ZT x n z D) K ⟨sl,bx,lv,nx⟩=aj (bJ ⟨sl,bx,lv,nx⟩ x) (agi n z (aG ⟨sl,bx,lv,nx⟩ D) λv=>K v ⟨sl,bx,lv,nx⟩):=by
 show aj _ _=aj _ _
 cases bJ ⟨sl,bx,lv,nx⟩ x with
 |none=>rfl
 |some v=>cases v<;>rfl
theorem ab0(a:Option AV) (k:SV->Prop) (b off:Nat):agi n z a k (.ptr b off)=aj a λa=>aj (idxOf a) λh=>(0<=h/\h<=n)/\k (.vs b off h.toNat z):=rfl
theorem ab1:faP off k (.pt 2 ps)=k (.pt 2 (ps.drop off)):=rfl
theorem S1:GX true (some (.pt 0 [(b,0)])) (some p)=some (some .hole::p.1,b::p.2):=rfl
def MX:Option Nat->List (Nat×Nat)->Prop
 |none,(b,o)::_=>k (.ptr b o)
 |some n,ps=>n<=ps.length/\k (.pt 0 (ps.take n))
 |_,_=>False
def XB(D:Option Nat) (k:SV->Prop):SV->Prop
 | .pt 2 ps=>MX k D ps
 |_=>False
theorem agk(D:Option Nat):bn C id (.V5 x D) K ⟨sl,bx,lv,nx⟩=aj (bJ ⟨sl,bx,lv,nx⟩ x) (XB D λv=>K v ⟨sl,bx,lv,nx⟩):=by
 show aj _ _=aj _ _
 cases bJ ⟨sl,bx,lv,nx⟩ x with
 |none=>rfl
 |some v=>cases v with
  |pt k ps=>match k,D,ps with
   |2,none,(_,_)::_=>rfl
   |2,none,[]=>rfl
   |2,some _,[]=>rfl
   |2,some _,_::_=>rfl
   |0,_,_=>rfl
   |1,_,_=>rfl
   |k+3,_,_=>rfl
  |_=>rfl
theorem ab2(D:Option Nat) (k:SV->Prop) (ps:List (Nat×Nat)):XB D k (.pt 2 ps)=MX k D ps:=rfl
theorem ab3:MX k none ((b,o)::ps)=k (.ptr b o):=rfl
theorem ab4:MX k (some 1) ((b,o)::ps)=k (.pt 0 [(b,o)]):=by simp[MX]
@[congr] theorem ajS (L:Option Nat) (k:SV->Prop) {v D:SV} (h:v=D):XB L k v=XB L k D:=by rw[h]
@[congr] theorem ajT(L:Option Nat) {v D:List (Nat×Nat)} (h:v=D):MX k L v=MX k L D:=by rw[h]
theorem ab5(k:Nat) (ps:List (Nat×Nat)):j6 b cs (.pt k ps)=.pt k ps:=rfl
end
section
variable (id e z l:Nat) (k:S->Prop) (a:Prop) (bytes:Nat) (b:Prop) (c:aO) (s:S)
def Ox:AV->Prop
 | .bool t=>(t=true->a)/\(t=false->b)
 |_=>False
def S2(K:SV->S->Prop) (b off n D:Nat):SV->Prop
 | .ptr L _=>(L=b/\D=z)/\aj (bO b s.boxes) λy=>(n*z<=(y.cells.drop off).length/\n*bytes<=140737488355328)/\
   Ox (K (.dat .aU none) s) (K (.dat (.sl (cU z n (y.cells.drop off))) (some id)) {s with live:=(id,e)::s.live}) (.bool (n==0))
 |_=>False
def Z5(K:SV->S->Prop) (x:Option SV):SV->Prop
 | .vs b off n D=>aj x (S2 id e z bytes s K b off n D)
 |_=>False
theorem S3(n:Nat):Ox a b (.bool (n==0))=(if n=0 then a else b):=by
 by_cases h:n=0
 ·subst h;simp[Ox]
 ·simp[Ox,h]
theorem ab6(y x:aM):bn C id (.Dm e z bytes y x) K ⟨sl,bx,lv,nx⟩=aj (bJ ⟨sl,bx,lv,nx⟩ y) (Z5 id e z bytes ⟨sl,bx,lv,nx⟩ K (bJ ⟨sl,bx,lv,nx⟩ x)):=by
 show aj _ _=aj _ _
 cases bJ ⟨sl,bx,lv,nx⟩ y with
 |none=>rfl
 |some v=>
  cases v<;>try rfl
  show aj _ _=aj _ _
  cases bJ ⟨sl,bx,lv,nx⟩ x with
  |none=>rfl
  |some u=>
   cases u<;>try rfl
   show(_/\aj _ _)=(_/\aj _ _)
   congr 2
   funext y
   rw[S3]
theorem XC(K:SV->S->Prop) (x:Option SV) (b off n D:Nat):Z5 id e z bytes ⟨sl,bx,lv,nx⟩ K x (.vs b off n D)=aj x (S2 id e z bytes ⟨sl,bx,lv,nx⟩ K b off n D):=rfl
theorem XD(K:SV->S->Prop) (b off n D L o:Nat):S2 id e z bytes ⟨sl,bx,lv,nx⟩ K b off n D (.ptr L o)=((L=b/\D=z)/\aj (bO b bx) λy=>(n*z<=(y.cells.drop off).length/\n*bytes<=140737488355328)/\
   w6 (K (.dat .aU none) ⟨sl,bx,lv,nx⟩) (K (.dat (.sl (cU z n (y.cells.drop off))) (some id)) ⟨sl,bx,(id,e)::lv,nx⟩) (.bool (n==0))):=rfl
def cd(c:AV) [k:KP]:Prop:=w6 k.yes k.no c
theorem Eb(c:AV):w6 a b c=@cd c ⟨a,b⟩:=rfl
theorem XE:@cd (.bool true) ⟨a,b⟩=a:=by simp[cd,w6]
theorem XF:@cd (.bool false) ⟨a,b⟩=b:=by simp[cd,w6]
theorem XG:aw C (.block id c) Q ⟨sl,bx,lv,nx⟩=aw C c (jf id Q) ⟨sl,bx,lv,nx⟩:=rfl
theorem ab7:aw C (.exit id) Q ⟨sl,bx,lv,nx⟩=Q (.exit id) ⟨sl,bx,lv,nx⟩:=rfl
theorem agl:aw C .ret Q ⟨sl,bx,lv,nx⟩=Q .ret ⟨sl,bx,lv,nx⟩:=rfl
theorem XH(r:aO):aw C (.scope l c r) Q ⟨sl,bx,lv,nx⟩=aw C c (rN l (aw C r (H7 Q)) Q) ⟨sl,bx,lv,nx⟩:=rfl
theorem XI:aw C (.label l) Q ⟨sl,bx,lv,nx⟩=Q .normal ⟨sl,bx,lv,nx⟩:=rfl
theorem ab8:aw C (.goto l) Q ⟨sl,bx,lv,nx⟩=Q (.goto l) ⟨sl,bx,lv,nx⟩:=rfl
theorem XJ(l:Nat):jk k Q (.goto l) s=Q (.goto l) s:=rfl
theorem ab9(l:Nat):jf id Q (.goto l) s=Q (.goto l) s:=rfl
theorem agm:rN l k Q .normal s=Q .normal s:=rfl
theorem agn:rN l k Q .ret s=Q .ret s:=rfl
theorem ago(id:Nat):rN l k Q (.exit id) s=Q (.exit id) s:=rfl
theorem agp(D:Nat):rN l k Q (.goto D) s=(D=l/\k s):=rfl
theorem agq:H7 Q .normal s=Q .normal s:=rfl
theorem ags:H7 Q .ret s=Q .ret s:=rfl
theorem agt(id:Nat):H7 Q (.exit id) s=Q (.exit id) s:=rfl
theorem XK:jk k Q .normal s=k s:=rfl
theorem XL:jk k Q .ret s=Q .ret s:=rfl
theorem XM(id:Nat):jk k Q (.exit id) s=Q (.exit id) s:=rfl
theorem acd:jf id Q .normal s=Q .normal s:=rfl
theorem ace:jf id Q .ret s=Q .ret s:=rfl
theorem acf:jf id Q (.exit id) s=Q .normal s:=by simp[jf]
theorem acg(D:Nat) (s:S) (h:(D==id)=false):jf id Q (.exit D) s=Q (.exit D) s:=by
 have:D≠id:=by simpa using h
 simp[jf,this]
end
end
section
variable{C:aQ} {Q:Exit->S->Prop} {K:SV->S->Prop} {J:S->Prop}
section
variable (id:Nat) {v:SV} (e:Exit) (k:SV->Prop)
@[congr] theorem ai8 {α:Type} {o o':Option α} (k:α->Prop) (h:o=o'):aj o k=aj o' k:=by rw[h]
@[congr] theorem akM(o:bG) (s:S):bn C id o K s=bn C id o K s:=rfl
@[congr] theorem ajU (b i:Nat) (l:List CO) (s:S):je C b i l J s=je C b i l J s:=rfl
@[congr] theorem alp (c:aO) (s:S):aw C c Q s=aw C c Q s:=rfl
@[congr] theorem ai9(s:S):jk J Q e s=jk J Q e s:=rfl
@[congr] theorem agu {J:S->Prop} (l:Nat) (e:Exit) (s:S):rN l J Q e s=rN l J Q e s:=rfl
@[congr] theorem ajV(s:S):H7 Q e s=H7 Q e s:=rfl
@[congr] theorem agv(s:S):jf id Q e s=jf id Q e s:=rfl
@[congr] theorem ajW (n:Nat) (s:S):Gn J n s=Gn J n s:=rfl
@[congr] theorem ajX {s D:S} (h:s=D):down J s=down J D:=by rw[h]
@[congr] theorem agw (w:Bool) (yes no:Prop) {g D:Option SV} (h:g=D):mM w yes no g=mM w yes no D:=by rw[h]
@[congr] theorem aja{a a' b L:Option SV} {c D:AV} (M:a=a') (O:b=L) (R:c=D):Ea a b k c=Ea a' L k D:=by rw[M,O,R]
@[congr] theorem ajb (a b:Prop) {c D:AV} (h:c=D):w6 a b c=w6 a b D:=by rw[h]
@[congr] theorem akN(L:Option Nat) (bx:List (Nat×bH)) (k:SV->Prop) {D:SV} (h:v=D):ldP L bx k v=ldP L bx k D:=by rw[h]
@[congr] theorem akO(off:Nat) (k:SV->Prop) {D:SV} (h:v=D):faP off k v=faP off k D:=by rw[h]
@[congr] theorem akP{d L:Nat} {D:SV} (h:v=D) (hd:d=L):iaP d k v=iaP L k D:=by rw[h,hd]
@[congr] theorem akQ(M:Nat) (bx:List (Nat×bH)) {u L:Option SV} (k:List (Nat×bH)->Prop) {D:SV} (O:u=L) (h:v=D):stP M bx u k v=stP M bx L k D:=by rw[h,O]
@[congr] theorem akR(L off:Nat) (x:bH) (k:bH->Prop) {D:SV} (h:v=D):stV L off x k v=stV L off x k D:=by rw[h]
@[congr] theorem ajY (k:List AV->Prop) {v D:AV} (h:v=D):MV k v=MV k D:=by rw[h]
@[congr] theorem akS (m:Bool) (k:AV->Prop) {v D:List AV} (h:v=D):mmP m k v=mmP m k D:=by rw[h]
@[congr] theorem akT{D:SV} (h:v=D):ncP k v=ncP k D:=by rw[h]
end
end
section
variable(k:IntKind) (x y:Int)
section
variable (cs:List AV) (f:FloatKind) (c:Prop) (b:Bool) (off n:Nat) (xs:List (List AV)) (q:Option Nat) (v:AV)
theorem agx:d7 .add (.int k x) (.int k y)=some (.int k (k.wrap (x+y))):=by simp[d7,oG]
theorem agy:d7 .sub (.int k x) (.int k y)=some (.int k (k.wrap (x-y))):=by simp[d7,oG]
theorem agz:d7 .mul (.int k x) (.int k y)=some (.int k (k.wrap (x*y))):=by simp[d7,oG]
theorem agB:d7 .eql (.int k x) (.int k y)=some (.bool (x==y)):=by simp[d7,oG]
theorem agC:d7 .neq (.int k x) (.int k y)=some (.bool (x !=y)):=by simp[d7,oG]
theorem agD:d7 .lss (.int k x) (.int k y)=some (.bool (decide (x<y))):=by simp[d7,oG]
theorem agE:d7 .leq (.int k x) (.int k y)=some (.bool (decide (x<=y))):=by simp[d7,oG]
theorem agF:d7 .gtr (.int k x) (.int k y)=some (.bool (decide (y<x))):=by simp[d7,oG]
theorem agG:d7 .geq (.int k x) (.int k y)=some (.bool (decide (y<=x))):=by simp[d7,oG]
def dL(k:IntKind) (x y:Int):Int:=k.wrap (BitVec.ofInt k.bits x&&&BitVec.ofInt k.bits y).toNat
def AQ(k:IntKind) (x y:Int):Int:=k.wrap (BitVec.ofInt k.bits x|||BitVec.ofInt k.bits y).toNat
def Qm(k:IntKind) (x y:Int):Int:=k.wrap (BitVec.ofInt k.bits x^^^BitVec.ofInt k.bits y).toNat
def dW(k:IntKind) (x y:Int):Int:=k.wrap (BitVec.ofInt k.bits x&&& ~~~BitVec.ofInt k.bits y).toNat
theorem agH:d7 .and (.int k x) (.int k y)=some (.int k (dL k x y)):=by simp[d7,oG,BB,dL]
theorem ajZ:d7 .or (.int k x) (.int k y)=some (.int k (AQ k x y)):=by simp[d7,oG,BB,AQ]
theorem agI:d7 .xor (.int k x) (.int k y)=some (.int k (Qm k x y)):=by simp[d7,oG,BB,Qm]
theorem S4:d7 .andNot (.int k x) (.int k y)=some (.int k (dW k x y)):=by simp[d7,oG,BB,dW]
def s9[Decidable c]:Option AV:=if c then some v else none
theorem XN[Decidable c] (K:AV->Prop):@wv _ (s9 c v) ⟨K⟩=(c/\K v):=by
 rw[<-ei];unfold s9;split<;>simp_all
theorem agJ:d7 .quo (.int k x) (.int k y)=s9 (y≠0) (.int k (k.wrap (x.tdiv y))):=by
 by_cases h:y=0<;>simp[d7,oG,s9,h]
theorem agK:d7 .rem (.int k x) (.int k y)=s9 (y≠0) (.int k (x.tmod y)):=by
 by_cases h:y=0<;>simp[d7,oG,s9,h]
theorem agM(D:IntKind):d7 .shl (.int k x) (.int D y)=s9 (0<=y) (.int k (k.wrap (x*2^min y.toNat k.bits))):=by
 by_cases h:0<=y
 ·have:¬y<0:=aaN
  simp[d7,ur,s9,h,this]
 ·have:y<0:=aaN
  simp[d7,ur,s9,this]
theorem agN(D:IntKind):d7 .shr (.int k x) (.int D y)=s9 (0<=y) (.int k (x.fdiv (2^min y.toNat k.bits))):=by
 by_cases h:0<=y
 ·have:¬y<0:=aaN
  simp[d7,ur,s9,h,this]
 ·have:y<0:=aaN
  simp[d7,ur,s9,this]
theorem agO(x y:Bool):bbA false (.bool x) (.bool y)=some (.bool (x==y)):=rfl
theorem agP(x y:Bool):bbA true (.bool x) (.bool y)=some (.bool (x !=y)):=rfl
theorem agQ:ZU .not (.bool b)=some (.bool !b):=rfl
theorem agT:ZU .neg (.int k x)=some (.int k (k.wrap (0-x))):=rfl
theorem agU:HZ false .aU=some true:=rfl
theorem agV:HZ true .aU=some false:=rfl
theorem agW:HZ false (.sl xs)=some false:=rfl
theorem agY:HZ true (.sl xs)=some true:=rfl
theorem agZ:xH .aU=some (.int .i64 0):=rfl
theorem aj0:xH (.sl xs)=some (.int .i64 xs.length):=rfl
theorem aj1(D:IntKind):Dp k (.int D x)=some (.int k (k.wrap x)):=rfl
theorem aj2(D:IntKind) (f:FloatKind):Dq f (.int D x)=some (.float f (f.nearest x)):=rfl
theorem ag0(vs:List AV) (i:Nat):PS (.de vs) i=vs[i]?:=rfl
theorem ag1:gS (.agg cs) none=true:=rfl
theorem ag2:gS (.int k x) q=true:=rfl
theorem ag3:gS (.bool b) q=true:=rfl
theorem ag4:gS (.float f n) q=true:=rfl
theorem ag5:gS .aU q=true:=rfl
theorem ag6:gS (.sl xs) q=true:=rfl
theorem ag7(b:ByteArray) (q:Option Nat):gS (.str b) q=true:=rfl
theorem ag8(f:Fn) (as D:List AV) (q:Option Nat):gS (.fn f as D) q=true:=rfl
theorem ach:gS (.ref cs) q=true:=rfl
theorem ag9:gS .ja q=true:=rfl
theorem Qn:AV.cells (.agg cs)=cs:=rfl
theorem Qo:AV.cells (.int k x)=[.int k x]:=rfl
theorem MY:AV.cells (.bool b)=[.bool b]:=rfl
theorem Kr:AV.cells (.float f n)=[.float f n]:=rfl
theorem MZ:AV.cells .aU=[.aU]:=rfl
theorem Qp:AV.cells (.ref cs)=[.ref cs]:=rfl
theorem S5(f:Fn) (as D:List AV):AV.cells (.fn f as D)=[.fn f as D]:=rfl
theorem S6:AV.cells (.sl xs)=[.sl xs]:=rfl
theorem aci:aB cs off none=cs[off]?:=rfl
theorem mN(h:off+n<=cs.length):aB cs off (some n)=some (.agg ((cs.drop off).take n)):=by simp[aB,h]
end
end
section
variable (wr:List Nat) (F:S->Prop) (Q:Exit->S->Prop) {t:Bool} (s:S)
theorem bg{w:Bool} {yes no:Prop} {q:Option Nat} (D:t=true->@gd w (some (.dat (.bool true) q)) ⟨yes,no⟩) (L:t=false->@gd w (some (.dat (.bool false) q)) ⟨yes,no⟩):@gd w (some (.dat (.bool t) q)) ⟨yes,no⟩:=by
 cases t
 ·exact L rfl
 ·exact D rfl
theorem az{a b:Prop} (D:t=true->a) (L:t=false->b):@cd (.bool t) ⟨a,b⟩:=by
 cases t
 ·simpa[cd,w6]using L rfl
 ·simpa[cd,w6]using D rfl
theorem bz{a b:Option SV} {k:SV->Prop} (D:t=true->@pk a b (.bool true) ⟨k⟩) (L:t=false->@pk a b (.bool false) ⟨k⟩):@pk a b (.bool t) ⟨k⟩:=by
 cases t
 ·exact L rfl
 ·exact D rfl
theorem XP(p:Nat) (ps:List Nat) (x:AV) (xs:List AV) (s:S):sW (p::ps) (x::xs) s=sW ps xs (s.put (some p) (.dat x none)):=rfl
theorem S7:sW [] [] s=s:=rfl
theorem acj(sl:List (Nat×SV)) (bx:List (Nat×bH)) (lv:List (Nat×Nat)) (nx:Nat):wT wr ⟨sl,bx,lv,nx⟩=⟨oI wr sl,bx,lv,nx⟩:=rfl
theorem XQ:oI wr []=[]:=rfl
theorem ack(t:Nat) (v:SV) (r:List (Nat×SV)):oI wr ((t,v)::r)=bif wr.contains t then oI wr r else(t,v)::oI wr r:=rfl
theorem acm:RQ wr F Q .normal s=down F (wT wr s):=rfl
theorem acn:RQ wr F Q .ret s=Q .ret (wT wr s):=rfl
theorem aco(id:Nat) (s:S):RQ wr F Q (.exit id) s=Q (.exit id) (wT wr s):=rfl
theorem XS(K:S->Prop) (s:S):Dw K .normal s=K s:=rfl
def EV0:=
 dC @aa6 (dC @aa7 (dC @aa8 (dC @afx (dC @ajz (dC @afy (dC @ajA (dC @WY (dC @aa9 (dC @aba (dC @abb (dC @abc (dC @afA (dC @Kq (dC @BS (dC @zc (dC @uN (dC @abd (dC @abe (dC @W0 (dC @afB (dC @abf (dC @abg (dC @abh (dC @W4 (dC @abi (dC @W5 (dC @W6 (dC @W7 (@W8)))))))))))))))))))))))))))))
def EV1:=
 dC @Sx (dC @W9 (dC @abj (dC @Xa (dC @Sy (dC @Sz (dC @Qe (dC @SA (dC @Qf (dC @ajB (dC @abk (dC @Xb (dC @Xc (dC @Xd (dC @afC (dC @ajC (dC @abl (dC @abm (dC @afD (dC @ajD (dC @afF (dC @afG (dC @Xe (dC @Xf (dC @ajE (dC @afH (dC @afI (dC @afK (dC @afL (@afM)))))))))))))))))))))))))))))
def EV2:=
 dC @afN (dC @afO (dC @abn (dC @abo (dC @abp (dC @Xg (dC @afP (dC @afQ (dC @afR (dC @afS (dC @afT (dC @ajG (dC @ajH (dC @abq (dC @abr (dC @abt (dC @abu (dC @Ow (dC @Xh (dC @ajJ (dC @ajK (dC @ajL (dC @ajM (dC @afU (dC @abw (dC @abx (dC @afW (dC @aby (dC @abz (@abA)))))))))))))))))))))))))))))
def EV3:=
 dC @SC (dC @SD (dC @SE (dC @abB (dC @afY (dC @SF (dC @Xi (dC @Xj (dC @SG (dC @Xk (dC @Xl (dC @Qh (dC @SH (dC @Qi (dC @SJ (dC @SK (dC @SM (dC @Xm (dC @Xn (dC @Xp (dC @SN (dC @SO (dC @Xq (dC @SP (dC @SQ (dC @Qj (dC @Qk (dC @afZ (dC @af0 (@abC)))))))))))))))))))))))))))))
def EV4:=
 dC @abD (dC @abE (dC @abF (dC @abG (dC @Xr (dC @abH (dC @Xu (dC @abI (dC @Xv (dC @abJ (dC @SR (dC @SS (dC @SU (dC @abK (dC @af1 (dC @abL (dC @af3 (dC @ajN (dC @af5 (dC @af6 (dC @abM (dC @Xw (dC @SW (dC @Ql (dC @af7 (dC @Xx (dC @SX (dC @af8 (dC @af9 (@Xy)))))))))))))))))))))))))))))
def EV5:=
 dC @abP (dC @Xz (dC @abQ (dC @abR (dC @aga (dC @abS (dC @ajO (dC @agb (dC @agc (dC @agd (dC @abT (dC @age (dC @agf (dC @SY (dC @abU (dC @abW (dC @abX (dC @abY (dC @agh (dC @S0 (dC @abZ (dC @agj (dC @ab0 (dC @ab1 (dC @S1 (dC @agk (dC @ab2 (dC @ab3 (dC @ab4 (@ab5)))))))))))))))))))))))))))))
def EV6:=
 dC @ab6 (dC @XC (dC @XD (dC @XE (dC @XF (dC @XG (dC @ab7 (dC @agl (dC @XH (dC @XI (dC @ab8 (dC @XJ (dC @ab9 (dC @agm (dC @agn (dC @ago (dC @agp (dC @agq (dC @ags (dC @agt (dC @XK (dC @XL (dC @XM (dC @acd (dC @ace (dC @acf (dC @agx (dC @agy (dC @agz (@agB)))))))))))))))))))))))))))))
def EV7:=
 dC @agC (dC @agD (dC @agE (dC @agF (dC @agG (dC @agH (dC @ajZ (dC @agI (dC @S4 (dC @XN (dC @agJ (dC @agK (dC @agM (dC @agN (dC @agO (dC @agP (dC @agQ (dC @agT (dC @agU (dC @agV (dC @agW (dC @agY (dC @agZ (dC @aj0 (dC @aj1 (dC @aj2 (dC @ag0 (dC @ag1 (dC @ag2 (@ag3)))))))))))))))))))))))))))))
def EV8:=
 dC @ag4 (dC @ag5 (dC @ag6 (dC @ag7 (dC @ag8 (dC @ach (dC @ag9 (dC @Qn (dC @Qo (dC @MY (dC @Kr (dC @MZ (dC @Qp (dC @S5 (dC @S6 (dC @aci (dC @XP (dC @S7 (dC @acj (dC @XQ (dC @ack (dC @acm (dC @acn (dC @aco (@XS))))))))))))))))))))))))
def EV:=
 dC @EV0 (dC @EV1 (dC @EV2 (dC @EV3 (dC @EV4 (dC @EV5 (dC @EV6 (dC @EV7 (@EV8))))))))
end
section
variable{C:aQ}
section
variable {F G:S->Prop} {K K':SV->S->Prop} {Q Q':Exit->S->Prop} {e:Exit} {id:Nat} {s:S} {wr:List Nat} {α:Type} (hd:α->S)
theorem zg{o:bG} (hk:∀v D,K v D->K' v D) (h:bn C id o K s):bn C id o K' s:=by
 obtain⟨v,d,hK,_,_,L⟩:=yV h;exact L.2 s .refl K' (hk _ _ hK)
theorem qD{base:Nat}:∀{l:List CO} {i:Nat} {s:S} {K K':S->Prop},(∀s,K s->K' s)->je C base i l K s->je C base i l K' s
 |[],i,s,K,K',hk,h=>hk s h
 |o::l,i,s,K,K',hk,h=>by
  rw[qn]at h⊢;obtain⟨v,d,hd,D,_⟩:=gj h;exact hd.2 s .refl _ (qD hk D)
theorem Qq{o:Gd} {X X':AV->S->Prop} (hk:∀v s',K v s'->K' v s') (hx:∀p s',X p s'->X' p s') (h:cI C id o K X s):cI C id o K' X' s:=by
 cases o with
 |o c=>exact zg hk h
 |call f args=>
  simp only[cI]at h⊢
  rcases h with h|h
  ·exact .inl (zg hk h)
  ·obtain⟨as,has,h⟩:=ah h
   rw[has]
   rcases h with⟨cs,L,D⟩|⟨p,L,D⟩|⟨rows,e,z,L,D,h3⟩
   ·exact .inr (.inl ⟨cs,L,hk _ _ D⟩)
   ·exact .inr (.inr (.inl ⟨p,L,hx _ _ D⟩))
   ·exact .inr (.inr (.inr ⟨rows,e,z,L,D,hk _ _ h3⟩))
 |apn e z bytes y=>
  obtain⟨a,R,h⟩:=ah h;obtain⟨rows,hr,L,D,h3⟩:=ah h;simp only[cI,R,hr,ax];exact⟨L,D,hk _ _ h3⟩
 |dR f args=>
  simp only[cI]at h⊢
  rcases h with h|h
  ·exact .inl (zg hk h)
  ·obtain⟨p,O,hn,h⟩:=ah h
   obtain⟨css,V,h⟩:=ah h;rw[O];refine .inr ⟨hn,?_⟩;rw[V]
   rcases h with⟨v,M,L,D⟩|⟨tg,r,M,Z,L,D⟩
   ·exact .inl ⟨v,M,L,hx _ _ D⟩
   ·obtain⟨qo,hq,D⟩:=ah D
    exact .inr ⟨tg,r,M,Z,L,by rw[hq];exact hk _ _ D⟩
 |fu b g args=>
  simp only[cI]at h⊢;split at h
  ·obtain⟨p,O,hn,h⟩:=ah h
   obtain⟨css,V,h⟩:=ah h;rw[O];refine⟨hn,?_⟩;rw[V]
   rcases h with⟨r,fr,M,L,D⟩|⟨v,M,L,D⟩|⟨tg,r,M,Z,L,D⟩
   ·exact .inl ⟨r,fr,M,L,hk _ _ D⟩
   ·exact .inr (.inl ⟨v,M,L,hx _ _ D⟩)
   ·obtain⟨qo,hq,D⟩:=ah D
    exact .inr (.inr ⟨tg,r,M,Z,L,by rw[hq];exact hk _ _ D⟩)
  ·exact zg hk h
 |Wk x=>
  obtain⟨p,O,h⟩:=ah h;simp only[cI,O,ax]
  cases p<;>first|exact hk _ _ h|exact h.elim
 |Wl x=>
  obtain⟨p,O,h⟩:=ah h;simp only[cI,O,ax]
  cases p<;>try(exact h.elim)
  rename_i k ps
  cases k<;>first|exact hk _ _ h|exact h.elim
 |stp x v=>
  obtain⟨p,O,h⟩:=ah h;simp only[cI,O,ax]
  cases p<;>try(exact h.elim)
  rename_i b o
  cases o<;>try(exact h.elim)
  obtain⟨q,hq,h⟩:=ah h;simp only[hq,ax]
  cases q<;>try(exact h.elim)
  rename_i k ps
  cases k<;>try(exact h.elim)
  obtain⟨y,hy,L,D⟩:=ah h;simp only[hy,ax];exact⟨L,hk _ _ D⟩
 |Wm xs=>obtain⟨p,O,h⟩:=ah h;simp only[cI,O];exact hk _ _ h
 |iap x i=>
  obtain⟨p,O,h⟩:=ah h;simp only[cI,O,ax]
  cases p<;>try(exact h.elim)
  rename_i k ps
  match k,h with
  |1,h=>
   obtain⟨a,R,h⟩:=ah h;obtain⟨j,hj,L,D⟩:=ah h;simp only[R,ax,hj];exact⟨L,hk _ _ D⟩
  |0,h=>exact h.elim
  |k+2,h=>exact h.elim
 |lnp x=>
  obtain⟨p,O,h⟩:=ah h;simp only[cI,O,ax]
  cases p<;>try(exact h.elim)
  rename_i k ps
  match k,h with
  |1,h=>exact hk _ _ h
  |0,h=>exact h.elim
  |k+2,h=>exact h.elim
 |N0 g args=>
  obtain⟨av,aa,h⟩:=ah h;simp only[cI,aa,ax]
  cases av<;>try(exact h.elim)
  rename_i fn first caps
  cases fn<;>try(exact h.elim)
  cases first<;>try(exact h.elim)
  cases caps<;>try(exact h.elim)
  obtain⟨p,O,hn,h⟩:=ah h;obtain⟨css,V,j,o,b,L,D,h3⟩:=ah h;simp only[O,ax,V];exact⟨hn,j,o,b,L,D,hk _ _ h3⟩
 |mkc f caps=>obtain⟨p,O,h⟩:=ah h;simp only[cI,O];exact hk _ _ h
 |PO x=>obtain⟨a,R,L,D⟩:=ah h;simp only[cI,R];exact⟨L,hx _ _ D⟩
 |mkI t x=>obtain⟨a,R,L,D⟩:=ah h;simp only[cI,R];exact⟨L,hk _ _ D⟩
 |tas t z x=>
  obtain⟨a,R,h⟩:=ah h;obtain⟨v,hv,h⟩:=ah h;simp only[cI,R,ax,hv];exact hk _ _ h
 |isI neg x=>
  obtain⟨a,R,h⟩:=ah h;obtain⟨v,hv,h⟩:=ah h;simp only[cI,R,ax,hv];exact hk _ _ h
 |isP neg x=>
  obtain⟨a,R,h⟩:=ah h;obtain⟨v,hv,h⟩:=ah h;simp only[cI,R,ax,hv];exact hk _ _ h
 |mks e bytes l c=>
  obtain⟨a,R,h⟩:=ah h;obtain⟨l',hl,h⟩:=ah h;obtain⟨b,hb,h⟩:=ah h;obtain⟨c',hc,L,h⟩:=ah h;simp only[cI,R,ax,hl,hb,hc];exact⟨L,hk _ _ h⟩
 |cpy e x y=>
  obtain⟨p,O,h⟩:=ah h;simp only[cI,O,ax]
  cases p<;>try(exact h.elim)
  obtain⟨b,hb,h⟩:=ah h;obtain⟨ys,hy,L,D,h⟩:=ah h;simp only[hb,ax,hy];exact⟨L,D,hk _ _ h⟩
theorem Ks{g:Option (Nat×Bool)} {y O n D:Prop} (M:y->O) (L:n->D) (h:fj s g y n):fj s g O D:=by
 unfold fj at h⊢;split at h
 ·exact M h
 ·split at h
  ·exact⟨λe=>M (h.1 e),λe=>L (h.2 e)⟩
  ·exact L h
  ·exact h.elim
theorem xY{base:Nat}:∀{l:List XO} {i:Nat} {s:S} {K K':S->Prop} {X X':AV->S->Prop},(∀s,K s->K' s)->(∀p L,X p L->X' p L)->iJ C base i l K X s->iJ C base i l K' X' s
 |[],i,s,K,K',X,X',hk,D,h=>hk s h
 |o::l,i,s,K,K',X,X',hk,D,h=>Ks (Qq (λv L h=>xY hk D h) D) (xY hk D) h
theorem nH(h:∀s,F s->G s) (hd:down F s):down G s:=by
 obtain⟨s1,⟨M,hF|⟨ids,D,hF⟩⟩|hF⟩:=hd
 ·exact nu M (h _ hF)
 ·obtain⟨css,L,hF⟩:=ah hF
  exact RJ M ⟨ids,D,by rw[L];exact h _ hF⟩
 ·exact⟨s1,.inr (h _ hF)⟩
theorem iN(h:∀s,F s->G s) (L:∀e s,Q e s->Q' e s) (D:jk F Q e s):jk G Q' e s:=by
 cases e<;>first|exact h _ D|exact L _ _ D
theorem Kt(M:∀e s,Q e s->Q' e s) (D:jf id Q e s):jf id Q' e s:=by
 cases e with
 |exit i=>
  simp only[jf]at D⊢;split
  ·rename_i L;rw[ib L]at D;exact M _ _ D
  ·rename_i L;rw[ge L]at D;exact M _ _ D
 |_=>exact M _ _ D
theorem r9{F G:(Exit->S->Prop)->S->Prop} (hF:∀Q Q' s,(∀e s,Q e s->Q' e s)->F Q s->G Q' s) {Q Q':Exit->S->Prop} (D:∀e s,Q e s->Q' e s):∀{n:Nat} {s:S},rK F Q n s->rK G Q' n s
 |0,s,h=>h
 |n+1,s,h=>hF _ _ s (λe s L=>iN (λs hd=>nH (λs h=>r9 hF D h) hd) D L) h
theorem S8(D:∀e s,Q e s->Q' e s) (h:RQ wr F Q e s):RQ wr F Q' e s:=by
 cases e<;>first|exact h|exact D _ _ h
theorem ko:∀{c:aO} {Q Q':Exit->S->Prop} {s:S},(∀e s,Q e s->Q' e s)->aw C c Q s->aw C c Q' s:=by
 intro c
 induction c with
 |skip=>intro Q Q' s D h;exact D _ _ h
 |GD ops=>intro Q Q' s D h;exact qD (λs h=>D _ _ h) h
 |oF ops=>intro Q Q' s D h;exact xY (λs h=>D _ _ h) (λp s h=>D _ _ h) h
 |uo ops cJ=>
  intro Q Q' s D h;obtain⟨ids,R,h⟩:=h;obtain⟨css,V,ro,hd,h⟩:=ah h
  exact⟨ids,R,by rw[V];exact⟨ro,hd,qD (λs h=>D _ _ h) h⟩⟩
 |CA ops cJ k ad=>
  intro Q Q' s D h
  rcases h with⟨ids,R,h⟩|h
  ·obtain⟨css,V,ro,hd,h⟩:=ah h
   exact .inl ⟨ids,R,by rw[V];exact⟨ro,hd,qD (λs h=>D _ _ h) h⟩⟩
  ·exact .inr ⟨h.1,qD (λs ⟨d,p,h1,h2,h3⟩=>⟨d,p,h1,h2,D _ _ h3⟩) h.2⟩
 |seq a b L M=>intro Q Q' s D h;exact L (λe s O=>iN (λs h=>M D h) D O) h
 |join a b L M=>intro Q Q' s D h;exact L (λe s O=>iN (λs h=>nH (λs h=>M D h) h) D O) h
 |cond c a b L M=>
  intro Q Q' s D h;simp only[aw]at h⊢;obtain⟨v,hv,h⟩:=ah h;rw[hv]
  cases v<;>try(exact h.elim)
  exact⟨λe=>L D (h.1 e),λe=>M D (h.2 e)⟩
 |block id c ih=>intro Q Q' s D h;exact ih (λe s O=>Kt D O) h
 |loop c ih=>
  intro Q Q' s D h
  exact nH (λs ⟨n,h⟩=>⟨n,r9 (F:=aw C c) (G:=aw C c) (λQ Q' s D h=>ih D h) D h⟩) h
 |exit id=>intro Q Q' s D h;exact D _ _ h
 |ret=>intro Q Q' s D h;exact D _ _ h
 |label l=>intro Q Q' s D h;exact D _ _ h
 |goto l=>intro Q Q' s D h;exact D _ _ h
 |scope l c r aa ab=>
  intro Q Q' s D h
  refine aa (λe s O=>?_) h
  cases e with
  |goto l'=>
   refine⟨O.1,ab (λe s Z=>?_) O.2⟩
   cases e<;>first|exact Z|exact D _ _ Z
  |_=>exact D _ _ O
 |um g ps wr as bd L M=>
  intro Q Q' s D h;simp only[aw]at h⊢;obtain⟨gv,ac,xs,h1,h2,F,h3,h4,h5,h6⟩:=ah h;rw[ac]
  refine⟨xs,h1,h2,F,h3,h4,λi x s' hx hs=>L (λe s O=>?_) (h5 i x s' hx hs),λs' hs=>D _ _ (h6 s' hs)⟩
  cases e<;>first|exact O.elim|exact M (λe s Z=>S8 D Z) O
theorem XT{g:aM} {ps:List Nat} {as bd:aO} {Z:AV} {xs:List (List AV)} (I:Nat->α->Prop) (hg:aG s g=some Z) (ab:C.i Z xs) (R:∀x∈xs,x.length=ps.length) {L:α} (M:Le s (hd L)\/s=hd L) (O:I 0 L) (aa:∀y,aG (hd y) g=some Z) (round:∀i x y,xs[i]? =some x->I i y->aw C as (Dw (aw C bd (RQ wr (λD=>∃z,D=hd z/\I (i+1) z) Q))) (sW ps x (hd y))) (fin:∀y,I xs.length y->Q .normal (hd y)):aw C (.um g ps wr as bd) Q s:=by
 simp only[aw,hg,ax]
 refine⟨xs,ab,R,λi D=>∃y,D=hd y/\I i y,?_,?_,?_,?_⟩
 ·rcases M with M|M
  ·exact nu M ⟨L,rfl,O⟩
  ·exact gy ⟨L,M,O⟩
 ·rintro i D ⟨y,rfl,_⟩;exact aa y
 ·rintro i x D hx ⟨y,rfl,V⟩;exact round i x y hx V
 ·rintro D ⟨y,rfl,V⟩;exact fin y V
def flat(keep:List Nat):Nat->aO->aO×Nat
 |i,.join a b=>
  let p:=flat keep (i+1) a
  let q:=flat keep p.2 b
  (if keep.contains i then .join p.1 q.1 else .seq p.1 q.1,q.2)
 |i,.seq a b=>
  let p:=flat keep i a
  let q:=flat keep p.2 b
  (.seq p.1 q.1,q.2)
 |i,.cond c a b=>
  let p:=flat keep i a
  let q:=flat keep p.2 b
  (.cond c p.1 q.1,q.2)
 |i,.block id c=>(.block id (flat keep i c).1,(flat keep i c).2)
 |i,.um g ps wr as D=>
  let p:=flat keep i as
  let q:=flat keep p.2 D
  (.um g ps wr p.1 q.1,q.2)
 |i,.loop c=>(.loop (flat keep i c).1,(flat keep i c).2)
 |i,.scope l c r=>
  let p:=flat keep i c
  let q:=flat keep p.2 r
  (.scope l p.1 q.1,q.2)
 |i,c=>(c,i)
theorem wg{keep:List Nat}:∀{c:aO} {i:Nat} {Q:Exit->S->Prop} {s:S},aw C (flat keep i c).1 Q s->aw C c Q s:=by
 intro c
 induction c with
 |join a b D L=>
  intro i Q s h;simp only[flat]at h;split at h
  ·exact D (ko (λe s M=>iN (λs h=>nH (λs h=>L h) h) (λ_ _ h=>h) M) h)
  ·exact D (ko (λe s M=>iN (λs h=>gy (L h)) (λ_ _ h=>h) M) h)
 |seq a b D L=>intro i Q s h;exact D (ko (λe s M=>iN (λs h=>L h) (λ_ _ h=>h) M) h)
 |cond c a b D L=>
  intro i Q s h;simp only[flat,aw]at h⊢;obtain⟨v,hv,h⟩:=ah h;rw[hv]
  cases v<;>try(exact h.elim)
  exact⟨λe=>D (h.1 e),λe=>L (h.2 e)⟩
 |block id c O=>intro i Q s h;exact O h
 |scope l c r R V=>
  intro i Q s h
  refine R (ko (λe s M=>?_) h)
  cases e with
  |goto l'=>exact⟨M.1,V M.2⟩
  |_=>exact M
 |um g ps wr as bd D L=>
  intro i Q s h;simp only[flat,aw]at h⊢;obtain⟨gv,Z,xs,h1,h2,F,h3,h4,h5,h6⟩:=ah h;rw[Z]
  refine⟨xs,h1,h2,F,h3,h4,λi x s' hx hs=>D (ko (λe s M=>?_) (h5 i x s' hx hs)),h6⟩
  cases e<;>first|exact M.elim|exact L M
 |loop c O=>
  intro i Q s h
  exact nH (λs ⟨n,h⟩=>⟨n,r9 (F:=aw C (flat keep i c).1) (G:=aw C c) (λQ Q' s hq h=>ko hq (O h)) (λ_ _ h=>h) h⟩) h
 |_=>intro i Q s h;exact h
theorem Oy{c:aO} (μ:α->Nat) (I:α->Prop) (round:∀x,I x->aw C c (jk (down λs=>∃y,s=hd y/\I y/\μ y<μ x) Q) (hd x)) {x:α} (D:I x) (L:Le s (hd x)\/s=hd x):aw C (.loop c) Q s:=by
 have key:∀n x,I x->μ x<n->rK (aw C c) Q n (hd x):=by
  intro n
  induction n with
  |zero=>intro x _ h;omega
  |succ n M=>
   intro x D Z;refine ko ?_ (round x D);intro e s O
   refine iN ?_ (λ_ _ h=>h) O
   intro s hd;refine nH ?_ hd
   rintro s ⟨y,rfl,R,V⟩
   exact M y R aaN
 rcases L with L|rfl
 ·exact nu L ⟨μ x+1,key _ x D aaN⟩
 ·exact gy ⟨μ x+1,key _ x D aaN⟩
end
end
section
variable (i k:Nat) (cs:List AV) (b:Bool) (xs css:List (List AV)) (r:List (Option AV))
theorem aha(k:IntKind) (n:Int):jc (.int k n)=.dat (.int k n) none:=rfl
theorem acp:jc (.bool b)=.dat (.bool b) none:=rfl
theorem XU(k:FloatKind) (n:Nat):jc (.float k n)=.dat (.float k n) none:=rfl
theorem ahb(s:ByteArray):jc (.str s)=.dat (.str s) none:=rfl
theorem acq:jc .rG=.dat .rG none:=rfl
theorem acr:jc .aU=.dat .aU none:=rfl
theorem aj3:jc (.sl xs)=.dat (.sl xs) none:=rfl
theorem aj4(f:Fn) (as D:List AV):jc (.fn f as D)=.dat (.fn f as D) none:=rfl
theorem ahc:jc (.agg cs)=.dat (.agg cs) none:=rfl
theorem ahd:jc (.ref cs)=.rp cs:=rfl
theorem XV(a:AV) (r:List AV):slotsOf i (a::r)=(i,jc a)::slotsOf (i+1) r:=rfl
theorem S9:slotsOf i []=[]:=rfl
theorem acs(as:List AV):Ot as=⟨slotsOf 0 as,[],[],4⟩:=rfl
theorem acu(q:IntKind) (n:Int) (r:List (Option AV)):bS i k (some (.int q n)::r)=(i,.dat (.int q n) none)::bS (i+1) k r:=rfl
theorem XW:bS i k (some (.bool b)::r)=(i,.dat (.bool b) none)::bS (i+1) k r:=rfl
theorem Ta(q:FloatKind) (n:Nat) (r:List (Option AV)):bS i k (some (.float q n)::r)=(i,.dat (.float q n) none)::bS (i+1) k r:=rfl
theorem acv(b:ByteArray) (r:List (Option AV)):bS i k (some (.str b)::r)=(i,.dat (.str b) none)::bS (i+1) k r:=rfl
theorem XX:bS i k (some (.rG)::r)=(i,.dat .rG none)::bS (i+1) k r:=rfl
theorem XY:bS i k (some (.aU)::r)=(i,.dat .aU none)::bS (i+1) k r:=rfl
theorem ahe:bS i k (some (.sl xs)::r)=(i,.dat (.sl xs) none)::bS (i+1) k r:=rfl
theorem ahf(g:Fn) (as D:List AV) (r:List (Option AV)):bS i k (some (.fn g as D)::r)=(i,.dat (.fn g as D) none)::bS (i+1) k r:=rfl
theorem acw:bS i k (some (.agg cs)::r)=(i,.dat (.agg cs) none)::bS (i+1) k r:=rfl
theorem acy:bS i k (some (.ref cs)::r)=(i,.rp cs)::bS (i+1) k r:=rfl
theorem acz(t:Nat) (a:AV) (r:List (Option AV)):bS i k (some (.iface t a)::r)=(i,.dat (.iface t a) none)::bS (i+1) k r:=rfl
theorem acA:bS i k (some (.gh)::r)=(i,.dat .gh none)::bS (i+1) k r:=rfl
theorem acB:bS i k (some (.fc)::r)=(i,.dat .fc none)::bS (i+1) k r:=rfl
theorem XZ:bS i k (some .hole::r)=(i,.pt 0 [(k,0)])::bS (i+1) (k+1) r:=rfl
def Qr:=dC @acu (dC @XW (dC @Ta (dC @acv (dC @XX (dC @XY (dC @ahe (dC @ahf (dC @acw (dC @acy (dC @acz (dC @acA (dC @acB @XZ))))))))))))
theorem Qs:bS i k (none::r)=(i,.ptr k 0)::bS (i+1) (k+1) r:=rfl
theorem Qt:bS i k []=[]:=rfl
theorem Tc:jg k (cs::css)=(k,⟨cs,[]⟩)::jg (k+1) css:=rfl
theorem Qu:jg k []=[]:=rfl
theorem X0(as:List (Option AV)):kP css as=⟨bS 0 0 as,jg 0 css,[],4⟩:=rfl
theorem acC(res:List fq) (r:AV) (s:S):fin res r none .normal s=aj (dV s res) λp=>p.1=r:=by simp[fin,Kk]
end
section
variable (res:List fq) (r a:AV) (css:List (List AV)) (e:Nat) (l:List (Nat×bH)) (s:S) (k off:Nat) (q:Option Nat) (t:Nat)
theorem acD:fin res r none .ret s=aj (dV s res) λp=>p.1=r:=by simp[fin,Kk]
theorem acE:fin res r (some e) .normal s=aj (dV s res) λp=>p.1=r/\Kk (some e) p.2 s.live:=rfl
theorem acF:fin res r (some e) .ret s=aj (dV s res) λp=>p.1=r/\Kk (some e) p.2 s.live:=rfl
theorem aj5(q:Nat) (lv:List (Nat×Nat)):Kk (some e) (some q) lv=(dJ q lv=some e):=rfl
theorem X1:D6 res r none css .normal s=aj (dV s res) λp=>p.1=r/\iC s.boxes 0 css:=by simp[D6,Kk]
theorem X2:D6 res r none css .ret s=aj (dV s res) λp=>p.1=r/\iC s.boxes 0 css:=by simp[D6,Kk]
theorem X3:iC l k []=True:=rfl
theorem acG(cs:List AV) (css:List (List AV)):iC l k (cs::css)=(aj (bO k l) (λx=>x.cells=cs)/\iC l (k+1) css):=rfl
def X4:Option SV->Option (AV×Option Nat)
 |some (.dat a q)=>some (a,q)
 |_=>none
theorem acH:X4 (some (.dat a q))=some (a,q):=rfl
theorem acI:dV s [.tmp t]=X4 (lk t s.slots):=rfl
def Te(D:Option Nat) (bx:List (Nat×bH)):Option SV->Option (AV×Option Nat)
 |some (.ptr b off)=>match bO b bx with
  |some x=>match aB x.cells off D with
   |some a=>some (a,match D with|none=>dJ off x.tags|some _=>none)
   |none=>none
  |none=>none
 |_=>none
def GY(D:Option Nat):Option bH->Option (AV×Option Nat)
 |some x=>match aB x.cells off D with
  |some a=>some (a,match D with|none=>dJ off x.tags|some _=>none)
  |none=>none
 |none=>none
theorem acJ(D:Option Nat):dV s [.cell t D]=Te D s.boxes (lk t s.slots):=rfl
theorem X5(D:Option Nat) (bx:List (Nat×bH)) (b off:Nat):Te D bx (some (.ptr b off))=GY off D (bO b bx):=by
 simp only[Te,GY]
theorem X6(n:Nat) (x:bH):GY off (some n) (some x)=(aB x.cells off (some n)).map λa=>(a,none):=by
 simp only[GY]<;>cases aB x.cells off (some n)<;>rfl
theorem X7(x:bH):GY off none (some x)=(x.cells[off]?).map λa=>(a,dJ off x.tags):=by
 simp only[GY,aB]<;>cases x.cells[off]?<;>rfl
theorem acK:dV s []=some (.de [],none):=rfl
theorem acL(x y:fq) (r:List fq):dV s (x::y::r)=(kQ s (x::y::r)).map λas=>(.de as,none):=rfl
def Tf:Option (AV×Option Nat)->Option (List AV)->Option (List AV)
 |some p,some as=>some (p.1::as)
 |_,_=>none
theorem X8(as:List AV):Tf (some (a,q)) (some as)=some (a::as):=rfl
theorem acM(x:fq) (r:List fq):kQ s (x::r)=Tf (dV s [x]) (kQ s r):=by
 simp only[kQ,Tf,dV]<;>cases Iq s x<;>cases kQ s r<;>rfl
end
section
variable {P:Program} {cf:bE} {f:FuncId} {fr:Option Nat} {i off:Nat} {r:AV} {α:Type} {l:List α} {x:α} (n:Int)
theorem X9(s:S):kQ s []=some []:=rfl
def EW0:=
 dC @aha (dC @acp (dC @XU (dC @ahb (dC @acq (dC @acr (dC @aj3 (dC @aj4 (dC @ahc (dC @ahd (dC @XV (dC @S9 (dC @acs (dC @Qr (dC @Qs (dC @Qt (dC @Tc (dC @Qu (dC @X0 (dC @acC (dC @acD (dC @acE (dC @acF (dC @aj5 (dC @X1 (dC @X2 (dC @X3 (dC @acG (dC @acH (@acI)))))))))))))))))))))))))))))
def EW1:=
 dC @acJ (dC @X5 (dC @X6 (dC @X7 (dC @acK (dC @acL (dC @X8 (dC @acM (@X9))))))))
def EW:=
 dC @EW0 (@EW1)
theorem aq(hm:P.follows .mixedOrders=true) {L:Bool} (D:oK L P f=some cf) {args:List AV} (keep:List Nat) (M:Nat.ble args.length cf.nt=true) (h:aw (Pure P) (flat keep 0 cf.code).1 (fin cf.res r fr) (Ot args)):Dy P f args r fr:=WX hm D (fi M) (wg (keep:=keep) (i:=0) h)
theorem Ec(hm:P.follows .mixedOrders=true) {M:Bool} (L:oK M P f=some cf) {css D:List (List AV)} {args:List (Option AV)} (keep:List Nat) (R:Nat.ble args.length cf.nt=true) (O:D.length=css.length) (h4:Nat.ble css.length 4=true) (h:aw (Pure P) (flat keep 0 cf.code).1 (D6 cf.res r fr D) (kP css args)):uz P f css args r fr D:=Ko hm L (fi R) O (fi h4) (wg (keep:=keep) (i:=0) h)
abbrev I (n:Int):AV:=.int .i64 n
abbrev B (b:Bool):AV:=.bool b
abbrev D (n:Nat):AV:=.float .f64 n
def eo:Int:=IntKind.i64.wrap n
def aJ(f:α->List AV):Option (List α)->AV
 |none=>.aU
 |some l=>.sl (l.map f)
def aH:List AV:=[I n]
structure Ph where
 on:Bool
 min:Int
 V7:Int
 max:Int
 top:Int
 step:Int
 dQ:Int
 red:Int
 walk:Int
 eP:Int
 mO:Int
 lock:Bool
 rest:Bool
 deriving Inhabited,DecidableEq
def Ph.cells(p:Ph):List AV:=[B p.on,I p.min,I p.V7,I p.max,I p.top,I p.step,I p.dQ,I p.red,I p.walk,I p.eP,I p.mO,B p.lock,B p.rest]
structure zh where
 phase:Int
 on:Nat
 off:Nat
 delay:Nat
 extend:Nat
 maxOn:Int
 uO:Int
 deriving Inhabited,DecidableEq
def zh.cells(d:zh):List AV:=[I d.phase,D d.on,D d.off,D d.delay,D d.extend,I d.maxOn,I d.uO]
structure Rl where
 bars:Int
 clear:Int
 iO:Int
 exit:Int
 delay:Int
 green:Int
 iy:Int
 hold:Int
 stay:Int
 most:Int
 limit:Int
 deriving Inhabited,DecidableEq
def Rl.cells(r:Rl):List AV:=[I r.bars,I r.clear,I r.iO,I r.exit,I r.delay,I r.green,I r.iy,I r.hold,I r.stay,I r.most,I r.limit]
structure Bs where
 set:Int
 lock:Int
 deriving Inhabited,DecidableEq
def Bs.cells(b:Bs):List AV:=[I b.set,I b.lock]
structure Gr where
 a:Option (List Int)
 b:Option (List Int)
 deriving Inhabited,DecidableEq
def Gr.cells(g:Gr):List AV:=[aJ aH g.a,aJ aH g.b]
structure Tb where
 phases:List Ph
 groups:Option (List Gr)
 conflict:List Int
 aR:Option (List zh)
 bQ:Option (List Rl)
 kR:Option (List Bs)
 extend:Int
 iz:Int
 start:Int
 revert:Int
 least:Int
 dz:List Int
 pR:Int
 share:Int
 deriving Inhabited,DecidableEq
def Tb.cells(t:Tb):List AV:=
 t.phases.flatMap Ph.cells++(aJ Gr.cells t.groups::(t.conflict.map I++(aJ zh.cells t.aR::aJ Rl.cells t.bQ::aJ Bs.cells t.kR::
  I t.extend::I t.iz::I t.start::I t.revert::I t.least::(t.dz.map I++[I t.pR,I t.share]))))
structure Tb.Ok (t:Tb):Prop where
 phases:t.phases.length=8
 conflict:t.conflict.length=8
 dz:t.dz.length=8
 groups:(t.groups.getD []).length<=1048576
 rows:∀g∈t.groups.getD [],(g.a.getD []).length<=1048576/\(g.b.getD []).length<=1048576
 ahg:(t.aR.getD []).length<=1048576
 bQ:(t.bQ.getD []).length<=1048576
 kR:(t.kR.getD []).length<=1048576
theorem aL{α:Type} {f:α->List AV} {z:Nat} (D:∀x,(f x).length=z):∀{l:List α},(l.flatMap f).length=l.length*z
 |[]=>by simp
 |x::l=>by simp[yr,D,aL D (l:=l),Nat.add_mul];omega
theorem Ph.len(p:Ph):p.cells.length=13:=rfl
theorem Tb.len{t:Tb} (h:t.Ok):t.cells.length=131:=by
 simp[Tb.cells,aL Ph.len,h.phases,h.conflict,h.dz]
theorem Iy{α:Type}:∀{l:List α} {i:Nat} {x:α},l[i]? =some x->l=l.take i++x::l.drop (i+1)
 |[],i,x,h=>by simp at h
 |y::l,0,x,h=>by
  simp at h;subst h;simp
 |y::l,i+1,x,h=>by
  have:=Iy (l:=l) (i:=i) (x:=x) (by simpa using h)
  simp only[tt,mf,sa]
  exact rh (y:: ·) this
theorem iP{f:α->List AV} (h:l[i]? =some x):l.flatMap f=(l.take i).flatMap f++(f x++(l.drop (i+1)).flatMap f):=by
 conv=>lhs;rw[Iy h]
 rw[Ps,yr]
theorem iQ(h:l[i]? =some x):(l.take i).length=i:=by
 have:=(em.1 h).1
 simp;omega
theorem eS{pre mid post:List AV} {z:Nat} (L:pre.length=off) (M:mid.length=z):aB (pre++(mid++post)) off (some z)=some (.agg mid):=by
 subst L M
 have D:pre.length+mid.length<=(pre++(mid++post)).length:=aaP
 simp only[aB,D,kv,gc,AV.agg.injEq];simp
theorem oT{pre mid post ps:List AV} (D:pre.length=off) (L:mid.length=ps.length):setCells (pre++(mid++post)) off ps=pre++(ps++post):=by
 subst D;simp only[setCells];rw[<-L];simp[ww]
theorem bp{cs ps:List AV} (h:cs.length=ps.length):setCells cs 0 ps=ps:=by
 simp only[setCells,t0,ml,kr,<-h,List.drop_length,tp]
theorem Tb.od{t:Tb} {p:Ph} (h:t.phases[i]? =some p):aB t.cells (i*13) (some 13)=some (.agg p.cells):=by
 unfold Tb.cells;rw[iP h,List.append_assoc,List.append_assoc]
 exact eS (by rw[aL Ph.len,iQ h]) rfl
theorem Tg{y:α} (h:l[i]? =some x):l.set i y=l.take i++y::l.drop (i+1):=by
 have D:=(em.1 h).1
 rw[yi,ib D]
theorem Tb.Qv{t:Tb} {p q:Ph} (h:t.phases[i]? =some p):setCells t.cells (i*13) q.cells={t with phases:=t.phases.set i q}.cells:=by
 unfold Tb.cells;simp only;rw[Tg h,Ps,yr]
 conv=>lhs;rw[iP h]
 rw[List.append_assoc,List.append_assoc,List.append_assoc,List.append_assoc]
 exact oT (by rw[aL Ph.len,iQ h]) rfl
end
end Go.Eng
namespace Go.Eng.Z
open Go
section
variable (x y d z:Nat)
def o(d:Nat) (x:bG):CO:=⟨some d,x,none⟩
def p(x:bG) (g:Nat):CO:=⟨some d,x,some (g,true)⟩
def q(x:bG) (g:Nat):CO:=⟨some d,x,some (g,false)⟩
def n(x:bG):CO:=⟨none,x,none⟩
def M(x:Nat):CO:=⟨some d,.mv (.t x),none⟩
def V(v:AV):CO:=⟨some d,.mv (.k v),none⟩
def m(x:Nat):bG:=.mv (.t x)
def v(x:AV):bG:=.mv (.k x)
def l(x:Nat):bG:=.ld (.t x) none
def L:bG:=.ld (.t x) (some z)
def f(x z:Nat):bG:=.fa (.t x) z
def s(x y z:Nat):bG:=.st (.t x) (.t y) z
def ss(y:AV) (z:Nat):bG:=.st (.t x) (.k y) z
def A(a b:Nat):bG:=.MB (.t x) (.t y) a b
def a:bG:=.V3 (.t x) (.t y) z
def P:bG:=.pick (.t x) (.t y) (.k (.bool false))
def Q:bG:=.pick (.t x) (.k (.bool true)) (.t y)
def h:bG:=.JO (.t x)
def w:bG:=.box (.t x)
def b(g:BinOp) (x y:Nat):bG:=.bin g (.t x) (.t y)
def bb(g:BinOp) (x:Nat) (y:AV):bG:=.bin g (.t x) (.k y)
def e(x y:Nat):bG:=.ext (.t x) y
def i(x:Int):AV:=.int .i64 x
def t(x:Nat):aM:=.t x
def k(x:AV):aM:=.k x
def r(x:List CO) (y:aO):aO:=.seq (.GD x) y
def R(x:List CO):aO:=.GD x
def j(x y:aO):aO:=.join x y
def c(x:Nat) (y z:aO):aO:=.cond (.t x) y z
def u(y:aO):aO:=.block x y
end
def y:aO:=.ret
def z:aO:=.skip
def T:AV:=.bool true
def F:AV:=.bool false
def H:=
 dC @o.eq_1 (dC @p.eq_1 (dC @q.eq_1 (dC @n.eq_1 (dC @M.eq_1 (dC @V.eq_1 (dC @m.eq_1 (dC @v.eq_1 (dC @l.eq_1 (dC @L.eq_1 (dC @f.eq_1 (dC @s.eq_1 (dC @ss.eq_1 (dC @A.eq_1 (dC @a.eq_1 (dC @P.eq_1 (dC @Q.eq_1 (dC @h.eq_1 (dC @w.eq_1 (dC @b.eq_1 (dC @bb.eq_1 (dC @e.eq_1 (dC @i.eq_1 (dC @t.eq_1 (dC @k.eq_1 (dC @r.eq_1 (dC @R.eq_1 (dC @j.eq_1 (dC @c.eq_1 (dC @u.eq_1 (dC @y.eq_1 (dC @z.eq_1 (dC @T.eq_1 @F.eq_1))))))))))))))))))))))))))))))))
end Go.Eng.Z
