/- Part 9 of the engine and its library. -/
import Derived.Test.YtjnbemnncjbmgaaGreatPk8
set_option linter.all false
set_option maxRecDepth 10000
set_option maxHeartbeats 4000000
namespace Go.Eng
open Go
section
variable (C:aT) (f:Nat) (as:List AV) (id:Nat) (lv:List (Nat×Nat)) {α:Type} (a:α) (k:SV->List (Nat×Nat)->Prop)
class Kn (α:Type) where
 run:α->Prop
class Kn2 where
 run:SV->List (Nat×Nat)->Prop
def wv{α:Type} (o:Option α) [k:Kn α]:Prop:=aj o k.run
theorem eS(o:Option α) (k:α->Prop):aj o k=@wv α o ⟨k⟩:=rfl
theorem ad9(k:α->Prop):@wv α (some a) ⟨k⟩=k a:=rfl
theorem aea(k:α->Prop):@wv α none ⟨k⟩=False:=rfl
theorem ais{o:Option α} {k:α->Prop} (h:o=some a) (hk:k a):@wv α o ⟨k⟩:=by subst h;exact hk
def Ek:Prop:=
 ∃r fr,C.c f as r fr/\k (.dat r (fr.map λ_=>id)) (match fr with|some e=>(id,e)::lv|none=>lv)
def cl(C:aT) (f:Nat) (as:List AV) (id:Nat) (lv:List (Nat×Nat)) [k:Kn2]:Prop:=Ek C f as id lv k.run
theorem nB:Ek C f as id lv k=@cl C f as id lv ⟨k⟩:=rfl
@[congr] theorem alZ{C:aT} {as D:List AV} (h:as=D):Ek C f as id lv k=Ek C f D id lv k:=by rw[h]
end
section
variable (C:aT) (f:Nat) (css:List (List AV)) (ro:List Nat) (as:List (Option AV)) (i:Nat) {id:Nat} {lv:List (Nat×Nat)} (d:Option Nat) (ids:List Nat) (o:CO)
theorem af{C:aT} {f:Nat} {as:List AV} {k:SV->List (Nat×Nat)->Prop} {r:AV} (h:C.c f as r none) (hk:k (.dat r none) lv):@cl C f as id lv ⟨k⟩:=⟨r,none,h,hk⟩
theorem VD{C:aT} {f:Nat} {as:List AV} {k:SV->List (Nat×Nat)->Prop} {r:AV} {e:Nat} (h:C.c f as r (some e)) (hk:k (.dat r (some id)) ((id,e)::lv)):@cl C f as id lv ⟨k⟩:=⟨r,some e,h,hk⟩
class Kn3 where
 run:SV->List (Nat×bV)->List (Nat×Nat)->Prop
def GB(id:Nat) (bx:List (Nat×bV)) (lv:List (Nat×Nat)) (k:SV->List (Nat×bV)->List (Nat×Nat)->Prop):Prop:=
 ∃r fr D,C.p f css as r fr D/\k (.dat r (fr.map λ_=>id)) (dR ids D bx) (match fr with|some e=>(id,e)::lv|none=>lv)
def clp(C:aT) (f:Nat) (css:List (List AV)) (as:List (Option AV)) (ids:List Nat) (id:Nat) (bx:List (Nat×bV)) (lv:List (Nat×Nat)) [k:Kn3]:Prop:=GB C f css as ids id bx lv k.run
theorem ait(id:Nat) (bx:List (Nat×bV)) (lv:List (Nat×Nat)) (k:SV->List (Nat×bV)->List (Nat×Nat)->Prop):GB C f css as ids id bx lv k=@clp C f css as ids id bx lv ⟨k⟩:=rfl
theorem bp{C:aT} {f:Nat} {css:List (List AV)} {as:List (Option AV)} {ids:List Nat} {bx:List (Nat×bV)} {k:SV->List (Nat×bV)->List (Nat×Nat)->Prop} {r:AV} {D:List (List AV)} (h:C.p f css as r none D) (hk:k (.dat r none) (dR ids D bx) lv):@clp C f css as ids id bx lv ⟨k⟩:=⟨r,none,D,h,hk⟩
class Kn4 where
 run:SV->Prop
def KQ(k:SV->Prop):Prop:=∃r,C.p f css as r none css/\k (.dat r none)
def clr(C:aT) (f:Nat) (css:List (List AV)) (as:List (Option AV)) [k:Kn4]:Prop:=KQ C f css as k.run
theorem aiu(k:SV->Prop):KQ C f css as k=@clr C f css as ⟨k⟩:=rfl
theorem dH{C:aT} {f:Nat} {css:List (List AV)} {as:List (Option AV)} {k:SV->Prop} {r:AV} (h:C.p f css as r none css) (hk:k (.dat r none)):@clr C f css as ⟨k⟩:=⟨r,h,hk⟩
def Ra(x:Option bV) (y:Option (List (List AV))):Option (List (List AV)):=
 match x,y with
 |some ⟨cs,[]⟩,some css=>some (cs::css)
 |_,_=>none
theorem aeb:lY ro i []=[]:=rfl
theorem aiv(r:List CO):lY ro i (o::r)=(bif ro.contains i then o.ro else o)::lY ro (i+1) r:=rfl
theorem amv(o:bU) (g:Option (Nat×Bool)):CO.ro ⟨d,o,g⟩=⟨d,o.ro,g⟩:=rfl
theorem aiw(as:List aR):bU.ro (.ew f as)=.DX f as:=rfl
def CO.pq:CO:=match o.op with
 | .ew f args=>⟨o.dst,.vX f args,o.g⟩
 |_=>o
theorem amw(f:Nat) (as:List aR) (g:Option (Nat×Bool)):CO.pq ⟨d,.ew f as,g⟩=⟨d,.vX f as,g⟩:=rfl
theorem ZV(k:Nat) (D:List Nat) (i:Nat):qB k D i []=[]:=rfl
theorem aec(k:Nat) (D:List Nat) (i:Nat) (o:CO) (r:List CO):qB k D i (o::r)=(bif i==k then o.pq else bif D.contains i then⟨none,.mv (.k .tQ),none⟩else o)::qB k D (i+1) r:=by
 simp only[qB,CZ,CO.pq,cond_eq_ite,l4];rfl
def ZW:List CO->List Nat
 |[]=>[]
 |⟨some d,_,_⟩::r=>d::ZW r
 |⟨none,_,_⟩::r=>ZW r
theorem aed:ZW []=[]:=rfl
theorem aee(d:Nat) (o:bU) (g:Option (Nat×Bool)) (r:List CO):ZW (⟨some d,o,g⟩::r)=d::ZW r:=rfl
theorem aef(o:bU) (g:Option (Nat×Bool)) (r:List CO):ZW (⟨none,o,g⟩::r)=ZW r:=rfl
theorem PB:∀{l:List CO},(l.flatMap λo=>o.dst.toList)=ZW l
 |[]=>rfl
 |⟨some d,_,_⟩::r=>by rw[Hm,PB];rfl
 |⟨none,_,_⟩::r=>by rw[Hm,PB];rfl
def pD:Nat->List CO->Option Nat
 |0,o::_=>o.dst
 |k+1,_::r=>pD k r
 |_,[]=>none
theorem ac1:∀{k:Nat} {l:List CO},(l[k]?).bind CO.dst=pD k l
 |0,[]=>rfl
 |_+1,[]=>rfl
 |0,o::_=>rfl
 |k+1,_::r=>by rw[kp];exact ac1
class Kn5 where
 run:AV->List (List AV)->Prop
def KR(k:AV->List (List AV)->Prop):Prop:=∃v D,C.q f css as v D/\k v D
def clq(C:aT) (f:Nat) (css:List (List AV)) (as:List (Option AV)) [k:Kn5]:Prop:=KR C f css as k.run
theorem aix(k:AV->List (List AV)->Prop):KR C f css as k=@clq C f css as ⟨k⟩:=rfl
theorem aiy(g:aR) (as:List aR):bU.ro (.gK g as)=.tR g as:=rfl
end
section
variable{C:aT} {Q:Exit->S->Prop} {K:SV->S->Prop} {J:S->Prop}
variable(sl:List (Nat×SV)) (bx:List (Nat×bV)) (lv:List (Nat×Nat)) (nx:Nat)
section
variable (id:Nat) (k:SV->Prop) (b f n:Nat) (ops:List CO) (yes:Prop) (h:Bool) (cs:List AV) (a:AV) (x:aR) (as:List (Option AV)) (d:Option Nat) (dG:List (Nat×Nat)) (o:Nat) (ds:List Nat) (g:aR) (no:Prop) (X:AV->S->Prop) (css:List (List AV)) (s:S) (i:aR) (ids:List Nat) (mx:Bool) (ps:List (Nat×Nat)) (q:Option Nat) (F:List CO->S->Prop) (args:List aR) (c:aR) (fn:Fn) (m:Nat) (neg:Bool) (off:Nat) (p:List (Option AV)×List Nat) (ro:List Nat) (t:Nat) (w:Bool) (xs:List (List AV)) (z:Nat)
theorem M0(v:SV) (r:List (Nat×SV)):lk n ((m,v)::r)=bif n==m then some v else lk n r:=rfl
theorem El(v:bV) (r:List (Nat×bV)):cj n ((m,v)::r)=bif n==m then some v else cj n r:=rfl
theorem Bl(v:Nat) (r:List (Nat×Nat)):d9 n ((m,v)::r)=bif n==m then some v else d9 n r:=rfl
theorem wM:d9 n []=none:=rfl
theorem aeg(b v:bV) (r:List (Nat×bV)):o7 n b ((m,v)::r)=bif n==m then(m,b)::r else(m,v)::o7 n b r:=rfl
theorem aeh(v:Nat) (r:List (Nat×Nat)):jT n ((m,v)::r)=bif n==m then jT n r else(m,v)::jT n r:=rfl
theorem ZX:jT n []=[]:=rfl
theorem aiz(d:Nat) (v:SV):S.put ⟨sl,bx,lv,nx⟩ (some d) v=⟨(d,v)::sl,bx,lv,nx⟩:=rfl
theorem aei(v:SV):S.put ⟨sl,bx,lv,nx⟩ none v=⟨sl,bx,lv,nx⟩:=rfl
theorem aej:bX ⟨sl,bx,lv,nx⟩ (.t n)=lk n sl:=rfl
theorem aek(v:AV):bX ⟨sl,bx,lv,nx⟩ (.k v)=some (.dat v none):=rfl
def Tp:Option SV->Option AV
 |some (.dat a _)=>some a
 |some (.rp cs)=>some (.ref cs)
 |_=>none
theorem ZY:Tp (some (.rp cs))=some (.ref cs):=rfl
theorem ael:Tp (some (.dat a q))=some a:=rfl
theorem ZZ:aL ⟨sl,bx,lv,nx⟩ (.t n)=Tp (lk n sl):=rfl
theorem Z0(v:AV):aL ⟨sl,bx,lv,nx⟩ (.k v)=some v:=rfl
def ac2:Option AV->Option (List AV)->Option (List AV)
 |some a,some as=>some (a::as)
 |_,_=>none
theorem Z1(as:List AV):ac2 (some a) (some as)=some (a::as):=rfl
theorem Z2(r:List aR):ei ⟨sl,bx,lv,nx⟩ (x::r)=ac2 (aL ⟨sl,bx,lv,nx⟩ x) (ei ⟨sl,bx,lv,nx⟩ r):=rfl
theorem VE:ei ⟨sl,bx,lv,nx⟩ []=some []:=rfl
theorem Z3(i:Nat):jM C b i [] J ⟨sl,bx,lv,nx⟩=J ⟨sl,bx,lv,nx⟩:=rfl
theorem aem(i:Nat) (d:Option Nat) (o:bU) (r:List CO):jM C b i (⟨d,o,none⟩::r) J ⟨sl,bx,lv,nx⟩=bF C (b+i) o (λv D=>jM C b (i+1) r J (D.put d v)) ⟨sl,bx,lv,nx⟩:=rfl
def nY(want:Bool) (yes no:Prop):Option SV->Prop
 |some (.dat (.bool b) _)=>(b=want->yes)/\(b=!want->no)
 |some .undef=>no
 |_=>False
theorem Z4(i t:Nat) (w:Bool) (d:Option Nat) (o:bU) (r:List CO):jM C b i (⟨d,o,some (t,w)⟩::r) J ⟨sl,bx,lv,nx⟩=
  nY w (bF C (b+i) o (λv D=>jM C b (i+1) r J (D.put d v)) ⟨sl,bx,lv,nx⟩) (jM C b (i+1) r J (S.put ⟨sl,bx,lv,nx⟩ d .undef)) (lk t sl):=by
 simp only[jM,gq,nY]
 cases lk t sl with
 |none=>rfl
 |some v=>cases v with
  |dat a q=>cases a<;>rfl
  |ptr=>rfl
  |rp=>rfl
  |undef=>rfl
  |vs=>rfl
  |nX=>rfl
  |raw=>rfl
  |pt=>rfl
class KP where
 yes:Prop
 no:Prop
def gd(w:Bool) (v:Option SV) [k:KP]:Prop:=nY w k.yes k.no v
theorem rK(yes no:Prop) (v:Option SV):nY w yes no v=@gd w v ⟨yes,no⟩:=rfl
theorem VF(yes no:Prop):@gd w (some .undef) ⟨yes,no⟩=no:=rfl
theorem VG:@gd true (some (.dat (.bool true) q)) ⟨yes,no⟩=yes:=by simp[gd,nY]
theorem Tq:@gd true (some (.dat (.bool false) q)) ⟨yes,no⟩=no:=by simp[gd,nY]
theorem VH:@gd false (some (.dat (.bool false) q)) ⟨yes,no⟩=yes:=by simp[gd,nY]
theorem Tt:@gd false (some (.dat (.bool true) q)) ⟨yes,no⟩=no:=by simp[gd,nY]
theorem amx:bF C id (.mv x) K ⟨sl,bx,lv,nx⟩=aj (bX ⟨sl,bx,lv,nx⟩ x) λv=>K v ⟨sl,bx,lv,nx⟩:=rfl
def GC(a b:Option SV) (k:SV->Prop):AV->Prop
 | .bool t=>aj a λu=>aj b λv=>(t=true->k u)/\(t=false->k v)
 |_=>False
theorem aen(a b:aR):bF C id (.pick c a b) K ⟨sl,bx,lv,nx⟩=aj (aL ⟨sl,bx,lv,nx⟩ c) (GC (bX ⟨sl,bx,lv,nx⟩ a) (bX ⟨sl,bx,lv,nx⟩ b) λv=>K v ⟨sl,bx,lv,nx⟩):=rfl
def pk(a b:Option SV) (c:AV) [k:Kn SV]:Prop:=GC a b k.run c
theorem Bm(a b:Option SV) (k:SV->Prop) (c:AV):GC a b k c=@pk a b c ⟨k⟩:=rfl
theorem Z5(b:Option SV) (v:SV):@pk (some v) b (.bool true) ⟨k⟩=aj b λ_=>k v:=by simp[pk,GC]
theorem Z6(a:Option SV) (v:SV):@pk a (some v) (.bool false) ⟨k⟩=aj a λ_=>k v:=by
 cases a<;>simp[pk,GC]
theorem Z7:bF C id (.alloc cs) K ⟨sl,bx,lv,nx⟩=K (.ptr id 0) ⟨sl,(id,⟨cs,[]⟩)::bx,lv,nx⟩:=rfl
theorem aiA:bF C id (.box x) K ⟨sl,bx,lv,nx⟩=aj (aL ⟨sl,bx,lv,nx⟩ x) λa=>iI a none=true/\K (.ptr id 0) ⟨sl,(id,⟨a.cells,[]⟩)::bx,lv,nx⟩:=rfl
def ldP(D:Option Nat) (bx:List (Nat×bV)) (k:SV->Prop):SV->Prop
 | .ptr b off=>aj (cj b bx) λx=>aj (aB x.cells off D) λa=>k (.dat a (match D with|none=>d9 off x.tags|some _=>none))
 | .rp cs=>aj (aB cs 0 D) λa=>k (.dat a none)
 |_=>False
theorem amy(D:Option Nat):bF C id (.ld x D) K ⟨sl,bx,lv,nx⟩=aj (bX ⟨sl,bx,lv,nx⟩ x) (ldP D bx λv=>K v ⟨sl,bx,lv,nx⟩):=rfl
theorem aeo:ldP none bx k (.ptr b off)=aj (cj b bx) λx=>aj (aB x.cells off none) λa=>k (.dat a (d9 off x.tags)):=rfl
theorem aep(n:Nat):ldP (some n) bx k (.ptr b off)=aj (cj b bx) λx=>aj (aB x.cells off (some n)) λa=>k (.dat a none):=rfl
theorem aiB(D:Option Nat) (cs:List AV):ldP D bx k (.rp cs)=aj (aB cs 0 D) λa=>k (.dat a none):=rfl
def uh(D:Nat) (q:Option Nat) (tags:List (Nat×Nat)):List (Nat×Nat):=
 match q with
 |some q=>(off,q)::tags.filter (λp=>p.1<off||off+D<=p.1)
 |none=>tags.filter (λp=>p.1<off||off+D<=p.1)
def stV(D off:Nat) (x:bV) (k:bV->Prop):SV->Prop
 | .dat a q=>iI a q=true/\a.cells.length=D/\off+D<=x.cells.length/\k ⟨setCells x.cells off a.cells,uh off D q x.tags⟩
 |_=>False
def stP(D:Nat) (bx:List (Nat×bV)) (v:Option SV) (k:List (Nat×bV)->Prop):SV->Prop
 | .ptr b off=>aj (cj b bx) λx=>aj v (stV D off x λy=>k (o7 b y bx))
 |_=>False
theorem amz(v:aR) (D:Nat):bF C id (.st x v D) K ⟨sl,bx,lv,nx⟩=aj (bX ⟨sl,bx,lv,nx⟩ x) (stP D bx (bX ⟨sl,bx,lv,nx⟩ v) λb=>K .undef ⟨sl,b,lv,nx⟩):=by
 show aj _ _=aj _ _
 cases L:bX ⟨sl,bx,lv,nx⟩ x with
 |none=>rfl
 |some p=>cases p with
  |ptr b off=>
   show aj _ _=aj _ _
   cases M:cj b bx with
   |none=>rfl
   |some y=>
    show aj _ _=aj _ _
    cases O:bX ⟨sl,bx,lv,nx⟩ v with
    |none=>rfl
    |some u=>cases u with
     |dat a q=>cases q<;>rfl
     |_=>rfl
  |_=>rfl
theorem aiD(D b off:Nat) (v:Option SV) (k:List (Nat×bV)->Prop):stP D bx v k (.ptr b off)=aj (cj b bx) λx=>aj v (stV D off x λy=>k (o7 b y bx)):=rfl
theorem aiE(D off:Nat) (cs:List AV) (L:List (Nat×Nat)) (k:bV->Prop) (a:AV) (q:Option Nat):stV D off ⟨cs,L⟩ k (.dat a q)=(iI a q=true/\a.cells.length=D/\off+D<=cs.length/\k ⟨setCells cs off a.cells,uh off D q L⟩):=rfl
theorem Z8(D:Nat):uh off D none []=[]:=rfl
theorem Z9(D q:Nat):uh off D (some q) []=[(off,q)]:=rfl
def faP(k:SV->Prop):SV->Prop
 | .ptr b o=>k (.ptr b (o+off))
 | .rp cs=>k (.rp (cs.drop off))
 | .pt 2 ps=>k (.pt 2 (ps.drop off))
 |_=>False
theorem amA:bF C id (.fa x off) K ⟨sl,bx,lv,nx⟩=aj (bX ⟨sl,bx,lv,nx⟩ x) (faP off λv=>K v ⟨sl,bx,lv,nx⟩):=rfl
theorem aiF:faP off k (.ptr b o)=k (.ptr b (o+off)):=rfl
theorem aiG:faP off k (.rp cs)=k (.rp (cs.drop off)):=rfl
def iaP(d:Nat) (k:SV->Prop):SV->Prop
 | .ptr b o=>k (.ptr b (o+d))
 | .rp cs=>k (.rp (cs.drop d))
 |_=>False
theorem aiI(n z:Nat):bF C id (.Pd x i n z) K ⟨sl,bx,lv,nx⟩=aj (bX ⟨sl,bx,lv,nx⟩ x) λp=>aj (aL ⟨sl,bx,lv,nx⟩ i) λa=>aj (idxOf a) λi=>(0<=i/\i<n)/\iaP (i.toNat*z) (λv=>K v ⟨sl,bx,lv,nx⟩) p:=rfl
theorem aiJ(d:Nat):iaP d k (.ptr b o)=k (.ptr b (o+d)):=rfl
theorem aiK(d:Nat):iaP d k (.rp cs)=k (.rp (cs.drop d)):=rfl
theorem aiL(k:IntKind) (i:Int):idxOf (.int k i)=some i:=rfl
def VI(D:Option AV) (z:Nat) (k:SV->Prop):SV->Prop
 | .dat l _=>aj D λa=>aj (idxOf a) λi=>aj (rowsOf l) λxs=>(0<=i/\i<xs.length)/\aj (xs[i.toNat]?) λrow=>row.length=z/\k (.rp row)
 | .vs b off n L=>aj D λa=>aj (idxOf a) λi=>(0<=i/\i<n)/\L=z/\k (.ptr b (off+i.toNat*z))
 |_=>False
theorem aiM:bF C id (.Za x i z) K ⟨sl,bx,lv,nx⟩=aj (bX ⟨sl,bx,lv,nx⟩ x) (VI (aL ⟨sl,bx,lv,nx⟩ i) z λv=>K v ⟨sl,bx,lv,nx⟩):=by
 show aj _ _=aj _ _
 cases bX ⟨sl,bx,lv,nx⟩ x with
 |none=>rfl
 |some v=>cases v<;>rfl
theorem aeq(D:Option AV) (z:Nat) (k:SV->Prop) (l:AV) (q:Option Nat):VI D z k (.dat l q)=aj D λa=>aj (idxOf a) λi=>aj (rowsOf l) λxs=>(0<=i/\i<xs.length)/\aj (xs[i.toNat]?) λrow=>row.length=z/\k (.rp row):=rfl
theorem aer(L:Option AV) (z:Nat) (k:SV->Prop) (b off n D:Nat):VI L z k (.vs b off n D)=aj L λa=>aj (idxOf a) λi=>(0<=i/\i<n)/\D=z/\k (.ptr b (off+i.toNat*z)):=rfl
@[congr] theorem amB{L D:Option AV} (k:SV->Prop) {v M:SV} (h:L=D) (O:v=M):VI L z k v=VI D z k M:=by rw[h,O]
theorem aes:rowsOf (.sl xs)=some xs:=rfl
theorem aaa:rowsOf .aZ=some []:=rfl
def PC(k:List AV->Prop):AV->Prop
 | .agg cs=>k cs
 |_=>False
theorem aiN(k:List AV->Prop) (cs:List AV):PC k (.agg cs)=k cs:=rfl
theorem aiO(D:Option Nat):bF C id (.Jg x off D) K ⟨sl,bx,lv,nx⟩=aj (aL ⟨sl,bx,lv,nx⟩ x) (PC λcs=>aj (aB cs off D) λa=>K (.dat a none) ⟨sl,bx,lv,nx⟩):=rfl
theorem aiP(n z:Nat) (D:Option Nat):bF C id (.FT x i n z D) K ⟨sl,bx,lv,nx⟩=aj (aL ⟨sl,bx,lv,nx⟩ x) (PC λcs=>aj (aL ⟨sl,bx,lv,nx⟩ i) λa=>aj (idxOf a) λi=>(0<=i/\i<n)/\aj (aB cs (i.toNat*z) D) λa=>K (.dat a none) ⟨sl,bx,lv,nx⟩):=rfl
theorem aiQ(op:BinOp) (x y:aR):bF C id (.bin op x y) K ⟨sl,bx,lv,nx⟩=aj (aL ⟨sl,bx,lv,nx⟩ x) λa=>aj (aL ⟨sl,bx,lv,nx⟩ y) λb=>aj (eK op a b) λv=>K (.dat v none) ⟨sl,bx,lv,nx⟩:=rfl
theorem aiR(D:List CK) (neg:Bool) (x y:aR):bF C id (.eqc D neg x y) K ⟨sl,bx,lv,nx⟩=aj (aL ⟨sl,bx,lv,nx⟩ x) (PC λas=>aj (aL ⟨sl,bx,lv,nx⟩ y) (PC λL=>aj (cV D as L) λe=>K (.dat (.bool (e !=neg)) none) ⟨sl,bx,lv,nx⟩)):=rfl
theorem amC(x y:aR):bF C id (.bb neg x y) K ⟨sl,bx,lv,nx⟩=aj (aL ⟨sl,bx,lv,nx⟩ x) λa=>aj (aL ⟨sl,bx,lv,nx⟩ y) λb=>aj (bbA neg a b) λv=>K (.dat v none) ⟨sl,bx,lv,nx⟩:=rfl
theorem amD(op:UnOp) (x:aR):bF C id (.un op x) K ⟨sl,bx,lv,nx⟩=aj (aL ⟨sl,bx,lv,nx⟩ x) λa=>aj (unA op a) λv=>K (.dat v none) ⟨sl,bx,lv,nx⟩:=rfl
theorem aet(k:IntKind) (x:aR):bF C id (.vQ k x) K ⟨sl,bx,lv,nx⟩=aj (aL ⟨sl,bx,lv,nx⟩ x) λa=>aj (FY k a) λv=>K (.dat v none) ⟨sl,bx,lv,nx⟩:=rfl
theorem aeu(k:FloatKind) (x:aR):bF C id (.I1 k x) K ⟨sl,bx,lv,nx⟩=aj (aL ⟨sl,bx,lv,nx⟩ x) λa=>aj (FZ k a) λv=>K (.dat v none) ⟨sl,bx,lv,nx⟩:=rfl
theorem aev(k:IntKind) (x:aR):bF C id (.Mp k x) K ⟨sl,bx,lv,nx⟩=aj (aL ⟨sl,bx,lv,nx⟩ x) λa=>aj (AY k a) λv=>K (.dat v none) ⟨sl,bx,lv,nx⟩:=rfl
def Tu:SV->Prop
 | .dat a _=>aj (zN a) λv=>k (.dat v none)
 | .vs _ _ n _=>k (.dat (.int .i64 n) none)
 |_=>False
theorem aew:bF C id (.Mq x) K ⟨sl,bx,lv,nx⟩=aj (bX ⟨sl,bx,lv,nx⟩ x) (Tu λv=>K v ⟨sl,bx,lv,nx⟩):=by
 show aj _ _=aj _ _
 cases bX ⟨sl,bx,lv,nx⟩ x with
 |none=>rfl
 |some v=>cases v<;>rfl
theorem Rb:Tu k (.dat a q)=aj (zN a) λv=>k (.dat v none):=rfl
theorem aab(n z:Nat):Tu k (.vs b o n z)=k (.dat (.int .i64 n) none):=rfl
@[congr] theorem amE{v D:SV} (L:v=D):Tu k v=Tu k D:=by rw[L]
theorem amF(e:Xt) (x:aR):bF C id (.xt e x) K ⟨sl,bx,lv,nx⟩=aj (aL ⟨sl,bx,lv,nx⟩ x) λa=>aj (xtA e a) λv=>K (.dat v none) ⟨sl,bx,lv,nx⟩:=rfl
theorem amG:xtA .Mo (.float .f64 b)=some (.int .u64 b):=rfl
theorem amH(n:Int):xtA .ffrom (.int .u64 n)=some (.float .f64 n.toNat):=rfl
theorem amI:xtA .rte (.float .f64 b)=Ks b:=rfl
def aex(s:S) (k:SV->S->Prop):SV->Prop
 | .rp cs=>n*z<=cs.length/\k (.dat (.sl (dI z n cs)) none) s
 | .ptr b off=>4<=b/\aj (cj b s.boxes) λbx=>n*z<=(bx.cells.drop off).length/\k (.dat (.sl (dI z n (bx.cells.drop off))) none) (iC [b] [bx.cells] s)
 |_=>False
theorem aiS(n z:Nat):bF C id (.Zl x n z) K ⟨sl,bx,lv,nx⟩=aj (bX ⟨sl,bx,lv,nx⟩ x) (aex n z ⟨sl,bx,lv,nx⟩ K):=by
 show aj _ _=aj _ _
 cases bX ⟨sl,bx,lv,nx⟩ x with
 |none=>rfl
 |some v=>cases v<;>rfl
theorem aey(s:S) (k:SV->S->Prop) (cs:List AV):aex n z s k (.rp cs)=(n*z<=cs.length/\k (.dat (.sl (dI z n cs)) none) s):=rfl
theorem aez(k:SV->S->Prop) (b off:Nat):aex n z ⟨sl,bx,lv,nx⟩ k (.ptr b off)=(4<=b/\aj (cj b bx) λy=>n*z<=(y.cells.drop off).length/\k (.dat (.sl (dI z n (y.cells.drop off))) none) (iC [b] [y.cells] ⟨sl,bx,lv,nx⟩)):=rfl
def aiT(k:AV->Prop):AV->Prop
 | .str b=>aj (aL s i) λa=>aj (idxOf a) λj=>aj (Ms b j) k
 |_=>False
theorem aiU:bF C id (.ixB x i) K ⟨sl,bx,lv,nx⟩=aj (aL ⟨sl,bx,lv,nx⟩ x) (aiT ⟨sl,bx,lv,nx⟩ i λv=>K (.dat v none) ⟨sl,bx,lv,nx⟩):=by
 show aj _ _=aj _ _
 cases aL ⟨sl,bx,lv,nx⟩ x with
 |none=>rfl
 |some v=>cases v<;>rfl
theorem aeA(k:AV->Prop) (b:ByteArray):aiT s i k (.str b)=aj (aL s i) λa=>aj (idxOf a) λj=>aj (Ms b j) k:=rfl
theorem aeB:bF C id (.Mr n) K ⟨sl,bx,lv,nx⟩=K (.dat (.int .i64 n) none) ⟨sl,bx,lv,nx⟩:=rfl
theorem aeC:bF C id (.call f args) K ⟨sl,bx,lv,nx⟩=aj (ei ⟨sl,bx,lv,nx⟩ args) λas=>Ek C f as id lv λv l=>K v ⟨sl,bx,l,nx⟩:=rfl
def KS(C:aT) (id:Nat) (lv:List (Nat×Nat)) (as:List AV) (k:SV->List (Nat×Nat)->Prop):AV->Prop
 | .fn (.func f) first caps=>Ek C f (first++as++caps) id lv k
 |_=>False
@[congr] theorem aiV(lv:List (Nat×Nat)) (as:List AV) (k:SV->List (Nat×Nat)->Prop) {v D:AV} (h:v=D):KS C id lv as k v=KS C id lv as k D:=by rw[h]
def JA:Option SV->Option (List (Option AV)×List Nat)->Option (List (Option AV)×List Nat)
 |some (.dat a _),some p=>some (some a::p.1,p.2)
 |some (.rp cs),some p=>some (some (.ref cs)::p.1,p.2)
 |some (.ptr b 0),some p=>some (none::p.1,b::p.2)
 |some (.pt 0 [(b,0)]),some p=>bif h then some (some .hole::p.1,b::p.2)else none
 |_,_=>none
theorem VJ:JA h (some (.dat a q)) (some p)=some (some a::p.1,p.2):=rfl
theorem VK:JA h (some (.rp cs)) (some p)=some (some (.ref cs)::p.1,p.2):=rfl
theorem VL(b:Nat) (p:List (Option AV)×List Nat):JA h (some (.ptr b 0)) (some p)=some (none::p.1,b::p.2):=rfl
theorem aeD:ej h ⟨sl,bx,lv,nx⟩ []=some ([],[]):=rfl
theorem aiW(r:List aR):ej h ⟨sl,bx,lv,nx⟩ (x::r)=JA h (bX ⟨sl,bx,lv,nx⟩ x) (ej h ⟨sl,bx,lv,nx⟩ r):=by
 rw[ej];unfold JA
 cases bX ⟨sl,bx,lv,nx⟩ x with
 |none=>rfl
 |some v=>
  cases ej h ⟨sl,bx,lv,nx⟩ r with
  |none=>cases v with
   |ptr b o=>cases o<;>rfl
   |pt k ps=>match k,ps with
    |0,[(b,0)]=>rfl
    |0,[(b,o+1)]=>rfl
    |0,[]=>rfl
    |0,(_,0)::_::_=>rfl
    |0,(_,o+1)::_::_=>rfl
    |k+1,_=>rfl
   |_=>rfl
  |some p=>
   obtain⟨as,D⟩:=p
   cases v with
   |ptr b o=>cases o<;>rfl
   |pt k ps=>match k,ps with
    |0,[(b,0)]=>rfl
    |0,[(b,o+1)]=>rfl
    |0,[]=>rfl
    |0,(_,0)::_::_=>rfl
    |0,(_,o+1)::_::_=>rfl
    |k+1,_=>rfl
   |_=>rfl
theorem VM:aW bx []=some []:=rfl
def ac3:Option bV->Option (List (List AV))->Option (List (List AV))
 |some x,some css=>some (x.cells::css)
 |_,_=>none
theorem aac(x:bV) (css:List (List AV)):ac3 (some x) (some css)=some (x.cells::css):=rfl
theorem aad(D:List Nat):aW bx (b::D)=ac3 (cj b bx) (aW bx D):=rfl
theorem VN:dS []=true:=rfl
theorem aae(D:List Nat):dS (b::D)=(!D.contains b&&dS D):=rfl
theorem aaf(D:List Nat) (cs:List AV) (css:List (List AV)):dR (b::D) (cs::css) bx=dR D css (o7 b ⟨cs,[]⟩ bx):=rfl
theorem Tv:fj bx []=some []:=rfl
theorem VO(D:List Nat):fj bx (b::D)=Ra (cj b bx) (fj bx D):=rfl
theorem Tw:Ra (some ⟨cs,[]⟩) (some css)=some (cs::css):=rfl
theorem VP:dR [] css bx=bx:=rfl
def KT(C:aT) (f id:Nat) (bx:List (Nat×bV)) (lv:List (Nat×Nat)) (k:SV->List (Nat×bV)->List (Nat×Nat)->Prop) (p:List (Option AV)×List Nat):Prop:=
 dS p.2=true/\aj (aW bx p.2) λcss=>GB C f css p.1 p.2 id bx lv k
theorem VQ(id:Nat) (as:List (Option AV)) (ids:List Nat) (k:SV->List (Nat×bV)->List (Nat×Nat)->Prop):KT C f id bx lv k (as,ids)=(dS ids=true/\aj (aW bx ids) λcss=>GB C f css as ids id bx lv k):=rfl
def VR(C:aT) (f:Nat) (bx:List (Nat×bV)) (k:SV->List (Nat×bV)->Prop) (p:List (Option AV)×List Nat):Prop:=
 dS p.2=true/\aj (aW bx p.2) λcss=>KR C f css p.1 λv D=>k (.dat v none) (dR p.2 D bx)
theorem VS(k:SV->List (Nat×bV)->Prop):VR C f bx k (as,ids)=(dS ids=true/\aj (aW bx ids) λcss=>KR C f css as λv D=>k (.dat v none) (dR ids D bx)):=rfl
theorem aag:bF C id (.vX f args) K ⟨sl,bx,lv,nx⟩=aj (ej true ⟨sl,bx,lv,nx⟩ args) (VR C f bx λv b=>K v ⟨sl,b,lv,nx⟩):=rfl
theorem aah:bF C id (.ew f args) K ⟨sl,bx,lv,nx⟩=aj (ej true ⟨sl,bx,lv,nx⟩ args) (KT C f id bx lv λv b l=>K v ⟨sl,b,l,nx⟩):=rfl
theorem aai:bF C id (.gy g args) K ⟨sl,bx,lv,nx⟩=aj (aL ⟨sl,bx,lv,nx⟩ g) λa=>aj (ei ⟨sl,bx,lv,nx⟩ args) λas=>KS C id lv as (λv l=>K v ⟨sl,bx,l,nx⟩) a:=by
 show aj _ _=aj _ _
 cases D:aL ⟨sl,bx,lv,nx⟩ g with
 |none=>rfl
 |some a=>
  show(match a with| .fn (.func f) first caps=>_|_=>False)=_
  cases L:ei ⟨sl,bx,lv,nx⟩ args with
  |none=>cases a<;>first|rfl|(rename_i f _ _;cases f<;>rfl)
  |some as=>cases a<;>first|rfl|(rename_i f _ _;cases f<;>rfl)
theorem VT(as first caps:List AV) (k:SV->List (Nat×Nat)->Prop):KS C id lv as k (.fn (.func f) first caps)=Ek C f (first++as++caps) id lv k:=rfl
def Fp(C:aT) (id:Nat) (bx:List (Nat×bV)) (lv:List (Nat×Nat)) (p:List (Option AV)×List Nat) (k:SV->List (Nat×bV)->List (Nat×Nat)->Prop):AV->Prop
 | .fn (.func f) [] []=>KT C f id bx lv k p
 |_=>False
@[congr] theorem ahR(bx:List (Nat×bV)) (lv:List (Nat×Nat)) {p L:List (Option AV)×List Nat} (k:SV->List (Nat×bV)->List (Nat×Nat)->Prop) {v D:AV} (M:p=L) (h:v=D):Fp C id bx lv p k v=Fp C id bx lv L k D:=by rw[h,M]
theorem VU:bF C id (.gK g args) K ⟨sl,bx,lv,nx⟩=aj (aL ⟨sl,bx,lv,nx⟩ g) λa=>aj (ej true ⟨sl,bx,lv,nx⟩ args) λp=>Fp C id bx lv p (λv b l=>K v ⟨sl,b,l,nx⟩) a:=by
 show aj _ _=aj _ _
 cases D:aL ⟨sl,bx,lv,nx⟩ g with
 |none=>rfl
 |some a=>
  show(match a with| .fn (.func f) [] []=>_|_=>False)=_
  cases L:ej true ⟨sl,bx,lv,nx⟩ args with
  |none=>cases a<;>first|rfl|(rename_i f x y;cases f<;>first|rfl|(cases x<;>first|rfl|(cases y<;>rfl)))
  |some as=>cases a<;>first|rfl|(rename_i f x y;cases f<;>first|rfl|(cases x<;>first|rfl|(cases y<;>rfl)))
def KU(C:aT) (f:Nat) (bx:List (Nat×bV)) (k:SV->Prop) (p:List (Option AV)×List Nat):Prop:=
 dS p.2=true/\aj (fj bx p.2) λcss=>KQ C f css p.1 k
theorem aaj:bF C id (.DX f args) K ⟨sl,bx,lv,nx⟩=aj (ej true ⟨sl,bx,lv,nx⟩ args) (KU C f bx λv=>K v ⟨sl,bx,lv,nx⟩):=rfl
theorem VV(k:SV->Prop):KU C f bx k (as,ids)=(dS ids=true/\aj (fj bx ids) λcss=>KQ C f css as k):=rfl
def Fq(C:aT) (bx:List (Nat×bV)) (p:List (Option AV)×List Nat) (k:SV->Prop):AV->Prop
 | .fn (.func f) [] []=>KU C f bx k p
 |_=>False
@[congr] theorem ahS (bx:List (Nat×bV)) {p L:List (Option AV)×List Nat} (k:SV->Prop) {v D:AV} (M:p=L) (h:v=D):Fq C bx p k v=Fq C bx L k D:=by rw[h,M]
theorem VW:bF C id (.tR g args) K ⟨sl,bx,lv,nx⟩=aj (aL ⟨sl,bx,lv,nx⟩ g) λa=>aj (ej true ⟨sl,bx,lv,nx⟩ args) λp=>Fq C bx p (λv=>K v ⟨sl,bx,lv,nx⟩) a:=by
 show aj _ _=aj _ _
 cases D:aL ⟨sl,bx,lv,nx⟩ g with
 |none=>rfl
 |some a=>
  show(match a with| .fn (.func f) [] []=>_|_=>False)=_
  cases L:ej true ⟨sl,bx,lv,nx⟩ args with
  |none=>cases a<;>first|rfl|(rename_i f x y;cases f<;>first|rfl|(cases x<;>first|rfl|(cases y<;>rfl)))
  |some as=>cases a<;>first|rfl|(rename_i f x y;cases f<;>first|rfl|(cases x<;>first|rfl|(cases y<;>rfl)))
theorem Tx(k:SV->Prop):Fq C bx p k (.fn (.func f) [] [])=KU C f bx k p:=rfl
theorem Tz(k:SV->List (Nat×bV)->List (Nat×Nat)->Prop):Fp C id bx lv p k (.fn (.func f) [] [])=KT C f id bx lv k p:=rfl
theorem aiX(x:aR):bF C id (.isn neg x) K ⟨sl,bx,lv,nx⟩=aj (aL ⟨sl,bx,lv,nx⟩ x) λa=>aj (Kt neg a) λv=>K (.dat (.bool v) none) ⟨sl,bx,lv,nx⟩:=rfl
theorem aiY(i:Nat):bF C id (.ext x i) K ⟨sl,bx,lv,nx⟩=aj (aL ⟨sl,bx,lv,nx⟩ x) λa=>aj (S2 a i) λv=>K (.dat v none) ⟨sl,bx,lv,nx⟩:=rfl
theorem aeE(D o:Nat):lg b cs (.ptr D o)=bif D==b then .rp (cs.drop o)else .ptr D o:=rfl
theorem aeF:lg b cs (.dat a q)=.dat a q:=rfl
theorem aeG(D:List AV):lg b cs (.rp D)=.rp D:=rfl
theorem aeH:lg b cs .undef=.undef:=rfl
theorem aeI(D o n z:Nat):lg b cs (.vs D o n z)=bif D==b&&decide (n*z<=(cs.drop o).length)then .dat (.sl (dI z n (cs.drop o))) none else .vs D o n z:=rfl
theorem aak:Fa b cs []=[]:=rfl
theorem aeJ(v:SV) (r:List (Nat×SV)):Fa b cs ((t,v)::r)=(t,lg b cs v)::Fa b cs r:=rfl
theorem aal:mI n []=[]:=rfl
theorem aeK(v:bV) (r:List (Nat×bV)):mI n ((m,v)::r)=bif n==m then mI n r else(m,v)::mI n r:=rfl
theorem aam:iC [] css s=s:=rfl
theorem aeL(D:List Nat) (cs:List AV) (css:List (List AV)):iC (b::D) (cs::css) ⟨sl,bx,lv,nx⟩=iC D css ⟨Fa b cs sl,mI b bx,lv,nx⟩:=rfl
theorem VX:kQ [] css=[]:=by cases css<;>rfl
theorem VY:kQ (some a::as) css=a::kQ as css:=by cases css<;>rfl
theorem VZ(cs:List AV) (css:List (List AV)):kQ (none::as) (cs::css)=.ref cs::kQ as css:=rfl
theorem aeM:i5 []=true:=rfl
theorem aiZ(D:List Nat):i5 (b::D)=(decide (4<=b)&&i5 D):=rfl
def ai0(as:List AV) (s:S) (k:SV->S->Prop) (p:List (Option AV)×List Nat):Prop:=
 (dS p.2&&i5 p.2)=true/\aj (aW s.boxes p.2) λcss=>k (.dat (.fn fn as (kQ p.1 css)) none) (iC p.2 css s)
theorem aeN(as:List AV) (k:SV->S->Prop) (ps:List (Option AV)) (ids:List Nat):ai0 fn as ⟨sl,bx,lv,nx⟩ k (ps,ids)=((dS ids&&i5 ids)=true/\aj (aW bx ids) λcss=>k (.dat (.fn fn as (kQ ps css)) none) (iC ids css ⟨sl,bx,lv,nx⟩)):=rfl
theorem ai1(a b:List aR):bF C id (.vV fn a b) K ⟨sl,bx,lv,nx⟩=aj (ei ⟨sl,bx,lv,nx⟩ a) λas=>aj (ej false ⟨sl,bx,lv,nx⟩ b) (ai0 fn as ⟨sl,bx,lv,nx⟩ K):=rfl
def mmP(k:AV->Prop):List AV->Prop
 |[]=>False
 |a::r=>aj (r.foldlM (UY mx) a) k
theorem amJ:bF C id (.mm mx args) K ⟨sl,bx,lv,nx⟩=aj (ei ⟨sl,bx,lv,nx⟩ args) (mmP mx λv=>K (.dat v none) ⟨sl,bx,lv,nx⟩):=by
 show aj _ _=aj _ _
 cases ei ⟨sl,bx,lv,nx⟩ args with
 |none=>rfl
 |some l=>cases l<;>rfl
theorem ai2(k:AV->Prop) (a b:AV):mmP mx k [a,b]=aj (UY mx a b) k:=by simp[mmP]
theorem ai3(D:IntKind) (x y:Int):UY true (.int D x) (.int D y)=some (.int D (if y>x then y else x)):=rfl
theorem aeP(D:IntKind) (x y:Int):UY false (.int D x) (.int D y)=some (.int D (if y<x then y else x)):=rfl
theorem aan(zs:List AV) (parts:List (Nat×Nat×aR)):bF C id (.build zs parts) K ⟨sl,bx,lv,nx⟩=aj (iN ⟨sl,bx,lv,nx⟩ parts) λps=>K (.dat (.agg (o6 zs ps)) none) ⟨sl,bx,lv,nx⟩:=rfl
def zc(D:Nat):Option AV->Option (List (Nat×List AV))->Option (List (Nat×List AV))
 |some a,some ps=>if a.cells.length=D/\iI a none=true then some ((off,a.cells)::ps)else none
 |_,_=>none
theorem V0(D:Nat) (x:aR) (r:List (Nat×Nat×aR)):iN ⟨sl,bx,lv,nx⟩ ((off,D,x)::r)=zc off D (aL ⟨sl,bx,lv,nx⟩ x) (iN ⟨sl,bx,lv,nx⟩ r):=rfl
theorem TA:iN ⟨sl,bx,lv,nx⟩ []=some []:=rfl
theorem KV(D:Nat) (a:AV) (ps:List (Nat×List AV)) (h:a.cells.length=D) (L:iI a none=true):zc off D (some a) (some ps)=some ((off,a.cells)::ps):=by simp[zc,h,L]
theorem ai4(e z:Nat) (xs:List aR):bF C id (.U6 e z xs) K ⟨sl,bx,lv,nx⟩=aj (lq ⟨sl,bx,lv,nx⟩ z xs) λrows=>K (.dat (.sl rows) (some id)) ⟨sl,bx,(id,e)::lv,nx⟩:=rfl
def aeQ:Option AV->Option (List (List AV))->Option (List (List AV))
 |some a,some rows=>if a.cells.length=z/\iI a none=true then some (a.cells::rows)else none
 |_,_=>none
theorem aao(x:aR) (r:List aR):lq ⟨sl,bx,lv,nx⟩ z (x::r)=aeQ z (aL ⟨sl,bx,lv,nx⟩ x) (lq ⟨sl,bx,lv,nx⟩ z r):=rfl
theorem V1:lq ⟨sl,bx,lv,nx⟩ z []=some []:=rfl
theorem aeR(a:AV) (rows:List (List AV)) (h:a.cells.length=z) (D:iI a none=true):aeQ z (some a) (some rows)=some (a.cells::rows):=by simp[aeQ,h,D]
theorem ai5(e z bytes:Nat) (x y:aR):bF C id (.app e z bytes x y) K ⟨sl,bx,lv,nx⟩=aj (bX ⟨sl,bx,lv,nx⟩ x) fun
   | .dat a q=>aj (rowsOf a) λxs=>aj (aL ⟨sl,bx,lv,nx⟩ y) λb=>aj (rowsOf b) λD=>
     (xs.length+D.length)*bytes<=140737488355328/\(∀r∈xs,r.length=z)/\(∀r∈D,r.length=z)/\
     (match a,q with
      | .aZ,_=>if D=[]then K (.dat .aZ none) ⟨sl,bx,lv,nx⟩else K (.dat (.sl (xs++D)) (some id)) ⟨sl,bx,(id,e)::lv,nx⟩
      | .sl _,some q=>d9 q lv=some e/\K (.dat (.sl (xs++D)) (some id)) ⟨sl,bx,(id,e)::jT q lv,nx⟩
      |_,_=>False)
   |_=>False:=rfl
theorem ai6(x:aR) (lo D:Option aR):bF C id (.Zk z x lo D) K ⟨sl,bx,lv,nx⟩=aj (aL ⟨sl,bx,lv,nx⟩ x) λa=>aj (rowsOf a) λxs=>aj (A0 ⟨sl,bx,lv,nx⟩ lo) λl=>aj (zP ⟨sl,bx,lv,nx⟩ xs D) λh=>(0<=l/\l<=h/\h<=xs.length)/\(∀r∈xs,r.length=z)/\K (.dat (Pf a xs l h) none) ⟨sl,bx,lv,nx⟩:=rfl
theorem aap:A0 ⟨sl,bx,lv,nx⟩ none=some 0:=rfl
theorem aeS:A0 ⟨sl,bx,lv,nx⟩ (some x)=zO (aL ⟨sl,bx,lv,nx⟩ x):=by cases h:aL ⟨sl,bx,lv,nx⟩ x<;>simp[A0,zO,h]
theorem aaq:zP ⟨sl,bx,lv,nx⟩ xs none=some (xs.length:Int):=rfl
theorem aeT(x:aR):zP ⟨sl,bx,lv,nx⟩ xs (some x)=zO (aL ⟨sl,bx,lv,nx⟩ x):=by cases h:aL ⟨sl,bx,lv,nx⟩ x<;>simp[zP,zO,h]
theorem aeU(k:IntKind) (i:Int):zO (some (.int k i))=some i:=rfl
theorem ai7(D:List (List AV)) (l h:Int):Pf (.sl D) xs l h=.sl ((xs.take h.toNat).drop l.toNat):=rfl
theorem aeV(l h:Int):Pf .aZ xs l h=.aZ:=rfl
def ncP:SV->Prop
 | .ptr b o=>k (.ptr b o)
 | .rp cs=>k (.rp cs)
 | .dat (.fn (.func f) as D) q=>k (.dat (.fn (.func f) as D) q)
 | .dat (.ref cs) _=>k (.rp cs)
 |_=>False
theorem amK:bF C id (.nc x) K ⟨sl,bx,lv,nx⟩=aj (bX ⟨sl,bx,lv,nx⟩ x) (ncP λv=>K v ⟨sl,bx,lv,nx⟩):=by
 show aj _ _=aj _ _
 cases bX ⟨sl,bx,lv,nx⟩ x with
 |none=>rfl
 |some v=>cases v with
  |dat a q=>cases a<;>first|rfl|(rename_i f _ _;cases f<;>rfl)
  |_=>rfl
theorem ai8:ncP k (.ptr b o)=k (.ptr b o):=rfl
theorem ai9:ncP k (.dat (.ref cs) q)=k (.rp cs):=rfl
theorem aja:ncP k (.rp cs)=k (.rp cs):=rfl
theorem aeW:aw C .skip Q ⟨sl,bx,lv,nx⟩=Q .normal ⟨sl,bx,lv,nx⟩:=rfl
def I6(k:S->Prop) (n:Nat):S->Prop:=λs=>k {s with nx:=n}
theorem ajb:aw C (.Jh ops) Q ⟨sl,bx,lv,nx⟩=jM C nx 0 ops (I6 (Q .normal) (nx+ops.length)) ⟨sl,bx,lv,nx⟩:=rfl
def aar:Prop:=∃ids,(dS ids&&i5 ids)=true/\aj (aW s.boxes ids) λcss=>∃ro,qI (lY ro 0 ops) dG (iC ids css s).nx (iC ids css s).slots=true/\F (lY ro 0 ops) (iC ids css s)
class KF where
 k:List CO->S->Prop
def dg(ops:List CO) (dG:List (Nat×Nat)) (s:S) [k:KF]:Prop:=aar ops dG s k.k
theorem amL:aar ops dG s F=@dg ops dG s ⟨F⟩:=rfl
theorem ep{ops:List CO} {dG:List (Nat×Nat)} {s:S} {F:List CO->S->Prop} (h:qI ops dG s.nx s.slots=true) (hk:F ops s):@dg ops dG s ⟨F⟩:=⟨[],rfl,[],by rw[tV];exact h,by rw[tV];exact hk⟩
theorem kT{ops:List CO} {dG:List (Nat×Nat)} {s:S} {F:List CO->S->Prop} (h:qI (lY ro 0 ops) dG s.nx s.slots=true) (hk:F (lY ro 0 ops) s):@dg ops dG s ⟨F⟩:=⟨[],rfl,ro,h,hk⟩
theorem PD{ops:List CO} {dG:List (Nat×Nat)} {s:S} {F:List CO->S->Prop} {css:List (List AV)} (L:(dS ids&&i5 ids)=true) (D:aW s.boxes ids=some css) (h:qI (lY ro 0 ops) dG (iC ids css s).nx (iC ids css s).slots=true) (hk:F (lY ro 0 ops) (iC ids css s)):@dg ops dG s ⟨F⟩:=⟨ids,L,by rw[D];exact⟨ro,h,hk⟩⟩
def goF(C:aT) (nx:Nat) (K:S->Prop) (ops:List CO) (s:S):Prop:=jM C nx 0 ops K s
theorem ajc(nx:Nat) (K:S->Prop) (o:CO) (ops:List CO):goF C nx K (o::ops) ⟨sl,bx,lv,nx⟩=jM C nx 0 (o::ops) K ⟨sl,bx,lv,nx⟩:=rfl
theorem V2:aw C (.sq ops dG) Q ⟨sl,bx,lv,nx⟩=aar ops dG ⟨sl,bx,lv,nx⟩ (goF C nx (I6 (Q .normal) (nx+ops.length))):=by
 show(∃ids,_/\aj _ _)=(∃ids,_/\aj _ _)
 congr 1;funext ids;congr 2;funext css
 show S3 _ _ _ _ _=_
 unfold S3 goF;simp only[tT];rfl
def pgG(k:Nat) (D:List Nat) (s:S) (F G:List CO->S->Prop):Prop:=aar ops dG s F\/(qI (qB k D 0 ops) dG s.nx s.slots=true/\G (qB k D 0 ops) s)
class KG where
 k:List CO->S->Prop
 q:List CO->S->Prop
def pg(ops:List CO) (dG:List (Nat×Nat)) (k:Nat) (D:List Nat) (s:S) [h:KG]:Prop:=pgG ops dG k D s h.k h.q
theorem amN(k:Nat) (D:List Nat) (s:S) (F G:List CO->S->Prop):pgG ops dG k D s F G=@pg ops dG k D s ⟨F,G⟩:=rfl
def V3:Option SV->Option AV
 |some (.dat p none)=>some p
 |_=>none
theorem aeX(p:AV):V3 (some (.dat p none))=some p:=rfl
def aeY:Prop:=aj d λd=>aj (V3 (lk d s.slots)) λp=>X p (yV ds s)
theorem aeZ:aeY d ds X ⟨sl,bx,lv,nx⟩=aj d λd=>aj (V3 (lk d sl)) λp=>X p ⟨qC ds sl,bx,lv,nx⟩:=rfl
theorem ae0(k:Nat) (L:List Nat):aw C (.E8 ops dG k L) Q ⟨sl,bx,lv,nx⟩=pgG ops dG k L ⟨sl,bx,lv,nx⟩ (goF C nx (I6 (Q .normal) (nx+ops.length))) (goF C nx (aeY (pD k ops) (ZW ops) λp=>I6 (Q (.panic (iB p))) (nx+ops.length))):=by
 show(_\/_)=(_\/_)
 congr 1
 ·exact V2 sl bx lv nx ops dG
 ·unfold adV goF
  congr 1
  rw[PB,ac1]
  congr 1
  funext s
  unfold aeY
  apply propext
  constructor
  ·rintro⟨d,p,O,R,M⟩
   rw[O]
   show aj (V3 (lk d s.slots)) _
   rw[R];exact M
  ·intro h
   cases hd:pD k ops with
   |none=>rw[hd]at h;exact h.elim
   |some d=>
    rw[hd]at h
    have h:aj (V3 (lk d s.slots)) _:=h
    cases D:lk d s.slots with
    |none=>rw[D]at h;exact h.elim
    |some v=>cases v with
     |dat p q=>cases q with
      |none=>rw[D]at h;exact⟨d,p,rfl,D,h⟩
      |some _=>rw[D]at h;exact h.elim
     |_=>rw[D]at h;exact h.elim
theorem ae1(k:S->Prop) (n:Nat):I6 k n ⟨sl,bx,lv,nx⟩=k ⟨sl,bx,lv,n⟩:=rfl
theorem ajd(a b:aS):aw C (.seq a b) Q ⟨sl,bx,lv,nx⟩=aw C a (jU (aw C b Q) Q) ⟨sl,bx,lv,nx⟩:=rfl
theorem V4(a b:aS):aw C (.join a b) Q ⟨sl,bx,lv,nx⟩=aw C a (jU (down (aw C b Q)) Q) ⟨sl,bx,lv,nx⟩:=rfl
def zf(a b:Prop):AV->Prop
 | .bool t=>(t=true->a)/\(t=false->b)
 |_=>False
theorem ae2(a b:aS):aw C (.cond c a b) Q ⟨sl,bx,lv,nx⟩=aj (aL ⟨sl,bx,lv,nx⟩ c) (zf (aw C a Q ⟨sl,bx,lv,nx⟩) (aw C b Q ⟨sl,bx,lv,nx⟩)):=rfl
def aje(a:Option AV) (k:SV->Prop):SV->Prop
 | .ptr b off=>aj a λa=>aj (idxOf a) λh=>(0<=h/\h<=n)/\k (.vs b off h.toNat z)
 |_=>False
theorem ajf(n z:Nat) (D:aR):bF C id (.slV x n z D) K ⟨sl,bx,lv,nx⟩=aj (bX ⟨sl,bx,lv,nx⟩ x) (aje n z (aL ⟨sl,bx,lv,nx⟩ D) λv=>K v ⟨sl,bx,lv,nx⟩):=by
 show aj _ _=aj _ _
 cases bX ⟨sl,bx,lv,nx⟩ x with
 |none=>rfl
 |some v=>cases v<;>rfl
theorem ae3(a:Option AV) (k:SV->Prop) (b off:Nat):aje n z a k (.ptr b off)=aj a λa=>aj (idxOf a) λh=>(0<=h/\h<=n)/\k (.vs b off h.toNat z):=rfl
theorem ae4:faP off k (.pt 2 ps)=k (.pt 2 (ps.drop off)):=rfl
theorem V5:JA true (some (.pt 0 [(b,0)])) (some p)=some (some .hole::p.1,b::p.2):=rfl
def PE:Option Nat->List (Nat×Nat)->Prop
 |none,(b,o)::_=>k (.ptr b o)
 |some n,ps=>n<=ps.length/\k (.pt 0 (ps.take n))
 |_,_=>False
def aas(D:Option Nat) (k:SV->Prop):SV->Prop
 | .pt 2 ps=>PE k D ps
 |_=>False
theorem ajg(D:Option Nat):bF C id (.Zb x D) K ⟨sl,bx,lv,nx⟩=aj (bX ⟨sl,bx,lv,nx⟩ x) (aas D λv=>K v ⟨sl,bx,lv,nx⟩):=by
 show aj _ _=aj _ _
 cases bX ⟨sl,bx,lv,nx⟩ x with
 |none=>rfl
 |some v=>cases v with
  |pt k ps=>match k,D,ps with
   |2,none,(_,_)::_=>rfl
   |2,none,[]=>rfl
   |2,some _,[]=>rfl
   |2,some _,_::_=>rfl
   |0,_,_=>rfl
   |1,_,_=>rfl
   |k+3,_,_=>rfl
  |_=>rfl
theorem ae5(D:Option Nat) (k:SV->Prop) (ps:List (Nat×Nat)):aas D k (.pt 2 ps)=PE k D ps:=rfl
theorem ae6:PE k none ((b,o)::ps)=k (.ptr b o):=rfl
theorem ae7:PE k (some 1) ((b,o)::ps)=k (.pt 0 [(b,o)]):=by simp[PE]
@[congr] theorem amO (D:Option Nat) (k:SV->Prop) {v L:SV} (h:v=L):aas D k v=aas D k L:=by rw[h]
@[congr] theorem amP(D:Option Nat) {v L:List (Nat×Nat)} (h:v=L):PE k D v=PE k D L:=by rw[h]
theorem ae8(k:Nat) (ps:List (Nat×Nat)):lg b cs (.pt k ps)=.pt k ps:=rfl
end
section
variable (id e z l:Nat) (k:S->Prop) (a:Prop) (bytes:Nat) (b:Prop) (c:aS) (s:S)
def Re:AV->Prop
 | .bool t=>(t=true->a)/\(t=false->b)
 |_=>False
def V6(K:SV->S->Prop) (b off n D:Nat):SV->Prop
 | .ptr L _=>(L=b/\D=z)/\aj (cj b s.boxes) λy=>(n*z<=(y.cells.drop off).length/\n*bytes<=140737488355328)/\
   Re (K (.dat .aZ none) s) (K (.dat (.sl (dI z n (y.cells.drop off))) (some id)) {s with live:=(id,e)::s.live}) (.bool (n==0))
 |_=>False
def ac4(K:SV->S->Prop) (x:Option SV):SV->Prop
 | .vs b off n D=>aj x (V6 id e z bytes s K b off n D)
 |_=>False
theorem V7(n:Nat):Re a b (.bool (n==0))=(if n=0 then a else b):=by
 by_cases h:n=0
 ·subst h;simp[Re]
 ·simp[Re,h]
theorem ae9(y x:aR):bF C id (.FV e z bytes y x) K ⟨sl,bx,lv,nx⟩=aj (bX ⟨sl,bx,lv,nx⟩ y) (ac4 id e z bytes ⟨sl,bx,lv,nx⟩ K (bX ⟨sl,bx,lv,nx⟩ x)):=by
 show aj _ _=aj _ _
 cases bX ⟨sl,bx,lv,nx⟩ y with
 |none=>rfl
 |some v=>
  cases v<;>try rfl
  show aj _ _=aj _ _
  cases bX ⟨sl,bx,lv,nx⟩ x with
  |none=>rfl
  |some u=>
   cases u<;>try rfl
   show(_/\aj _ _)=(_/\aj _ _)
   congr 2
   funext y
   rw[V7]
theorem aat(K:SV->S->Prop) (x:Option SV) (b off n D:Nat):ac4 id e z bytes ⟨sl,bx,lv,nx⟩ K x (.vs b off n D)=aj x (V6 id e z bytes ⟨sl,bx,lv,nx⟩ K b off n D):=rfl
theorem aau(K:SV->S->Prop) (b off n D L o:Nat):V6 id e z bytes ⟨sl,bx,lv,nx⟩ K b off n D (.ptr L o)=((L=b/\D=z)/\aj (cj b bx) λy=>(n*z<=(y.cells.drop off).length/\n*bytes<=140737488355328)/\
   zf (K (.dat .aZ none) ⟨sl,bx,lv,nx⟩) (K (.dat (.sl (dI z n (y.cells.drop off))) (some id)) ⟨sl,bx,(id,e)::lv,nx⟩) (.bool (n==0))):=rfl
def cd(c:AV) [k:KP]:Prop:=zf k.yes k.no c
theorem GD(c:AV):zf a b c=@cd c ⟨a,b⟩:=rfl
theorem aav:@cd (.bool true) ⟨a,b⟩=a:=by simp[cd,zf]
theorem aaw:@cd (.bool false) ⟨a,b⟩=b:=by simp[cd,zf]
theorem aax:aw C (.block id c) Q ⟨sl,bx,lv,nx⟩=aw C c (jN id Q) ⟨sl,bx,lv,nx⟩:=rfl
theorem afa:aw C (.exit id) Q ⟨sl,bx,lv,nx⟩=Q (.exit id) ⟨sl,bx,lv,nx⟩:=rfl
theorem ajh:aw C .ret Q ⟨sl,bx,lv,nx⟩=Q .ret ⟨sl,bx,lv,nx⟩:=rfl
theorem aay(r:aS):aw C (.scope l c r) Q ⟨sl,bx,lv,nx⟩=aw C c (tX l (aw C r (Ku Q)) Q) ⟨sl,bx,lv,nx⟩:=rfl
theorem aaz:aw C (.label l) Q ⟨sl,bx,lv,nx⟩=Q .normal ⟨sl,bx,lv,nx⟩:=rfl
theorem afb:aw C (.goto l) Q ⟨sl,bx,lv,nx⟩=Q (.goto l) ⟨sl,bx,lv,nx⟩:=rfl
theorem aaA(l:Nat):jU k Q (.goto l) s=Q (.goto l) s:=rfl
theorem afc(l:Nat):jN id Q (.goto l) s=Q (.goto l) s:=rfl
theorem aji:tX l k Q .normal s=Q .normal s:=rfl
theorem ajj:tX l k Q .ret s=Q .ret s:=rfl
theorem ajk(id:Nat):tX l k Q (.exit id) s=Q (.exit id) s:=rfl
theorem ajl(D:Nat):tX l k Q (.goto D) s=(D=l/\k s):=rfl
theorem ajm:Ku Q .normal s=Q .normal s:=rfl
theorem ajn:Ku Q .ret s=Q .ret s:=rfl
theorem ajo(id:Nat):Ku Q (.exit id) s=Q (.exit id) s:=rfl
theorem aaB:jU k Q .normal s=k s:=rfl
theorem aaC:jU k Q .ret s=Q .ret s:=rfl
theorem aaD(id:Nat):jU k Q (.exit id) s=Q (.exit id) s:=rfl
theorem afd:jN id Q .normal s=Q .normal s:=rfl
theorem afe:jN id Q .ret s=Q .ret s:=rfl
theorem aff:jN id Q (.exit id) s=Q .normal s:=by simp[jN]
theorem afg(D:Nat) (s:S) (h:(D==id)=false):jN id Q (.exit D) s=Q (.exit D) s:=by
 have:D≠id:=by simpa using h
 simp[jN,this]
end
end
section
variable{C:aT} {Q:Exit->S->Prop} {K:SV->S->Prop} {J:S->Prop}
section
variable (id:Nat) {L v:SV} (e:Exit) (k:SV->Prop)
@[congr] theorem al2 {α:Type} {o o':Option α} (k:α->Prop) (h:o=o'):aj o k=aj o' k:=by rw[h]
@[congr] theorem anK(o:bU) (s:S):bF C id o K s=bF C id o K s:=rfl
@[congr] theorem amQ (b i:Nat) (l:List CO) (s:S):jM C b i l J s=jM C b i l J s:=rfl
@[congr] theorem aol (c:aS) (s:S):aw C c Q s=aw C c Q s:=rfl
@[congr] theorem al3(s:S):jU J Q e s=jU J Q e s:=rfl
@[congr] theorem ajp {J:S->Prop} (l:Nat) (e:Exit) (s:S):tX l J Q e s=tX l J Q e s:=rfl
@[congr] theorem amR(s:S):Ku Q e s=Ku Q e s:=rfl
@[congr] theorem ajq(s:S):jN id Q e s=jN id Q e s:=rfl
@[congr] theorem amS (n:Nat) (s:S):I6 J n s=I6 J n s:=rfl
@[congr] theorem amT {s D:S} (h:s=D):down J s=down J D:=by rw[h]
@[congr] theorem ajr (w:Bool) (yes no:Prop) {g D:Option SV} (h:g=D):nY w yes no g=nY w yes no D:=by rw[h]
@[congr] theorem al4{a a' b D:Option SV} {c L:AV} (O:a=a') (R:b=D) (M:c=L):GC a b k c=GC a' D k L:=by rw[O,R,M]
@[congr] theorem al5 (a b:Prop) {c D:AV} (h:c=D):zf a b c=zf a b D:=by rw[h]
@[congr] theorem anL(D:Option Nat) (bx:List (Nat×bV)) (k:SV->Prop) (h:v=L):ldP D bx k v=ldP D bx k L:=by rw[h]
@[congr] theorem anM(off:Nat) (k:SV->Prop) {D:SV} (h:v=D):faP off k v=faP off k D:=by rw[h]
@[congr] theorem anN{d L:Nat} {D:SV} (h:v=D) (hd:d=L):iaP d k v=iaP L k D:=by rw[h,hd]
@[congr] theorem anO(D:Nat) (bx:List (Nat×bV)) {u M:Option SV} (k:List (Nat×bV)->Prop) (O:u=M) (h:v=L):stP D bx u k v=stP D bx M k L:=by rw[h,O]
@[congr] theorem anP(D off:Nat) (x:bV) (k:bV->Prop) (h:v=L):stV D off x k v=stV D off x k L:=by rw[h]
@[congr] theorem amU (k:List AV->Prop) {v D:AV} (h:v=D):PC k v=PC k D:=by rw[h]
@[congr] theorem anQ (m:Bool) (k:AV->Prop) {v D:List AV} (h:v=D):mmP m k v=mmP m k D:=by rw[h]
@[congr] theorem anR{D:SV} (h:v=D):ncP k v=ncP k D:=by rw[h]
end
end
section
variable(k:IntKind) (x y:Int)
section
variable (cs:List AV) (f:FloatKind) (c:Prop) (b:Bool) (off n:Nat) (xs:List (List AV)) (q:Option Nat) (v:AV)
theorem ajs:eK .add (.int k x) (.int k y)=some (.int k (k.wrap (x+y))):=by simp[eK,qA]
theorem ajt:eK .sub (.int k x) (.int k y)=some (.int k (k.wrap (x-y))):=by simp[eK,qA]
theorem aju:eK .mul (.int k x) (.int k y)=some (.int k (k.wrap (x*y))):=by simp[eK,qA]
theorem ajv:eK .eql (.int k x) (.int k y)=some (.bool (x==y)):=by simp[eK,qA]
theorem ajw:eK .neq (.int k x) (.int k y)=some (.bool (x !=y)):=by simp[eK,qA]
theorem ajx:eK .lss (.int k x) (.int k y)=some (.bool (decide (x<y))):=by simp[eK,qA]
theorem ajy:eK .leq (.int k x) (.int k y)=some (.bool (decide (x<=y))):=by simp[eK,qA]
theorem ajz:eK .gtr (.int k x) (.int k y)=some (.bool (decide (y<x))):=by simp[eK,qA]
theorem ajA:eK .geq (.int k x) (.int k y)=some (.bool (decide (y<=x))):=by simp[eK,qA]
def bT(k:IntKind) (x y:Int):Int:=k.wrap (BitVec.ofInt k.bits x&&&BitVec.ofInt k.bits y).toNat
def AW(k:IntKind) (x y:Int):Int:=k.wrap (BitVec.ofInt k.bits x|||BitVec.ofInt k.bits y).toNat
def TC(k:IntKind) (x y:Int):Int:=k.wrap (BitVec.ofInt k.bits x^^^BitVec.ofInt k.bits y).toNat
def bC(k:IntKind) (x y:Int):Int:=k.wrap (BitVec.ofInt k.bits x&&& ~~~BitVec.ofInt k.bits y).toNat
theorem ajB:eK .and (.int k x) (.int k y)=some (.int k (bT k x y)):=by simp[eK,qA,DY,bT]
theorem amV:eK .or (.int k x) (.int k y)=some (.int k (AW k x y)):=by simp[eK,qA,DY,AW]
theorem ajC:eK .xor (.int k x) (.int k y)=some (.int k (TC k x y)):=by simp[eK,qA,DY,TC]
theorem V8:eK .andNot (.int k x) (.int k y)=some (.int k (bC k x y)):=by simp[eK,qA,DY,bC]
def uW[Decidable c]:Option AV:=if c then some v else none
theorem aaE[Decidable c] (K:AV->Prop):@wv _ (uW c v) ⟨K⟩=(c/\K v):=by
 rw[<-eS];unfold uW;split<;>simp_all
theorem ajD:eK .quo (.int k x) (.int k y)=uW (y≠0) (.int k (k.wrap (x.tdiv y))):=by
 by_cases h:y=0<;>simp[eK,qA,uW,h]
theorem ajE:eK .rem (.int k x) (.int k y)=uW (y≠0) (.int k (x.tmod y)):=by
 by_cases h:y=0<;>simp[eK,qA,uW,h]
theorem ajF(D:IntKind):eK .shl (.int k x) (.int D y)=uW (0<=y) (.int k (k.wrap (x*2^min y.toNat k.bits))):=by
 by_cases h:0<=y
 ·have:¬y<0:=ado
  simp[eK,vZ,uW,h,this]
 ·have:y<0:=ado
  simp[eK,vZ,uW,this]
theorem ajG(D:IntKind):eK .shr (.int k x) (.int D y)=uW (0<=y) (.int k (x.fdiv (2^min y.toNat k.bits))):=by
 by_cases h:0<=y
 ·have:¬y<0:=ado
  simp[eK,vZ,uW,h,this]
 ·have:y<0:=ado
  simp[eK,vZ,uW,this]
theorem ajH(x y:Bool):bbA false (.bool x) (.bool y)=some (.bool (x==y)):=rfl
theorem ajI(x y:Bool):bbA true (.bool x) (.bool y)=some (.bool (x !=y)):=rfl
theorem ajJ:unA .not (.bool b)=some (.bool !b):=rfl
theorem ajK:unA .neg (.int k x)=some (.int k (k.wrap (0-x))):=rfl
theorem ajL:Kt false .aZ=some true:=rfl
theorem ajM:Kt true .aZ=some false:=rfl
theorem ajN:Kt false (.sl xs)=some false:=rfl
theorem ajO:Kt true (.sl xs)=some true:=rfl
theorem ajP:zN .aZ=some (.int .i64 0):=rfl
theorem amW:zN (.sl xs)=some (.int .i64 xs.length):=rfl
theorem amX(D:IntKind):FY k (.int D x)=some (.int k (k.wrap x)):=rfl
theorem amY(D:IntKind) (f:FloatKind):FZ f (.int D x)=some (.float f (f.nearest x)):=rfl
theorem ajQ(vs:List AV) (i:Nat):S2 (.dP vs) i=vs[i]?:=rfl
theorem ajR:iI (.agg cs) none=true:=rfl
theorem ajS:iI (.int k x) q=true:=rfl
theorem ajT:iI (.bool b) q=true:=rfl
theorem ajU:iI (.float f n) q=true:=rfl
theorem ajV:iI .aZ q=true:=rfl
theorem ajW:iI (.sl xs) q=true:=rfl
theorem ajX(b:ByteArray) (q:Option Nat):iI (.str b) q=true:=rfl
theorem ajY(f:Fn) (as D:List AV) (q:Option Nat):iI (.fn f as D) q=true:=rfl
theorem afh:iI (.ref cs) q=true:=rfl
theorem ajZ:iI .jG q=true:=rfl
theorem TD:AV.cells (.agg cs)=cs:=rfl
theorem TE:AV.cells (.int k x)=[.int k x]:=rfl
theorem PF:AV.cells (.bool b)=[.bool b]:=rfl
theorem M1:AV.cells (.float f n)=[.float f n]:=rfl
theorem PG:AV.cells .aZ=[.aZ]:=rfl
theorem TF:AV.cells (.ref cs)=[.ref cs]:=rfl
theorem V9(f:Fn) (as D:List AV):AV.cells (.fn f as D)=[.fn f as D]:=rfl
theorem Wa:AV.cells (.sl xs)=[.sl xs]:=rfl
theorem afi:aB cs off none=cs[off]?:=rfl
theorem nZ(h:off+n<=cs.length):aB cs off (some n)=some (.agg ((cs.drop off).take n)):=by simp[aB,h]
end
end
section
variable (wr:List Nat) (F:S->Prop) (Q:Exit->S->Prop) {t:Bool} (s:S)
theorem aY{w:Bool} {yes no:Prop} {q:Option Nat} (L:t=true->@gd w (some (.dat (.bool true) q)) ⟨yes,no⟩) (D:t=false->@gd w (some (.dat (.bool false) q)) ⟨yes,no⟩):@gd w (some (.dat (.bool t) q)) ⟨yes,no⟩:=by
 cases t
 ·exact D rfl
 ·exact L rfl
theorem aA{a b:Prop} (L:t=true->a) (D:t=false->b):@cd (.bool t) ⟨a,b⟩:=by
 cases t
 ·simpa[cd,zf]using D rfl
 ·simpa[cd,zf]using L rfl
theorem bH{a b:Option SV} {k:SV->Prop} (L:t=true->@pk a b (.bool true) ⟨k⟩) (D:t=false->@pk a b (.bool false) ⟨k⟩):@pk a b (.bool t) ⟨k⟩:=by
 cases t
 ·exact D rfl
 ·exact L rfl
theorem aaF(p:Nat) (ps:List Nat) (x:AV) (xs:List AV) (s:S):uU (p::ps) (x::xs) s=uU ps xs (s.put (some p) (.dat x none)):=rfl
theorem Wb:uU [] [] s=s:=rfl
theorem afj(sl:List (Nat×SV)) (bx:List (Nat×bV)) (lv:List (Nat×Nat)) (nx:Nat):yV wr ⟨sl,bx,lv,nx⟩=⟨qC wr sl,bx,lv,nx⟩:=rfl
theorem aaG:qC wr []=[]:=rfl
theorem afk(t:Nat) (v:SV) (r:List (Nat×SV)):qC wr ((t,v)::r)=bif wr.contains t then qC wr r else(t,v)::qC wr r:=rfl
theorem afl:Vb wr F Q .normal s=down F (yV wr s):=rfl
theorem afm:Vb wr F Q .ret s=Q .ret (yV wr s):=rfl
theorem afn(id:Nat) (s:S):Vb wr F Q (.exit id) s=Q (.exit id) (yV wr s):=rfl
theorem aaH(K:S->Prop) (s:S):F4 K .normal s=K s:=rfl
def EV0:=
 dC @ad9 (dC @aea (dC @aeb (dC @aiv (dC @amv (dC @aiw (dC @amw (dC @ZV (dC @aec (dC @aed (dC @aee (dC @aef (dC @aiy (dC @M0 (dC @El (dC @Bl (dC @wM (dC @aeg (dC @aeh (dC @ZX (dC @aiz (dC @aei (dC @aej (dC @aek (dC @ZY (dC @ael (dC @ZZ (dC @Z0 (dC @Z1 (@Z2)))))))))))))))))))))))))))))
def EV1:=
 dC @VE (dC @Z3 (dC @aem (dC @Z4 (dC @VF (dC @VG (dC @Tq (dC @VH (dC @Tt (dC @amx (dC @aen (dC @Z5 (dC @Z6 (dC @Z7 (dC @aiA (dC @amy (dC @aeo (dC @aep (dC @aiB (dC @amz (dC @aiD (dC @aiE (dC @Z8 (dC @Z9 (dC @amA (dC @aiF (dC @aiG (dC @aiI (dC @aiJ (@aiK)))))))))))))))))))))))))))))
def EV2:=
 dC @aiL (dC @aiM (dC @aeq (dC @aer (dC @aes (dC @aaa (dC @aiN (dC @aiO (dC @aiP (dC @aiQ (dC @aiR (dC @amC (dC @amD (dC @aet (dC @aeu (dC @aev (dC @aew (dC @Rb (dC @aab (dC @amF (dC @amG (dC @amH (dC @amI (dC @aiS (dC @aey (dC @aez (dC @aiU (dC @aeA (dC @aeB (@aeC)))))))))))))))))))))))))))))
def EV3:=
 dC @VJ (dC @VK (dC @VL (dC @aeD (dC @aiW (dC @VM (dC @aac (dC @aad (dC @VN (dC @aae (dC @aaf (dC @Tv (dC @VO (dC @Tw (dC @VP (dC @VQ (dC @VS (dC @aag (dC @aah (dC @aai (dC @VT (dC @VU (dC @aaj (dC @VV (dC @VW (dC @Tx (dC @Tz (dC @aiX (dC @aiY (@aeE)))))))))))))))))))))))))))))
def EV4:=
 dC @aeF (dC @aeG (dC @aeH (dC @aeI (dC @aak (dC @aeJ (dC @aal (dC @aeK (dC @aam (dC @aeL (dC @VX (dC @VY (dC @VZ (dC @aeM (dC @aiZ (dC @aeN (dC @ai1 (dC @amJ (dC @ai2 (dC @ai3 (dC @aeP (dC @aan (dC @V0 (dC @TA (dC @ai4 (dC @aao (dC @V1 (dC @ai5 (dC @ai6 (@aap)))))))))))))))))))))))))))))
def EV5:=
 dC @aeS (dC @aaq (dC @aeT (dC @aeU (dC @ai7 (dC @aeV (dC @amK (dC @ai8 (dC @ai9 (dC @aja (dC @aeW (dC @ajb (dC @ajc (dC @V2 (dC @aeX (dC @aeZ (dC @ae0 (dC @ae1 (dC @ajd (dC @V4 (dC @ae2 (dC @ajf (dC @ae3 (dC @ae4 (dC @V5 (dC @ajg (dC @ae5 (dC @ae6 (dC @ae7 (@ae8)))))))))))))))))))))))))))))
def EV6:=
 dC @ae9 (dC @aat (dC @aau (dC @aav (dC @aaw (dC @aax (dC @afa (dC @ajh (dC @aay (dC @aaz (dC @afb (dC @aaA (dC @afc (dC @aji (dC @ajj (dC @ajk (dC @ajl (dC @ajm (dC @ajn (dC @ajo (dC @aaB (dC @aaC (dC @aaD (dC @afd (dC @afe (dC @aff (dC @ajs (dC @ajt (dC @aju (@ajv)))))))))))))))))))))))))))))
def EV7:=
 dC @ajw (dC @ajx (dC @ajy (dC @ajz (dC @ajA (dC @ajB (dC @amV (dC @ajC (dC @V8 (dC @aaE (dC @ajD (dC @ajE (dC @ajF (dC @ajG (dC @ajH (dC @ajI (dC @ajJ (dC @ajK (dC @ajL (dC @ajM (dC @ajN (dC @ajO (dC @ajP (dC @amW (dC @amX (dC @amY (dC @ajQ (dC @ajR (dC @ajS (@ajT)))))))))))))))))))))))))))))
def EV8:=
 dC @ajU (dC @ajV (dC @ajW (dC @ajX (dC @ajY (dC @afh (dC @ajZ (dC @TD (dC @TE (dC @PF (dC @M1 (dC @PG (dC @TF (dC @V9 (dC @Wa (dC @afi (dC @aaF (dC @Wb (dC @afj (dC @aaG (dC @afk (dC @afl (dC @afm (dC @afn (@aaH))))))))))))))))))))))))
def EV:=
 dC @EV0 (dC @EV1 (dC @EV2 (dC @EV3 (dC @EV4 (dC @EV5 (dC @EV6 (dC @EV7 (@EV8))))))))
end
section
variable{C:aT}
section
variable {F G:S->Prop} {K K':SV->S->Prop} {Q Q':Exit->S->Prop} {e:Exit} {id:Nat} {s:S} {wr:List Nat} {α:Type} (hd:α->S)
theorem Bn{o:bU} (hk:∀v D,K v D->K' v D) (h:bF C id o K s):bF C id o K' s:=by
 obtain⟨v,d,hK,_,_,L⟩:=Be h;exact L.2 s .refl K' (hk _ _ hK)
theorem sI{base:Nat}:∀{l:List CO} {i:Nat} {s:S} {K K':S->Prop},(∀s,K s->K' s)->jM C base i l K s->jM C base i l K' s
 |[],i,s,K,K',hk,h=>hk s h
 |o::l,i,s,K,K',hk,h=>by
  rw[sC]at h⊢;obtain⟨v,d,hd,D,_⟩:=gL h;exact hd.2 s .refl _ (sI hk D)
theorem TH{o:IY} {X X':AV->S->Prop} (hk:∀v s',K v s'->K' v s') (hx:∀p s',X p s'->X' p s') (h:dF C id o K X s):dF C id o K' X' s:=by
 cases o with
 |o c=>exact Bn hk h
 |call f args=>
  simp only[dF]at h⊢
  rcases h with h|h
  ·exact .inl (Bn hk h)
  ·obtain⟨as,has,h⟩:=ah h
   rw[has]
   rcases h with⟨cs,L,D⟩|⟨p,L,D⟩|⟨rows,e,z,L,D,h3⟩
   ·exact .inr (.inl ⟨cs,L,hk _ _ D⟩)
   ·exact .inr (.inr (.inl ⟨p,L,hx _ _ D⟩))
   ·exact .inr (.inr (.inr ⟨rows,e,z,L,D,hk _ _ h3⟩))
 |apn e z bytes y=>
  obtain⟨a,R,h⟩:=ah h;obtain⟨rows,hr,L,D,h3⟩:=ah h;simp only[dF,R,hr,ay];exact⟨L,D,hk _ _ h3⟩
 |ew f args=>
  simp only[dF]at h⊢
  rcases h with h|h
  ·exact .inl (Bn hk h)
  ·obtain⟨p,O,hn,h⟩:=ah h
   obtain⟨css,V,h⟩:=ah h;rw[O];refine .inr ⟨hn,?_⟩;rw[V]
   rcases h with⟨v,M,L,D⟩|⟨tg,r,M,Z,L,D⟩
   ·exact .inl ⟨v,M,L,hx _ _ D⟩
   ·obtain⟨qo,hq,D⟩:=ah D
    exact .inr ⟨tg,r,M,Z,L,by rw[hq];exact hk _ _ D⟩
 |gy b g args=>
  simp only[dF]at h⊢;split at h
  ·obtain⟨p,O,hn,h⟩:=ah h
   obtain⟨css,V,h⟩:=ah h;rw[O];refine⟨hn,?_⟩;rw[V]
   rcases h with⟨r,fr,M,L,D⟩|⟨v,M,L,D⟩|⟨tg,r,M,Z,L,D⟩
   ·exact .inl ⟨r,fr,M,L,hk _ _ D⟩
   ·exact .inr (.inl ⟨v,M,L,hx _ _ D⟩)
   ·obtain⟨qo,hq,D⟩:=ah D
    exact .inr (.inr ⟨tg,r,M,Z,L,by rw[hq];exact hk _ _ D⟩)
  ·exact Bn hk h
 |Zm x=>
  obtain⟨p,O,h⟩:=ah h;simp only[dF,O,ay]
  cases p<;>first|exact hk _ _ h|exact h.elim
 |Zn x=>
  obtain⟨p,O,h⟩:=ah h;simp only[dF,O,ay]
  cases p<;>try(exact h.elim)
  rename_i k ps
  cases k<;>first|exact hk _ _ h|exact h.elim
 |stp x v=>
  obtain⟨p,O,h⟩:=ah h;simp only[dF,O,ay]
  cases p<;>try(exact h.elim)
  rename_i b o
  cases o<;>try(exact h.elim)
  obtain⟨q,hq,h⟩:=ah h;simp only[hq,ay]
  cases q<;>try(exact h.elim)
  rename_i k ps
  cases k<;>try(exact h.elim)
  obtain⟨y,hy,L,D⟩:=ah h;simp only[hy,ay];exact⟨L,hk _ _ D⟩
 |Zo xs=>obtain⟨p,O,h⟩:=ah h;simp only[dF,O];exact hk _ _ h
 |iap x i=>
  obtain⟨p,O,h⟩:=ah h;simp only[dF,O,ay]
  cases p<;>try(exact h.elim)
  rename_i k ps
  match k,h with
  |1,h=>
   obtain⟨a,R,h⟩:=ah h;obtain⟨j,hj,L,D⟩:=ah h;simp only[R,ay,hj];exact⟨L,hk _ _ D⟩
  |0,h=>exact h.elim
  |k+2,h=>exact h.elim
 |lnp x=>
  obtain⟨p,O,h⟩:=ah h;simp only[dF,O,ay]
  cases p<;>try(exact h.elim)
  rename_i k ps
  match k,h with
  |1,h=>exact hk _ _ h
  |0,h=>exact h.elim
  |k+2,h=>exact h.elim
 |QH g args=>
  obtain⟨av,aa,h⟩:=ah h;simp only[dF,aa,ay]
  cases av<;>try(exact h.elim)
  rename_i fn first caps
  cases fn<;>try(exact h.elim)
  cases first<;>try(exact h.elim)
  cases caps<;>try(exact h.elim)
  obtain⟨p,O,hn,h⟩:=ah h;obtain⟨css,V,j,o,b,L,D,h3⟩:=ah h;simp only[O,ay,V];exact⟨hn,j,o,b,L,D,hk _ _ h3⟩
 |mkc f caps=>obtain⟨p,O,h⟩:=ah h;simp only[dF,O];exact hk _ _ h
 |S0 x=>obtain⟨a,R,L,D⟩:=ah h;simp only[dF,R];exact⟨L,hx _ _ D⟩
 |mkI t x=>obtain⟨a,R,L,D⟩:=ah h;simp only[dF,R];exact⟨L,hk _ _ D⟩
 |tas t z x=>
  obtain⟨a,R,h⟩:=ah h;obtain⟨v,hv,h⟩:=ah h;simp only[dF,R,ay,hv];exact hk _ _ h
 |isI neg x=>
  obtain⟨a,R,h⟩:=ah h;obtain⟨v,hv,h⟩:=ah h;simp only[dF,R,ay,hv];exact hk _ _ h
 |isP neg x=>
  obtain⟨a,R,h⟩:=ah h;obtain⟨v,hv,h⟩:=ah h;simp only[dF,R,ay,hv];exact hk _ _ h
 |mks e bytes l c=>
  obtain⟨a,R,h⟩:=ah h;obtain⟨l',hl,h⟩:=ah h;obtain⟨b,hb,h⟩:=ah h;obtain⟨c',hc,L,h⟩:=ah h;simp only[dF,R,ay,hl,hb,hc];exact⟨L,hk _ _ h⟩
 |cpy e x y=>
  obtain⟨p,O,h⟩:=ah h;simp only[dF,O,ay]
  cases p<;>try(exact h.elim)
  obtain⟨b,hb,h⟩:=ah h;obtain⟨ys,hy,L,D,h⟩:=ah h;simp only[hb,ay,hy];exact⟨L,D,hk _ _ h⟩
theorem M3{g:Option (Nat×Bool)} {y D n M:Prop} (L:y->D) (O:n->M) (h:gq s g y n):gq s g D M:=by
 unfold gq at h⊢;split at h
 ·exact L h
 ·split at h
  ·exact⟨λe=>L (h.1 e),λe=>O (h.2 e)⟩
  ·exact O h
  ·exact h.elim
theorem Ae{base:Nat}:∀{l:List XO} {i:Nat} {s:S} {K K':S->Prop} {X X':AV->S->Prop},(∀s,K s->K' s)->(∀p L,X p L->X' p L)->ji C base i l K X s->ji C base i l K' X' s
 |[],i,s,K,K',X,X',hk,D,h=>hk s h
 |o::l,i,s,K,K',X,X',hk,D,h=>M3 (TH (λv L h=>Ae hk D h) D) (Ae hk D) h
theorem oT(h:∀s,F s->G s) (hd:down F s):down G s:=by
 obtain⟨s1,⟨M,hF|⟨ids,L,hF⟩⟩|hF⟩:=hd
 ·exact oI M (h _ hF)
 ·obtain⟨css,D,hF⟩:=ah hF
  exact U8 M ⟨ids,L,by rw[D];exact h _ hF⟩
 ·exact⟨s1,.inr (h _ hF)⟩
theorem jm(h:∀s,F s->G s) (L:∀e s,Q e s->Q' e s) (D:jU F Q e s):jU G Q' e s:=by
 cases e<;>first|exact h _ D|exact L _ _ D
theorem M4(M:∀e s,Q e s->Q' e s) (D:jN id Q e s):jN id Q' e s:=by
 cases e with
 |exit i=>
  simp only[jN]at D⊢;split
  ·rename_i L;rw[fp L]at D;exact M _ _ D
  ·rename_i L;rw[fb L]at D;exact M _ _ D
 |_=>exact M _ _ D
theorem uj{F G:(Exit->S->Prop)->S->Prop} (hF:∀Q Q' s,(∀e s,Q e s->Q' e s)->F Q s->G Q' s) {Q Q':Exit->S->Prop} (D:∀e s,Q e s->Q' e s):∀{n:Nat} {s:S},tU F Q n s->tU G Q' n s
 |0,s,h=>h
 |n+1,s,h=>hF _ _ s (λe s L=>jm (λs hd=>oT (λs h=>uj hF D h) hd) D L) h
theorem Wc(D:∀e s,Q e s->Q' e s) (h:Vb wr F Q e s):Vb wr F Q' e s:=by
 cases e<;>first|exact h|exact D _ _ h
theorem lD:∀{c:aS} {Q Q':Exit->S->Prop} {s:S},(∀e s,Q e s->Q' e s)->aw C c Q s->aw C c Q' s:=by
 intro c
 induction c with
 |skip=>intro Q Q' s D h;exact D _ _ h
 |Jh ops=>intro Q Q' s D h;exact sI (λs h=>D _ _ h) h
 |qy ops=>intro Q Q' s D h;exact Ae (λs h=>D _ _ h) (λp s h=>D _ _ h) h
 |sq ops dG=>
  intro Q Q' s D h;obtain⟨ids,R,h⟩:=h;obtain⟨css,V,ro,hd,h⟩:=ah h
  exact⟨ids,R,by rw[V];exact⟨ro,hd,sI (λs h=>D _ _ h) h⟩⟩
 |E8 ops dG k ad=>
  intro Q Q' s D h
  rcases h with⟨ids,R,h⟩|h
  ·obtain⟨css,V,ro,hd,h⟩:=ah h
   exact .inl ⟨ids,R,by rw[V];exact⟨ro,hd,sI (λs h=>D _ _ h) h⟩⟩
  ·exact .inr ⟨h.1,sI (λs ⟨d,p,h1,h2,h3⟩=>⟨d,p,h1,h2,D _ _ h3⟩) h.2⟩
 |seq a b L M=>intro Q Q' s D h;exact L (λe s O=>jm (λs h=>M D h) D O) h
 |join a b L M=>intro Q Q' s D h;exact L (λe s O=>jm (λs h=>oT (λs h=>M D h) h) D O) h
 |cond c a b L M=>
  intro Q Q' s D h;simp only[aw]at h⊢;obtain⟨v,hv,h⟩:=ah h;rw[hv]
  cases v<;>try(exact h.elim)
  exact⟨λe=>L D (h.1 e),λe=>M D (h.2 e)⟩
 |block id c ih=>intro Q Q' s D h;exact ih (λe s O=>M4 D O) h
 |loop c ih=>
  intro Q Q' s D h
  exact oT (λs ⟨n,h⟩=>⟨n,uj (F:=aw C c) (G:=aw C c) (λQ Q' s D h=>ih D h) D h⟩) h
 |exit id=>intro Q Q' s D h;exact D _ _ h
 |ret=>intro Q Q' s D h;exact D _ _ h
 |label l=>intro Q Q' s D h;exact D _ _ h
 |goto l=>intro Q Q' s D h;exact D _ _ h
 |scope l c r ab ac=>
  intro Q Q' s D h
  refine ab (λe s O=>?_) h
  cases e with
  |goto l'=>
   refine⟨O.1,ac (λe s Z=>?_) O.2⟩
   cases e<;>first|exact Z|exact D _ _ Z
  |_=>exact D _ _ O
 |vY g ps wr as bd L M=>
  intro Q Q' s D h;simp only[aw]at h⊢;obtain⟨gv,aa,xs,h1,h2,F,h3,h4,h5,h6⟩:=ah h;rw[aa]
  refine⟨xs,h1,h2,F,h3,h4,λi x s' hx hs=>L (λe s O=>?_) (h5 i x s' hx hs),λs' hs=>D _ _ (h6 s' hs)⟩
  cases e<;>first|exact O.elim|exact M (λe s Z=>Wc D Z) O
theorem aaI{g:aR} {ps:List Nat} {as bd:aS} {V:AV} {xs:List (List AV)} (I:Nat->α->Prop) (hg:aL s g=some V) (ab:C.i V xs) (R:∀x∈xs,x.length=ps.length) {L:α} (M:Le s (hd L)\/s=hd L) (O:I 0 L) (aa:∀y,aL (hd y) g=some V) (round:∀i x y,xs[i]? =some x->I i y->aw C as (F4 (aw C bd (Vb wr (λD=>∃z,D=hd z/\I (i+1) z) Q))) (uU ps x (hd y))) (fin:∀y,I xs.length y->Q .normal (hd y)):aw C (.vY g ps wr as bd) Q s:=by
 simp only[aw,hg,ay]
 refine⟨xs,ab,R,λi D=>∃y,D=hd y/\I i y,?_,?_,?_,?_⟩
 ·rcases M with M|M
  ·exact oI M ⟨L,rfl,O⟩
  ·exact gX ⟨L,M,O⟩
 ·rintro i D ⟨y,rfl,_⟩;exact aa y
 ·rintro i x D hx ⟨y,rfl,Z⟩;exact round i x y hx Z
 ·rintro D ⟨y,rfl,Z⟩;exact fin y Z
def flat(keep:List Nat):Nat->aS->aS×Nat
 |i,.join a b=>
  let p:=flat keep (i+1) a
  let q:=flat keep p.2 b
  (if keep.contains i then .join p.1 q.1 else .seq p.1 q.1,q.2)
 |i,.seq a b=>
  let p:=flat keep i a
  let q:=flat keep p.2 b
  (.seq p.1 q.1,q.2)
 |i,.cond c a b=>
  let p:=flat keep i a
  let q:=flat keep p.2 b
  (.cond c p.1 q.1,q.2)
 |i,.block id c=>(.block id (flat keep i c).1,(flat keep i c).2)
 |i,.vY g ps wr as D=>
  let p:=flat keep i as
  let q:=flat keep p.2 D
  (.vY g ps wr p.1 q.1,q.2)
 |i,.loop c=>(.loop (flat keep i c).1,(flat keep i c).2)
 |i,.scope l c r=>
  let p:=flat keep i c
  let q:=flat keep p.2 r
  (.scope l p.1 q.1,q.2)
 |i,c=>(c,i)
theorem yu{keep:List Nat}:∀{c:aS} {i:Nat} {Q:Exit->S->Prop} {s:S},aw C (flat keep i c).1 Q s->aw C c Q s:=by
 intro c
 induction c with
 |join a b D L=>
  intro i Q s h;simp only[flat]at h;split at h
  ·exact D (lD (λe s M=>jm (λs h=>oT (λs h=>L h) h) (λ_ _ h=>h) M) h)
  ·exact D (lD (λe s M=>jm (λs h=>gX (L h)) (λ_ _ h=>h) M) h)
 |seq a b D L=>intro i Q s h;exact D (lD (λe s M=>jm (λs h=>L h) (λ_ _ h=>h) M) h)
 |cond c a b D L=>
  intro i Q s h;simp only[flat,aw]at h⊢;obtain⟨v,hv,h⟩:=ah h;rw[hv]
  cases v<;>try(exact h.elim)
  exact⟨λe=>D (h.1 e),λe=>L (h.2 e)⟩
 |block id c O=>intro i Q s h;exact O h
 |scope l c r V Z=>
  intro i Q s h
  refine V (lD (λe s M=>?_) h)
  cases e with
  |goto l'=>exact⟨M.1,Z M.2⟩
  |_=>exact M
 |vY g ps wr as bd D L=>
  intro i Q s h;simp only[flat,aw]at h⊢;obtain⟨gv,R,xs,h1,h2,F,h3,h4,h5,h6⟩:=ah h;rw[R]
  refine⟨xs,h1,h2,F,h3,h4,λi x s' hx hs=>D (lD (λe s M=>?_) (h5 i x s' hx hs)),h6⟩
  cases e<;>first|exact M.elim|exact L M
 |loop c O=>
  intro i Q s h
  exact oT (λs ⟨n,h⟩=>⟨n,uj (F:=aw C (flat keep i c).1) (G:=aw C c) (λQ Q' s hq h=>lD hq (O h)) (λ_ _ h=>h) h⟩) h
 |_=>intro i Q s h;exact h
theorem Rf{c:aS} (μ:α->Nat) (I:α->Prop) (round:∀x,I x->aw C c (jU (down λs=>∃y,s=hd y/\I y/\μ y<μ x) Q) (hd x)) {x:α} (D:I x) (L:Le s (hd x)\/s=hd x):aw C (.loop c) Q s:=by
 have key:∀n x,I x->μ x<n->tU (aw C c) Q n (hd x):=by
  intro n
  induction n with
  |zero=>intro x _ h;omega
  |succ n M=>
   intro x D Z;refine lD ?_ (round x D);intro e s O
   refine jm ?_ (λ_ _ h=>h) O
   intro s hd;refine oT ?_ hd
   rintro s ⟨y,rfl,R,V⟩
   exact M y R ado
 rcases L with L|rfl
 ·exact oI L ⟨μ x+1,key _ x D ado⟩
 ·exact gX ⟨μ x+1,key _ x D ado⟩
end
end
section
variable (i k:Nat) (cs:List AV) (b:Bool) (xs css:List (List AV)) (r:List (Option AV))
theorem aj0(k:IntKind) (n:Int):jI (.int k n)=.dat (.int k n) none:=rfl
theorem afo:jI (.bool b)=.dat (.bool b) none:=rfl
theorem aaJ(k:FloatKind) (n:Nat):jI (.float k n)=.dat (.float k n) none:=rfl
theorem aj1(s:ByteArray):jI (.str s)=.dat (.str s) none:=rfl
theorem afp:jI .tQ=.dat .tQ none:=rfl
theorem afq:jI .aZ=.dat .aZ none:=rfl
theorem amZ:jI (.sl xs)=.dat (.sl xs) none:=rfl
theorem am0(f:Fn) (as D:List AV):jI (.fn f as D)=.dat (.fn f as D) none:=rfl
theorem aj2:jI (.agg cs)=.dat (.agg cs) none:=rfl
theorem aj3:jI (.ref cs)=.rp cs:=rfl
theorem aaK(a:AV) (r:List AV):slotsOf i (a::r)=(i,jI a)::slotsOf (i+1) r:=rfl
theorem Wd:slotsOf i []=[]:=rfl
theorem afr(as:List AV):Q8 as=⟨slotsOf 0 as,[],[],4⟩:=rfl
theorem afs(q:IntKind) (n:Int) (r:List (Option AV)):cw i k (some (.int q n)::r)=(i,.dat (.int q n) none)::cw (i+1) k r:=rfl
theorem aaL:cw i k (some (.bool b)::r)=(i,.dat (.bool b) none)::cw (i+1) k r:=rfl
theorem We(q:FloatKind) (n:Nat) (r:List (Option AV)):cw i k (some (.float q n)::r)=(i,.dat (.float q n) none)::cw (i+1) k r:=rfl
theorem aft(b:ByteArray) (r:List (Option AV)):cw i k (some (.str b)::r)=(i,.dat (.str b) none)::cw (i+1) k r:=rfl
theorem aaM:cw i k (some (.tQ)::r)=(i,.dat .tQ none)::cw (i+1) k r:=rfl
theorem aaN:cw i k (some (.aZ)::r)=(i,.dat .aZ none)::cw (i+1) k r:=rfl
theorem aj4:cw i k (some (.sl xs)::r)=(i,.dat (.sl xs) none)::cw (i+1) k r:=rfl
theorem aj5(g:Fn) (as D:List AV) (r:List (Option AV)):cw i k (some (.fn g as D)::r)=(i,.dat (.fn g as D) none)::cw (i+1) k r:=rfl
theorem afu:cw i k (some (.agg cs)::r)=(i,.dat (.agg cs) none)::cw (i+1) k r:=rfl
theorem afv:cw i k (some (.ref cs)::r)=(i,.rp cs)::cw (i+1) k r:=rfl
theorem afw(t:Nat) (a:AV) (r:List (Option AV)):cw i k (some (.iface t a)::r)=(i,.dat (.iface t a) none)::cw (i+1) k r:=rfl
theorem afx:cw i k (some (.gJ)::r)=(i,.dat .gJ none)::cw (i+1) k r:=rfl
theorem afy:cw i k (some (.gn)::r)=(i,.dat .gn none)::cw (i+1) k r:=rfl
theorem aaO:cw i k (some .hole::r)=(i,.pt 0 [(k,0)])::cw (i+1) (k+1) r:=rfl
def TI:=dC @afs (dC @aaL (dC @We (dC @aft (dC @aaM (dC @aaN (dC @aj4 (dC @aj5 (dC @afu (dC @afv (dC @afw (dC @afx (dC @afy @aaO))))))))))))
theorem TJ:cw i k (none::r)=(i,.ptr k 0)::cw (i+1) (k+1) r:=rfl
theorem TK:cw i k []=[]:=rfl
theorem Wf:jO k (cs::css)=(k,⟨cs,[]⟩)::jO (k+1) css:=rfl
theorem TL:jO k []=[]:=rfl
theorem aaP(as:List (Option AV)):lZ css as=⟨cw 0 0 as,jO 0 css,[],4⟩:=rfl
theorem afz(res:List gu) (r:AV) (s:S):fin res r none .normal s=aj (eI s res) λp=>p.1=r:=by simp[fin,MW]
end
section
variable (res:List gu) (r a:AV) (css:List (List AV)) (e:Nat) (l:List (Nat×bV)) (s:S) (k off:Nat) (q:Option Nat) (t:Nat)
theorem afA:fin res r none .ret s=aj (eI s res) λp=>p.1=r:=by simp[fin,MW]
theorem afB:fin res r (some e) .normal s=aj (eI s res) λp=>p.1=r/\MW (some e) p.2 s.live:=rfl
theorem afC:fin res r (some e) .ret s=aj (eI s res) λp=>p.1=r/\MW (some e) p.2 s.live:=rfl
theorem am1(q:Nat) (lv:List (Nat×Nat)):MW (some e) (some q) lv=(d9 q lv=some e):=rfl
theorem aaQ:Gy res r none css .normal s=aj (eI s res) λp=>p.1=r/\ja s.boxes 0 css:=by simp[Gy,MW]
theorem aaR:Gy res r none css .ret s=aj (eI s res) λp=>p.1=r/\ja s.boxes 0 css:=by simp[Gy,MW]
theorem aaS:ja l k []=True:=rfl
theorem afD(cs:List AV) (css:List (List AV)):ja l k (cs::css)=(aj (cj k l) (λx=>x.cells=cs)/\ja l (k+1) css):=rfl
def aaT:Option SV->Option (AV×Option Nat)
 |some (.dat a q)=>some (a,q)
 |_=>none
theorem afE:aaT (some (.dat a q))=some (a,q):=rfl
theorem afF:eI s [.tmp t]=aaT (lk t s.slots):=rfl
def Wg(D:Option Nat) (bx:List (Nat×bV)):Option SV->Option (AV×Option Nat)
 |some (.ptr b off)=>match cj b bx with
  |some x=>match aB x.cells off D with
   |some a=>some (a,match D with|none=>d9 off x.tags|some _=>none)
   |none=>none
  |none=>none
 |_=>none
def JB(D:Option Nat):Option bV->Option (AV×Option Nat)
 |some x=>match aB x.cells off D with
  |some a=>some (a,match D with|none=>d9 off x.tags|some _=>none)
  |none=>none
 |none=>none
theorem afG(D:Option Nat):eI s [.cell t D]=Wg D s.boxes (lk t s.slots):=rfl
theorem aaU(D:Option Nat) (bx:List (Nat×bV)) (b off:Nat):Wg D bx (some (.ptr b off))=JB off D (cj b bx):=by
 simp only[Wg,JB]
theorem aaV(n:Nat) (x:bV):JB off (some n) (some x)=(aB x.cells off (some n)).map λa=>(a,none):=by
 simp only[JB]<;>cases aB x.cells off (some n)<;>rfl
theorem aaW(x:bV):JB off none (some x)=(x.cells[off]?).map λa=>(a,d9 off x.tags):=by
 simp only[JB,aB]<;>cases x.cells[off]?<;>rfl
theorem afH:eI s []=some (.dP [],none):=rfl
theorem afI(x y:gu) (r:List gu):eI s (x::y::r)=(l5 s (x::y::r)).map λas=>(.dP as,none):=rfl
def Wh:Option (AV×Option Nat)->Option (List AV)->Option (List AV)
 |some p,some as=>some (p.1::as)
 |_,_=>none
theorem aaX(as:List AV):Wh (some (a,q)) (some as)=some (a::as):=rfl
theorem afJ(x:gu) (r:List gu):l5 s (x::r)=Wh (eI s [x]) (l5 s r):=by
 simp only[l5,Wh,eI]<;>cases KO s x<;>cases l5 s r<;>rfl
end
section
variable {P:Program} {cf:bJ} {f:FuncId} {fr:Option Nat} {i off:Nat} {r:AV} {α:Type} {l:List α} {x:α} (n:Int)
theorem aaY(s:S):l5 s []=some []:=rfl
def EW0:=
 dC @aj0 (dC @afo (dC @aaJ (dC @aj1 (dC @afp (dC @afq (dC @amZ (dC @am0 (dC @aj2 (dC @aj3 (dC @aaK (dC @Wd (dC @afr (dC @TI (dC @TJ (dC @TK (dC @Wf (dC @TL (dC @aaP (dC @afz (dC @afA (dC @afB (dC @afC (dC @am1 (dC @aaQ (dC @aaR (dC @aaS (dC @afD (dC @afE (@afF)))))))))))))))))))))))))))))
def EW1:=
 dC @afG (dC @aaU (dC @aaV (dC @aaW (dC @afH (dC @afI (dC @aaX (dC @afJ (@aaY))))))))
def EW:=
 dC @EW0 (@EW1)
theorem aq(hm:P.follows .mixedOrders=true) {L:Bool} (D:qE L P f=some cf) {args:List AV} (keep:List Nat) (M:Nat.ble args.length cf.nt=true) (h:aw (Pure P) (flat keep 0 cf.code).1 (fin cf.res r fr) (Q8 args)):F6 P f args r fr:=ZU hm D (gc M) (yu (keep:=keep) (i:=0) h)
theorem GF(hm:P.follows .mixedOrders=true) {O:Bool} (L:qE O P f=some cf) {css D:List (List AV)} {args:List (Option AV)} (keep:List Nat) (R:Nat.ble args.length cf.nt=true) (M:D.length=css.length) (h4:Nat.ble css.length 4=true) (h:aw (Pure P) (flat keep 0 cf.code).1 (Gy cf.res r fr D) (lZ css args)):wj P f css args r fr D:=MZ hm L (gc R) M (gc h4) (yu (keep:=keep) (i:=0) h)
abbrev I (n:Int):AV:=.int .i64 n
abbrev B (b:Bool):AV:=.bool b
abbrev D (n:Nat):AV:=.float .f64 n
def cU:Int:=IntKind.i64.wrap n
def aI(f:α->List AV):Option (List α)->AV
 |none=>.aZ
 |some l=>.sl (l.map f)
def aH:List AV:=[I n]
structure Ph where
 on:Bool
 min:Int
 Zd:Int
 max:Int
 top:Int
 step:Int
 dD:Int
 red:Int
 walk:Int
 cz:Int
 n9:Int
 lock:Bool
 rest:Bool
 deriving Inhabited,DecidableEq
def Ph.cells(p:Ph):List AV:=[B p.on,I p.min,I p.Zd,I p.max,I p.top,I p.step,I p.dD,I p.red,I p.walk,I p.cz,I p.n9,B p.lock,B p.rest]
structure Bo where
 phase:Int
 on:Nat
 off:Nat
 delay:Nat
 extend:Nat
 maxOn:Int
 wN:Int
 deriving Inhabited,DecidableEq
def Bo.cells(d:Bo):List AV:=[I d.phase,D d.on,D d.off,D d.delay,D d.extend,I d.maxOn,I d.wN]
structure Rl where
 bars:Int
 clear:Int
 fe:Int
 exit:Int
 delay:Int
 green:Int
 dm:Int
 hold:Int
 stay:Int
 most:Int
 limit:Int
 deriving Inhabited,DecidableEq
def Rl.cells(r:Rl):List AV:=[I r.bars,I r.clear,I r.fe,I r.exit,I r.delay,I r.green,I r.dm,I r.hold,I r.stay,I r.most,I r.limit]
structure Bs where
 set:Int
 lock:Int
 deriving Inhabited,DecidableEq
def Bs.cells(b:Bs):List AV:=[I b.set,I b.lock]
structure Gr where
 a:Option (List Int)
 b:Option (List Int)
 deriving Inhabited,DecidableEq
def Gr.cells(g:Gr):List AV:=[aI aH g.a,aI aH g.b]
structure Tb where
 phases:List Ph
 groups:Option (List Gr)
 conflict:List Int
 aV:Option (List Bo)
 bE:Option (List Rl)
 l6:Option (List Bs)
 extend:Int
 i7:Int
 start:Int
 revert:Int
 least:Int
 dO:List Int
 rL:Int
 share:Int
 deriving Inhabited,DecidableEq
def Tb.cells(t:Tb):List AV:=
 t.phases.flatMap Ph.cells++(aI Gr.cells t.groups::(t.conflict.map I++(aI Bo.cells t.aV::aI Rl.cells t.bE::aI Bs.cells t.l6::
  I t.extend::I t.i7::I t.start::I t.revert::I t.least::(t.dO.map I++[I t.rL,I t.share]))))
structure Tb.Ok (t:Tb):Prop where
 phases:t.phases.length=8
 conflict:t.conflict.length=8
 dO:t.dO.length=8
 groups:(t.groups.getD []).length<=1048576
 rows:∀g∈t.groups.getD [],(g.a.getD []).length<=1048576/\(g.b.getD []).length<=1048576
 aj6:(t.aV.getD []).length<=1048576
 bE:(t.bE.getD []).length<=1048576
 l6:(t.l6.getD []).length<=1048576
theorem aO{α:Type} {f:α->List AV} {z:Nat} (D:∀x,(f x).length=z):∀{l:List α},(l.flatMap f).length=l.length*z
 |[]=>by simp
 |x::l=>by simp[Hm,D,aO D (l:=l),Nat.add_mul];omega
theorem Ph.len(p:Ph):p.cells.length=13:=rfl
theorem Tb.len{t:Tb} (h:t.Ok):t.cells.length=131:=by
 simp[Tb.cells,aO Ph.len,h.phases,h.conflict,h.dO]
theorem KY{α:Type}:∀{l:List α} {i:Nat} {x:α},l[i]? =some x->l=l.take i++x::l.drop (i+1)
 |[],i,x,h=>by simp at h
 |y::l,0,x,h=>by
  simp at h;subst h;simp
 |y::l,i+1,x,h=>by
  have:=KY (l:=l) (i:=i) (x:=x) (by simpa using h)
  simp only[wi,mp,ts]
  exact sd (y:: ·) this
theorem jn{f:α->List AV} (h:l[i]? =some x):l.flatMap f=(l.take i).flatMap f++(f x++(l.drop (i+1)).flatMap f):=by
 conv=>lhs;rw[KY h]
 rw[acb,Hm]
theorem jo(h:l[i]? =some x):(l.take i).length=i:=by
 have:=(eo.1 h).1
 simp;omega
theorem gh{pre mid post:List AV} {z:Nat} (M:pre.length=off) (L:mid.length=z):aB (pre++(mid++post)) off (some z)=some (.agg mid):=by
 subst M L
 have D:pre.length+mid.length<=(pre++(mid++post)).length:=adI
 simp only[aB,D,kw,fx,AV.agg.injEq];simp
theorem oN{pre mid post ps:List AV} (L:pre.length=off) (D:mid.length=ps.length):setCells (pre++(mid++post)) off ps=pre++(ps++post):=by
 subst L;simp only[setCells];rw[<-D];simp[xi]
theorem aM{cs ps:List AV} (h:cs.length=ps.length):setCells cs 0 ps=ps:=by
 simp only[setCells,ww,my,lc,<-h,List.drop_length,tp]
theorem Tb.iO{t:Tb} {p:Ph} (h:t.phases[i]? =some p):aB t.cells (i*13) (some 13)=some (.agg p.cells):=by
 unfold Tb.cells;rw[jn h,List.append_assoc,List.append_assoc]
 exact gh (by rw[aO Ph.len,jo h]) rfl
theorem Wi{y:α} (h:l[i]? =some x):l.set i y=l.take i++y::l.drop (i+1):=by
 have D:=(eo.1 h).1
 rw[Hd,fp D]
theorem Tb.TM{t:Tb} {p q:Ph} (h:t.phases[i]? =some p):setCells t.cells (i*13) q.cells={t with phases:=t.phases.set i q}.cells:=by
 unfold Tb.cells;simp only;rw[Wi h,acb,Hm]
 conv=>lhs;rw[jn h]
 rw[List.append_assoc,List.append_assoc,List.append_assoc,List.append_assoc]
 exact oN (by rw[aO Ph.len,jo h]) rfl
end
end Go.Eng
namespace Go.Eng.Z
open Go
section
variable (d x:Nat)
def o(d:Nat) (x:bU):CO:=⟨some d,x,none⟩
def p(x:bU) (g:Nat):CO:=⟨some d,x,some (g,true)⟩
def q(x:bU) (g:Nat):CO:=⟨some d,x,some (g,false)⟩
def n(x:bU):CO:=⟨none,x,none⟩
def M:CO:=⟨some d,.mv (.t x),none⟩
def V(v:AV):CO:=⟨some d,.mv (.k v),none⟩
def m(x:Nat):bU:=.mv (.t x)
def v(x:AV):bU:=.mv (.k x)
def l(x:Nat):bU:=.ld (.t x) none
def L(z:Nat):bU:=.ld (.t x) (some z)
def f(x z:Nat):bU:=.fa (.t x) z
def s(x y z:Nat):bU:=.st (.t x) (.t y) z
def ss(y:AV) (z:Nat):bU:=.st (.t x) (.k y) z
def A(y a b:Nat):bU:=.Pd (.t x) (.t y) a b
def a(x y z:Nat):bU:=.Za (.t x) (.t y) z
def P(y:Nat):bU:=.pick (.t x) (.t y) (.k (.bool false))
def Q(y:Nat):bU:=.pick (.t x) (.k (.bool true)) (.t y)
def h:bU:=.Mq (.t x)
def w:bU:=.box (.t x)
def b(g:BinOp) (x y:Nat):bU:=.bin g (.t x) (.t y)
def bb(g:BinOp) (x:Nat) (y:AV):bU:=.bin g (.t x) (.k y)
def e(x y:Nat):bU:=.ext (.t x) y
def i(x:Int):AV:=.int .i64 x
def t(x:Nat):aR:=.t x
def k(x:AV):aR:=.k x
def r(x:List CO) (y:aS):aS:=.seq (.Jh x) y
def R(x:List CO):aS:=.Jh x
def j(x y:aS):aS:=.join x y
def c(x:Nat) (y z:aS):aS:=.cond (.t x) y z
def u(y:aS):aS:=.block x y
def y:aS:=.ret
def z:aS:=.skip
def T:AV:=.bool true
def F:AV:=.bool false
def H:=
 dC @o.eq_1 (dC @p.eq_1 (dC @q.eq_1 (dC @n.eq_1 (dC @M.eq_1 (dC @V.eq_1 (dC @m.eq_1 (dC @v.eq_1 (dC @l.eq_1 (dC @L.eq_1 (dC @f.eq_1 (dC @s.eq_1 (dC @ss.eq_1 (dC @A.eq_1 (dC @a.eq_1 (dC @P.eq_1 (dC @Q.eq_1 (dC @h.eq_1 (dC @w.eq_1 (dC @b.eq_1 (dC @bb.eq_1 (dC @e.eq_1 (dC @i.eq_1 (dC @t.eq_1 (dC @k.eq_1 (dC @r.eq_1 (dC @R.eq_1 (dC @j.eq_1 (dC @c.eq_1 (dC @u.eq_1 (dC @y.eq_1 (dC @z.eq_1 (dC @T.eq_1 @F.eq_1))))))))))))))))))))))))))))))))
end
end Go.Eng.Z
