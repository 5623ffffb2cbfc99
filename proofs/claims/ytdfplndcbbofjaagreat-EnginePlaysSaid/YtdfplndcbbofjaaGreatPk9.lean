/- Part 9 of the engine and its library. -/
import Derived.Test.YtdfplndcbbofjaaGreatPk8
set_option linter.all false
set_option maxRecDepth 10000
set_option maxHeartbeats 4000000
namespace Go.Eng
open Go
section
variable (C:aY) (f:Nat) (as:List AV) (id:Nat) (lv:List (Nat×Nat)) {α:Type} (a:α) (k:SV->List (Nat×Nat)->Prop)
class Kn (α:Type) where
 run:α->Prop
class Kn2 where
 run:SV->List (Nat×Nat)->Prop
def wv{α:Type} (o:Option α) [k:Kn α]:Prop:=ax o k.run
theorem eA(o:Option α) (k:α->Prop):ax o k=@wv α o ⟨k⟩:=rfl
theorem Xb(k:α->Prop):@wv α (some a) ⟨k⟩=k a:=rfl
theorem Xc(k:α->Prop):@wv α none ⟨k⟩=False:=rfl
theorem aap{o:Option α} {k:α->Prop} (h:o=some a) (hk:k a):@wv α o ⟨k⟩:=by subst h;exact hk
def Cg:Prop:=
 ∃r fr,C.c f as r fr/\k (.dat r (fr.map λ_=>id)) (match fr with|some e=>(id,e)::lv|none=>lv)
def cl(C:aY) (f:Nat) (as:List AV) (id:Nat) (lv:List (Nat×Nat)) [k:Kn2]:Prop:=Cg C f as id lv k.run
theorem l7:Cg C f as id lv k=@cl C f as id lv ⟨k⟩:=rfl
@[congr] theorem ads{C:aY} {as A:List AV} (h:as=A):Cg C f as id lv k=Cg C f A id lv k:=by rw[h]
end
section
variable (C:aY) (f:Nat) (css:List (List AV)) (ro:List Nat) (as:List (Option AV)) (i:Nat) {id:Nat} {lv:List (Nat×Nat)} (d:Option Nat) (ids:List Nat) (o:CO)
theorem af{C:aY} {f:Nat} {as:List AV} {k:SV->List (Nat×Nat)->Prop} {r:AV} (h:C.c f as r none) (hk:k (.dat r none) lv):@cl C f as id lv ⟨k⟩:=⟨r,none,h,hk⟩
theorem P4{C:aY} {f:Nat} {as:List AV} {k:SV->List (Nat×Nat)->Prop} {r:AV} {e:Nat} (h:C.c f as r (some e)) (hk:k (.dat r (some id)) ((id,e)::lv)):@cl C f as id lv ⟨k⟩:=⟨r,some e,h,hk⟩
class Kn3 where
 run:SV->List (Nat×dH)->List (Nat×Nat)->Prop
def Ec(id:Nat) (bx:List (Nat×dH)) (lv:List (Nat×Nat)) (k:SV->List (Nat×dH)->List (Nat×Nat)->Prop):Prop:=
 ∃r fr A,C.p f css as r fr A/\k (.dat r (fr.map λ_=>id)) (eG ids A bx) (match fr with|some e=>(id,e)::lv|none=>lv)
def clp(C:aY) (f:Nat) (css:List (List AV)) (as:List (Option AV)) (ids:List Nat) (id:Nat) (bx:List (Nat×dH)) (lv:List (Nat×Nat)) [k:Kn3]:Prop:=Ec C f css as ids id bx lv k.run
theorem aaq(id:Nat) (bx:List (Nat×dH)) (lv:List (Nat×Nat)) (k:SV->List (Nat×dH)->List (Nat×Nat)->Prop):Ec C f css as ids id bx lv k=@clp C f css as ids id bx lv ⟨k⟩:=rfl
theorem bg{C:aY} {f:Nat} {css:List (List AV)} {as:List (Option AV)} {ids:List Nat} {bx:List (Nat×dH)} {k:SV->List (Nat×dH)->List (Nat×Nat)->Prop} {r:AV} {A:List (List AV)} (h:C.p f css as r none A) (hk:k (.dat r none) (eG ids A bx) lv):@clp C f css as ids id bx lv ⟨k⟩:=⟨r,none,A,h,hk⟩
class Kn4 where
 run:SV->Prop
def HA(k:SV->Prop):Prop:=∃r,C.p f css as r none css/\k (.dat r none)
def clr(C:aY) (f:Nat) (css:List (List AV)) (as:List (Option AV)) [k:Kn4]:Prop:=HA C f css as k.run
theorem aar(k:SV->Prop):HA C f css as k=@clr C f css as ⟨k⟩:=rfl
theorem cV{C:aY} {f:Nat} {css:List (List AV)} {as:List (Option AV)} {k:SV->Prop} {r:AV} (h:C.p f css as r none css) (hk:k (.dat r none)):@clr C f css as ⟨k⟩:=⟨r,h,hk⟩
def MQ(x:Option dH) (y:Option (List (List AV))):Option (List (List AV)):=
 match x,y with
 |some ⟨cs,[]⟩,some css=>some (cs::css)
 |_,_=>none
theorem Xd:oD ro i []=[]:=rfl
theorem aas(r:List CO):oD ro i (o::r)=(bif ro.contains i then o.ro else o)::oD ro (i+1) r:=rfl
theorem adT(o:bU) (g:Option (Nat×Bool)):CO.ro ⟨d,o,g⟩=⟨d,o.ro,g⟩:=rfl
theorem aat(as:List bC):bU.ro (.eo f as)=.Dx f as:=rfl
def CO.pq:CO:=match o.op with
 | .eo f args=>⟨o.dst,.wA f args,o.g⟩
 |_=>o
theorem adU(f:Nat) (as:List bC) (g:Option (Nat×Bool)):CO.pq ⟨d,.eo f as,g⟩=⟨d,.wA f as,g⟩:=rfl
theorem TC(k:Nat) (A:List Nat) (i:Nat):oE k A i []=[]:=rfl
theorem Xe(k:Nat) (A:List Nat) (i:Nat) (o:CO) (r:List CO):oE k A i (o::r)=(bif i==k then o.pq else bif A.contains i then⟨none,.mv (.k .tA),none⟩else o)::oE k A (i+1) r:=by
 simp only[oE,Bb,CO.pq,cond_eq_ite,kb];rfl
def TD:List CO->List Nat
 |[]=>[]
 |⟨some d,_,_⟩::r=>d::TD r
 |⟨none,_,_⟩::r=>TD r
theorem Xf:TD []=[]:=rfl
theorem Xg(d:Nat) (o:bU) (g:Option (Nat×Bool)) (r:List CO):TD (⟨some d,o,g⟩::r)=d::TD r:=rfl
theorem Xh(o:bU) (g:Option (Nat×Bool)) (r:List CO):TD (⟨none,o,g⟩::r)=TD r:=rfl
theorem Lp:∀{l:List CO},(l.flatMap λo=>o.dst.toList)=TD l
 |[]=>rfl
 |⟨some d,_,_⟩::r=>by rw[wc,Lp];rfl
 |⟨none,_,_⟩::r=>by rw[wc,Lp];rfl
def pD:Nat->List CO->Option Nat
 |0,o::_=>o.dst
 |k+1,_::r=>pD k r
 |_,[]=>none
theorem Wo:∀{k:Nat} {l:List CO},(l[k]?).bind CO.dst=pD k l
 |0,[]=>rfl
 |_+1,[]=>rfl
 |0,o::_=>rfl
 |k+1,_::r=>by rw[kv];exact Wo
class Kn5 where
 run:AV->List (List AV)->Prop
def HB(k:AV->List (List AV)->Prop):Prop:=∃v A,C.q f css as v A/\k v A
def clq(C:aY) (f:Nat) (css:List (List AV)) (as:List (Option AV)) [k:Kn5]:Prop:=HB C f css as k.run
theorem aau(k:AV->List (List AV)->Prop):HB C f css as k=@clq C f css as ⟨k⟩:=rfl
theorem aav(g:bC) (as:List bC):bU.ro (.gU g as)=.tJ g as:=rfl
end
section
variable{C:aY} {Q:Exit->S->Prop} {K:SV->S->Prop} {J:S->Prop}
variable(sl:List (Nat×SV)) (bx:List (Nat×dH)) (lv:List (Nat×Nat)) (nx:Nat)
section
variable (id:Nat) (k:SV->Prop) (b:Nat) (x:bC) (n f:Nat) (ops:List CO) (yes:Prop) (h:Bool) (a:AV) (as:List (Option AV)) (cs:List AV) (d:Option Nat) (dc:List (Nat×Nat)) (o:Nat) (ds:List Nat) (g i:bC) (z:Nat) (no:Prop) (X:AV->S->Prop) (css:List (List AV)) (s:S) (ids:List Nat) (mx:Bool) (q A:Option Nat) (ps:List (Nat×Nat)) (F:List CO->S->Prop) (args:List bC) (c:bC) (fn:Fn) (m:Nat) (neg:Bool) (off:Nat) (p:List (Option AV)×List Nat) (ro:List Nat) (w:Bool) (xs:List (List AV))
theorem Jk(v:SV) (r:List (Nat×SV)):lk n ((m,v)::r)=bif n==m then some v else lk n r:=rfl
theorem Ci(v:dH) (r:List (Nat×dH)):dh n ((m,v)::r)=bif n==m then some v else dh n r:=rfl
theorem zl(v:Nat) (r:List (Nat×Nat)):fq n ((m,v)::r)=bif n==m then some v else fq n r:=rfl
theorem t8:fq n []=none:=rfl
theorem Xi(b v:dH) (r:List (Nat×dH)):pn n b ((m,v)::r)=bif n==m then(m,b)::r else(m,v)::pn n b r:=rfl
theorem Xj(v:Nat) (r:List (Nat×Nat)):nH n ((m,v)::r)=bif n==m then nH n r else(m,v)::nH n r:=rfl
theorem TE:nH n []=[]:=rfl
theorem aaw(d:Nat) (v:SV):S.put ⟨sl,bx,lv,nx⟩ (some d) v=⟨(d,v)::sl,bx,lv,nx⟩:=rfl
theorem Xk(v:SV):S.put ⟨sl,bx,lv,nx⟩ none v=⟨sl,bx,lv,nx⟩:=rfl
theorem Xl:bX ⟨sl,bx,lv,nx⟩ (.t n)=lk n sl:=rfl
theorem Xm(v:AV):bX ⟨sl,bx,lv,nx⟩ (.k v)=some (.dat v none):=rfl
def N6:Option SV->Option AV
 |some (.dat a _)=>some a
 |some (.rp cs)=>some (.ref cs)
 |_=>none
theorem TF:N6 (some (.rp cs))=some (.ref cs):=rfl
theorem Xn:N6 (some (.dat a q))=some a:=rfl
theorem TH:aM ⟨sl,bx,lv,nx⟩ (.t n)=N6 (lk n sl):=rfl
theorem TI(v:AV):aM ⟨sl,bx,lv,nx⟩ (.k v)=some v:=rfl
def Wp:Option AV->Option (List AV)->Option (List AV)
 |some a,some as=>some (a::as)
 |_,_=>none
theorem TJ(as:List AV):Wp (some a) (some as)=some (a::as):=rfl
theorem TK(r:List bC):eS ⟨sl,bx,lv,nx⟩ (x::r)=Wp (aM ⟨sl,bx,lv,nx⟩ x) (eS ⟨sl,bx,lv,nx⟩ r):=rfl
theorem P5:eS ⟨sl,bx,lv,nx⟩ []=some []:=rfl
theorem TL(i:Nat):j6 C b i [] J ⟨sl,bx,lv,nx⟩=J ⟨sl,bx,lv,nx⟩:=rfl
theorem Xp(i:Nat) (d:Option Nat) (o:bU) (r:List CO):j6 C b i (⟨d,o,none⟩::r) J ⟨sl,bx,lv,nx⟩=bS C (b+i) o (λv A=>j6 C b (i+1) r J (A.put d v)) ⟨sl,bx,lv,nx⟩:=rfl
def pz(want:Bool) (yes no:Prop):Option SV->Prop
 |some (.dat (.bool b) _)=>(b=want->yes)/\(b=!want->no)
 |some .undef=>no
 |_=>False
theorem TM(i t:Nat) (w:Bool) (d:Option Nat) (o:bU) (r:List CO):j6 C b i (⟨d,o,some (t,w)⟩::r) J ⟨sl,bx,lv,nx⟩=
  pz w (bS C (b+i) o (λv A=>j6 C b (i+1) r J (A.put d v)) ⟨sl,bx,lv,nx⟩) (j6 C b (i+1) r J (S.put ⟨sl,bx,lv,nx⟩ d .undef)) (lk t sl):=by
 simp only[j6,gM,pz]
 cases lk t sl with
 |none=>rfl
 |some v=>cases v with
  |dat a q=>cases a<;>rfl
  |ptr=>rfl
  |rp=>rfl
  |undef=>rfl
  |vs=>rfl
  |wz=>rfl
  |raw=>rfl
  |pt=>rfl
class KP where
 yes:Prop
 no:Prop
def gd(w:Bool) (v:Option SV) [k:KP]:Prop:=pz w k.yes k.no v
theorem pE(yes no:Prop) (v:Option SV):pz w yes no v=@gd w v ⟨yes,no⟩:=rfl
theorem P6(yes no:Prop):@gd w (some .undef) ⟨yes,no⟩=no:=rfl
theorem P7:@gd true (some (.dat (.bool true) q)) ⟨yes,no⟩=yes:=by simp[gd,pz]
theorem N7:@gd true (some (.dat (.bool false) q)) ⟨yes,no⟩=no:=by simp[gd,pz]
theorem P8:@gd false (some (.dat (.bool false) q)) ⟨yes,no⟩=yes:=by simp[gd,pz]
theorem N8:@gd false (some (.dat (.bool true) q)) ⟨yes,no⟩=no:=by simp[gd,pz]
theorem adV:bS C id (.mv x) K ⟨sl,bx,lv,nx⟩=ax (bX ⟨sl,bx,lv,nx⟩ x) λv=>K v ⟨sl,bx,lv,nx⟩:=rfl
def Ed(a b:Option SV) (k:SV->Prop):AV->Prop
 | .bool t=>ax a λu=>ax b λv=>(t=true->k u)/\(t=false->k v)
 |_=>False
theorem Xq(a b:bC):bS C id (.pick c a b) K ⟨sl,bx,lv,nx⟩=ax (aM ⟨sl,bx,lv,nx⟩ c) (Ed (bX ⟨sl,bx,lv,nx⟩ a) (bX ⟨sl,bx,lv,nx⟩ b) λv=>K v ⟨sl,bx,lv,nx⟩):=rfl
def pk(a b:Option SV) (c:AV) [k:Kn SV]:Prop:=Ed a b k.run c
theorem zm(a b:Option SV) (k:SV->Prop) (c:AV):Ed a b k c=@pk a b c ⟨k⟩:=rfl
theorem TN(b:Option SV) (v:SV):@pk (some v) b (.bool true) ⟨k⟩=ax b λ_=>k v:=by simp[pk,Ed]
theorem TO(a:Option SV) (v:SV):@pk a (some v) (.bool false) ⟨k⟩=ax a λ_=>k v:=by
 cases a<;>simp[pk,Ed]
theorem TP:bS C id (.alloc cs) K ⟨sl,bx,lv,nx⟩=K (.ptr id 0) ⟨sl,(id,⟨cs,[]⟩)::bx,lv,nx⟩:=rfl
theorem aax:bS C id (.box x) K ⟨sl,bx,lv,nx⟩=ax (aM ⟨sl,bx,lv,nx⟩ x) λa=>jo a none=true/\K (.ptr id 0) ⟨sl,(id,⟨a.cells,[]⟩)::bx,lv,nx⟩:=rfl
def ZX(bx:List (Nat×dH)) (k:SV->Prop):SV->Prop
 | .ptr b off=>ax (dh b bx) λx=>ax (aF x.cells off A) λa=>k (.dat a (match A with|none=>fq off x.tags|some _=>none))
 | .rp cs=>ax (aF cs 0 A) λa=>k (.dat a none)
 |_=>False
theorem adW:bS C id (.ld x A) K ⟨sl,bx,lv,nx⟩=ax (bX ⟨sl,bx,lv,nx⟩ x) (ZX A bx λv=>K v ⟨sl,bx,lv,nx⟩):=rfl
theorem Xr:ZX none bx k (.ptr b off)=ax (dh b bx) λx=>ax (aF x.cells off none) λa=>k (.dat a (fq off x.tags)):=rfl
theorem Xu(n:Nat):ZX (some n) bx k (.ptr b off)=ax (dh b bx) λx=>ax (aF x.cells off (some n)) λa=>k (.dat a none):=rfl
theorem aay(cs:List AV):ZX A bx k (.rp cs)=ax (aF cs 0 A) λa=>k (.dat a none):=rfl
def rO(A:Nat) (q:Option Nat) (tags:List (Nat×Nat)):List (Nat×Nat):=
 match q with
 |some q=>(off,q)::tags.filter (λp=>p.1<off||off+A<=p.1)
 |none=>tags.filter (λp=>p.1<off||off+A<=p.1)
def stV(A off:Nat) (x:dH) (k:dH->Prop):SV->Prop
 | .dat a q=>jo a q=true/\a.cells.length=A/\off+A<=x.cells.length/\k ⟨setCells x.cells off a.cells,rO off A q x.tags⟩
 |_=>False
def stP(A:Nat) (bx:List (Nat×dH)) (v:Option SV) (k:List (Nat×dH)->Prop):SV->Prop
 | .ptr b off=>ax (dh b bx) λx=>ax v (stV A off x λy=>k (pn b y bx))
 |_=>False
theorem adX(v:bC) (A:Nat):bS C id (.st x v A) K ⟨sl,bx,lv,nx⟩=ax (bX ⟨sl,bx,lv,nx⟩ x) (stP A bx (bX ⟨sl,bx,lv,nx⟩ v) λb=>K .undef ⟨sl,b,lv,nx⟩):=by
 show ax _ _=ax _ _
 cases D:bX ⟨sl,bx,lv,nx⟩ x with
 |none=>rfl
 |some p=>cases p with
  |ptr b off=>
   show ax _ _=ax _ _
   cases E:dh b bx with
   |none=>rfl
   |some y=>
    show ax _ _=ax _ _
    cases B:bX ⟨sl,bx,lv,nx⟩ v with
    |none=>rfl
    |some u=>cases u with
     |dat a q=>cases q<;>rfl
     |_=>rfl
  |_=>rfl
theorem aaA(A b off:Nat) (v:Option SV) (k:List (Nat×dH)->Prop):stP A bx v k (.ptr b off)=ax (dh b bx) λx=>ax v (stV A off x λy=>k (pn b y bx)):=rfl
theorem aaB(A off:Nat) (cs:List AV) (B:List (Nat×Nat)) (k:dH->Prop) (a:AV) (q:Option Nat):stV A off ⟨cs,B⟩ k (.dat a q)=(jo a q=true/\a.cells.length=A/\off+A<=cs.length/\k ⟨setCells cs off a.cells,rO off A q B⟩):=rfl
theorem TQ(A:Nat):rO off A none []=[]:=rfl
theorem TR(A q:Nat):rO off A (some q) []=[(off,q)]:=rfl
def ZY(k:SV->Prop):SV->Prop
 | .ptr b o=>k (.ptr b (o+off))
 | .rp cs=>k (.rp (cs.drop off))
 | .pt 2 ps=>k (.pt 2 (ps.drop off))
 |_=>False
theorem adY:bS C id (.fa x off) K ⟨sl,bx,lv,nx⟩=ax (bX ⟨sl,bx,lv,nx⟩ x) (ZY off λv=>K v ⟨sl,bx,lv,nx⟩):=rfl
theorem aaC:ZY off k (.ptr b o)=k (.ptr b (o+off)):=rfl
theorem aaD:ZY off k (.rp cs)=k (.rp (cs.drop off)):=rfl
def iaP(d:Nat) (k:SV->Prop):SV->Prop
 | .ptr b o=>k (.ptr b (o+d))
 | .rp cs=>k (.rp (cs.drop d))
 |_=>False
theorem aaF(n z:Nat):bS C id (.Pd x i n z) K ⟨sl,bx,lv,nx⟩=ax (bX ⟨sl,bx,lv,nx⟩ x) λp=>ax (aM ⟨sl,bx,lv,nx⟩ i) λa=>ax (idxOf a) λi=>(0<=i/\i<n)/\iaP (i.toNat*z) (λv=>K v ⟨sl,bx,lv,nx⟩) p:=rfl
theorem aaG(d:Nat):iaP d k (.ptr b o)=k (.ptr b (o+d)):=rfl
theorem aaH(d:Nat):iaP d k (.rp cs)=k (.rp (cs.drop d)):=rfl
theorem aaI(k:IntKind) (i:Int):idxOf (.int k i)=some i:=rfl
def P9(A:Option AV) (z:Nat) (k:SV->Prop):SV->Prop
 | .dat l _=>ax A λa=>ax (idxOf a) λi=>ax (rowsOf l) λxs=>(0<=i/\i<xs.length)/\ax (xs[i.toNat]?) λrow=>row.length=z/\k (.rp row)
 | .vs b off n B=>ax A λa=>ax (idxOf a) λi=>(0<=i/\i<n)/\B=z/\k (.ptr b (off+i.toNat*z))
 |_=>False
theorem aaJ:bS C id (.S0 x i z) K ⟨sl,bx,lv,nx⟩=ax (bX ⟨sl,bx,lv,nx⟩ x) (P9 (aM ⟨sl,bx,lv,nx⟩ i) z λv=>K v ⟨sl,bx,lv,nx⟩):=by
 show ax _ _=ax _ _
 cases bX ⟨sl,bx,lv,nx⟩ x with
 |none=>rfl
 |some v=>cases v<;>rfl
theorem Xv(A:Option AV) (z:Nat) (k:SV->Prop) (l:AV) (q:Option Nat):P9 A z k (.dat l q)=ax A λa=>ax (idxOf a) λi=>ax (rowsOf l) λxs=>(0<=i/\i<xs.length)/\ax (xs[i.toNat]?) λrow=>row.length=z/\k (.rp row):=rfl
theorem Xw(B:Option AV) (z:Nat) (k:SV->Prop) (b off n A:Nat):P9 B z k (.vs b off n A)=ax B λa=>ax (idxOf a) λi=>(0<=i/\i<n)/\A=z/\k (.ptr b (off+i.toNat*z)):=rfl
@[congr] theorem adZ{B A:Option AV} (k:SV->Prop) {v D:SV} (h:B=A) (E:v=D):P9 B z k v=P9 A z k D:=by rw[h,E]
theorem Xx:rowsOf (.sl xs)=some xs:=rfl
theorem TS:rowsOf .bV=some []:=rfl
def Lq(k:List AV->Prop):AV->Prop
 | .agg cs=>k cs
 |_=>False
theorem aaK(k:List AV->Prop) (cs:List AV):Lq k (.agg cs)=k cs:=rfl
theorem aaL(A:Option Nat):bS C id (.He x off A) K ⟨sl,bx,lv,nx⟩=ax (aM ⟨sl,bx,lv,nx⟩ x) (Lq λcs=>ax (aF cs off A) λa=>K (.dat a none) ⟨sl,bx,lv,nx⟩):=rfl
theorem aaM(n z:Nat) (A:Option Nat):bS C id (.KO x i n z A) K ⟨sl,bx,lv,nx⟩=ax (aM ⟨sl,bx,lv,nx⟩ x) (Lq λcs=>ax (aM ⟨sl,bx,lv,nx⟩ i) λa=>ax (idxOf a) λi=>(0<=i/\i<n)/\ax (aF cs (i.toNat*z) A) λa=>K (.dat a none) ⟨sl,bx,lv,nx⟩):=rfl
theorem aaN(op:BinOp) (x y:bC):bS C id (.bin op x y) K ⟨sl,bx,lv,nx⟩=ax (aM ⟨sl,bx,lv,nx⟩ x) λa=>ax (aM ⟨sl,bx,lv,nx⟩ y) λb=>ax (eP op a b) λv=>K (.dat v none) ⟨sl,bx,lv,nx⟩:=rfl
theorem aaO(A:List CK) (neg:Bool) (x y:bC):bS C id (.eqc A neg x y) K ⟨sl,bx,lv,nx⟩=ax (aM ⟨sl,bx,lv,nx⟩ x) (Lq λas=>ax (aM ⟨sl,bx,lv,nx⟩ y) (Lq λB=>ax (cU A as B) λe=>K (.dat (.bool (e !=neg)) none) ⟨sl,bx,lv,nx⟩)):=rfl
theorem ad0(x y:bC):bS C id (.bb neg x y) K ⟨sl,bx,lv,nx⟩=ax (aM ⟨sl,bx,lv,nx⟩ x) λa=>ax (aM ⟨sl,bx,lv,nx⟩ y) λb=>ax (ZS neg a b) λv=>K (.dat v none) ⟨sl,bx,lv,nx⟩:=rfl
theorem ad1(op:UnOp) (x:bC):bS C id (.un op x) K ⟨sl,bx,lv,nx⟩=ax (aM ⟨sl,bx,lv,nx⟩ x) λa=>ax (WL op a) λv=>K (.dat v none) ⟨sl,bx,lv,nx⟩:=rfl
theorem Xy(k:IntKind) (x:bC):bS C id (.rm k x) K ⟨sl,bx,lv,nx⟩=ax (aM ⟨sl,bx,lv,nx⟩ x) λa=>ax (F6 k a) λv=>K (.dat v none) ⟨sl,bx,lv,nx⟩:=rfl
theorem Xz(k:FloatKind) (x:bC):bS C id (.Dw k x) K ⟨sl,bx,lv,nx⟩=ax (aM ⟨sl,bx,lv,nx⟩ x) λa=>ax (F7 k a) λv=>K (.dat v none) ⟨sl,bx,lv,nx⟩:=rfl
theorem XA(k:IntKind) (x:bC):bS C id (.Hf k x) K ⟨sl,bx,lv,nx⟩=ax (aM ⟨sl,bx,lv,nx⟩ x) λa=>ax (yQ k a) λv=>K (.dat v none) ⟨sl,bx,lv,nx⟩:=rfl
def N9:SV->Prop
 | .dat a _=>ax (yR a) λv=>k (.dat v none)
 | .vs _ _ n _=>k (.dat (.int .i64 n) none)
 |_=>False
theorem XB:bS C id (.KY x) K ⟨sl,bx,lv,nx⟩=ax (bX ⟨sl,bx,lv,nx⟩ x) (N9 λv=>K v ⟨sl,bx,lv,nx⟩):=by
 show ax _ _=ax _ _
 cases bX ⟨sl,bx,lv,nx⟩ x with
 |none=>rfl
 |some v=>cases v<;>rfl
theorem MR:N9 k (.dat a q)=ax (yR a) λv=>k (.dat v none):=rfl
theorem TT(n z:Nat):N9 k (.vs b o n z)=k (.dat (.int .i64 n) none):=rfl
@[congr] theorem ad2{v A:SV} (B:v=A):N9 k v=N9 k A:=by rw[B]
theorem ad3(e:Xt) (x:bC):bS C id (.xt e x) K ⟨sl,bx,lv,nx⟩=ax (aM ⟨sl,bx,lv,nx⟩ x) λa=>ax (ZT e a) λv=>K (.dat v none) ⟨sl,bx,lv,nx⟩:=rfl
theorem ad4:ZT .IJ (.float .f64 b)=some (.int .u64 b):=rfl
theorem ad5(n:Int):ZT .ffrom (.int .u64 n)=some (.float .f64 n.toNat):=rfl
theorem ad6:ZT .rte (.float .f64 b)=Hh b:=rfl
def XC(k:SV->S->Prop):SV->Prop
 | .rp cs=>n*z<=cs.length/\k (.dat (.sl (dA z n cs)) none) s
 | .ptr b off=>4<=b/\ax (dh b s.boxes) λbx=>n*z<=(bx.cells.drop off).length/\k (.dat (.sl (dA z n (bx.cells.drop off))) none) (iA [b] [bx.cells] s)
 |_=>False
theorem aaP:bS C id (.Wd x n z) K ⟨sl,bx,lv,nx⟩=ax (bX ⟨sl,bx,lv,nx⟩ x) (XC n z ⟨sl,bx,lv,nx⟩ K):=by
 show ax _ _=ax _ _
 cases bX ⟨sl,bx,lv,nx⟩ x with
 |none=>rfl
 |some v=>cases v<;>rfl
theorem XD(k:SV->S->Prop) (cs:List AV):XC n z s k (.rp cs)=(n*z<=cs.length/\k (.dat (.sl (dA z n cs)) none) s):=rfl
theorem XE(k:SV->S->Prop) (b off:Nat):XC n z ⟨sl,bx,lv,nx⟩ k (.ptr b off)=(4<=b/\ax (dh b bx) λy=>n*z<=(y.cells.drop off).length/\k (.dat (.sl (dA z n (y.cells.drop off))) none) (iA [b] [y.cells] ⟨sl,bx,lv,nx⟩)):=rfl
def aaQ(i:bC) (k:AV->Prop):AV->Prop
 | .str b=>ax (aM s i) λa=>ax (idxOf a) λj=>ax (Mp b j) k
 |_=>False
theorem aaR:bS C id (.ixB x i) K ⟨sl,bx,lv,nx⟩=ax (aM ⟨sl,bx,lv,nx⟩ x) (aaQ ⟨sl,bx,lv,nx⟩ i λv=>K (.dat v none) ⟨sl,bx,lv,nx⟩):=by
 show ax _ _=ax _ _
 cases aM ⟨sl,bx,lv,nx⟩ x with
 |none=>rfl
 |some v=>cases v<;>rfl
theorem XF(i:bC) (k:AV->Prop) (b:ByteArray):aaQ s i k (.str b)=ax (aM s i) λa=>ax (idxOf a) λj=>ax (Mp b j) k:=rfl
theorem XG:bS C id (.KZ n) K ⟨sl,bx,lv,nx⟩=K (.dat (.int .i64 n) none) ⟨sl,bx,lv,nx⟩:=rfl
theorem XH:bS C id (.call f args) K ⟨sl,bx,lv,nx⟩=ax (eS ⟨sl,bx,lv,nx⟩ args) λas=>Cg C f as id lv λv l=>K v ⟨sl,bx,l,nx⟩:=rfl
def HC(C:aY) (id:Nat) (lv:List (Nat×Nat)) (as:List AV) (k:SV->List (Nat×Nat)->Prop):AV->Prop
 | .fn (.func f) first caps=>Cg C f (first++as++caps) id lv k
 |_=>False
@[congr] theorem aaS(lv:List (Nat×Nat)) (as:List AV) (k:SV->List (Nat×Nat)->Prop) {v A:AV} (h:v=A):HC C id lv as k v=HC C id lv as k A:=by rw[h]
def Gv:Option SV->Option (List (Option AV)×List Nat)->Option (List (Option AV)×List Nat)
 |some (.dat a _),some p=>some (some a::p.1,p.2)
 |some (.rp cs),some p=>some (some (.ref cs)::p.1,p.2)
 |some (.ptr b 0),some p=>some (none::p.1,b::p.2)
 |some (.pt 0 [(b,0)]),some p=>bif h then some (some .hole::p.1,b::p.2)else none
 |_,_=>none
theorem Qa:Gv h (some (.dat a q)) (some p)=some (some a::p.1,p.2):=rfl
theorem Qb:Gv h (some (.rp cs)) (some p)=some (some (.ref cs)::p.1,p.2):=rfl
theorem Qc(b:Nat) (p:List (Option AV)×List Nat):Gv h (some (.ptr b 0)) (some p)=some (none::p.1,b::p.2):=rfl
theorem XI:eV h ⟨sl,bx,lv,nx⟩ []=some ([],[]):=rfl
theorem aaT(x:bC) (r:List bC):eV h ⟨sl,bx,lv,nx⟩ (x::r)=Gv h (bX ⟨sl,bx,lv,nx⟩ x) (eV h ⟨sl,bx,lv,nx⟩ r):=by
 rw[eV];unfold Gv
 cases bX ⟨sl,bx,lv,nx⟩ x with
 |none=>rfl
 |some v=>
  cases eV h ⟨sl,bx,lv,nx⟩ r with
  |none=>cases v with
   |ptr b o=>cases o<;>rfl
   |pt k ps=>match k,ps with
    |0,[(b,0)]=>rfl
    |0,[(b,o+1)]=>rfl
    |0,[]=>rfl
    |0,(_,0)::_::_=>rfl
    |0,(_,o+1)::_::_=>rfl
    |k+1,_=>rfl
   |_=>rfl
  |some p=>
   obtain⟨as,A⟩:=p
   cases v with
   |ptr b o=>cases o<;>rfl
   |pt k ps=>match k,ps with
    |0,[(b,0)]=>rfl
    |0,[(b,o+1)]=>rfl
    |0,[]=>rfl
    |0,(_,0)::_::_=>rfl
    |0,(_,o+1)::_::_=>rfl
    |k+1,_=>rfl
   |_=>rfl
theorem Qd:bh bx []=some []:=rfl
def Wq:Option dH->Option (List (List AV))->Option (List (List AV))
 |some x,some css=>some (x.cells::css)
 |_,_=>none
theorem TU(x:dH) (css:List (List AV)):Wq (some x) (some css)=some (x.cells::css):=rfl
theorem TV(A:List Nat):bh bx (b::A)=Wq (dh b bx) (bh bx A):=rfl
theorem Qe:dY []=true:=rfl
theorem TW(A:List Nat):dY (b::A)=(!A.contains b&&dY A):=rfl
theorem TX(A:List Nat) (cs:List AV) (css:List (List AV)):eG (b::A) (cs::css) bx=eG A css (pn b ⟨cs,[]⟩ bx):=rfl
theorem Oa:eY bx []=some []:=rfl
theorem Qf(A:List Nat):eY bx (b::A)=MQ (dh b bx) (eY bx A):=rfl
theorem Ob:MQ (some ⟨cs,[]⟩) (some css)=some (cs::css):=rfl
theorem Qg:eG [] css bx=bx:=rfl
def HD(C:aY) (f id:Nat) (bx:List (Nat×dH)) (lv:List (Nat×Nat)) (k:SV->List (Nat×dH)->List (Nat×Nat)->Prop) (p:List (Option AV)×List Nat):Prop:=
 dY p.2=true/\ax (bh bx p.2) λcss=>Ec C f css p.1 p.2 id bx lv k
theorem Qh(id:Nat) (as:List (Option AV)) (ids:List Nat) (k:SV->List (Nat×dH)->List (Nat×Nat)->Prop):HD C f id bx lv k (as,ids)=(dY ids=true/\ax (bh bx ids) λcss=>Ec C f css as ids id bx lv k):=rfl
def Qi(C:aY) (f:Nat) (bx:List (Nat×dH)) (k:SV->List (Nat×dH)->Prop) (p:List (Option AV)×List Nat):Prop:=
 dY p.2=true/\ax (bh bx p.2) λcss=>HB C f css p.1 λv A=>k (.dat v none) (eG p.2 A bx)
theorem Qj(k:SV->List (Nat×dH)->Prop):Qi C f bx k (as,ids)=(dY ids=true/\ax (bh bx ids) λcss=>HB C f css as λv A=>k (.dat v none) (eG ids A bx)):=rfl
theorem TY:bS C id (.wA f args) K ⟨sl,bx,lv,nx⟩=ax (eV true ⟨sl,bx,lv,nx⟩ args) (Qi C f bx λv b=>K v ⟨sl,b,lv,nx⟩):=rfl
theorem TZ:bS C id (.eo f args) K ⟨sl,bx,lv,nx⟩=ax (eV true ⟨sl,bx,lv,nx⟩ args) (HD C f id bx lv λv b l=>K v ⟨sl,b,l,nx⟩):=rfl
theorem T6:bS C id (.kN g args) K ⟨sl,bx,lv,nx⟩=ax (aM ⟨sl,bx,lv,nx⟩ g) λa=>ax (eS ⟨sl,bx,lv,nx⟩ args) λas=>HC C id lv as (λv l=>K v ⟨sl,bx,l,nx⟩) a:=by
 show ax _ _=ax _ _
 cases B:aM ⟨sl,bx,lv,nx⟩ g with
 |none=>rfl
 |some a=>
  show(match a with| .fn (.func f) first caps=>_|_=>False)=_
  cases A:eS ⟨sl,bx,lv,nx⟩ args with
  |none=>cases a<;>first|rfl|(rename_i f _ _;cases f<;>rfl)
  |some as=>cases a<;>first|rfl|(rename_i f _ _;cases f<;>rfl)
theorem Qk(as first caps:List AV) (k:SV->List (Nat×Nat)->Prop):HC C id lv as k (.fn (.func f) first caps)=Cg C f (first++as++caps) id lv k:=rfl
def De(C:aY) (id:Nat) (bx:List (Nat×dH)) (lv:List (Nat×Nat)) (p:List (Option AV)×List Nat) (k:SV->List (Nat×dH)->List (Nat×Nat)->Prop):AV->Prop
 | .fn (.func f) [] []=>HD C f id bx lv k p
 |_=>False
@[congr] theorem ZZ(bx:List (Nat×dH)) (lv:List (Nat×Nat)) {p B:List (Option AV)×List Nat} (k:SV->List (Nat×dH)->List (Nat×Nat)->Prop) {v A:AV} (D:p=B) (h:v=A):De C id bx lv p k v=De C id bx lv B k A:=by rw[h,D]
theorem Ql:bS C id (.gU g args) K ⟨sl,bx,lv,nx⟩=ax (aM ⟨sl,bx,lv,nx⟩ g) λa=>ax (eV true ⟨sl,bx,lv,nx⟩ args) λp=>De C id bx lv p (λv b l=>K v ⟨sl,b,l,nx⟩) a:=by
 show ax _ _=ax _ _
 cases B:aM ⟨sl,bx,lv,nx⟩ g with
 |none=>rfl
 |some a=>
  show(match a with| .fn (.func f) [] []=>_|_=>False)=_
  cases A:eV true ⟨sl,bx,lv,nx⟩ args with
  |none=>cases a<;>first|rfl|(rename_i f x y;cases f<;>first|rfl|(cases x<;>first|rfl|(cases y<;>rfl)))
  |some as=>cases a<;>first|rfl|(rename_i f x y;cases f<;>first|rfl|(cases x<;>first|rfl|(cases y<;>rfl)))
def HE(C:aY) (f:Nat) (bx:List (Nat×dH)) (k:SV->Prop) (p:List (Option AV)×List Nat):Prop:=
 dY p.2=true/\ax (eY bx p.2) λcss=>HA C f css p.1 k
theorem T7:bS C id (.Dx f args) K ⟨sl,bx,lv,nx⟩=ax (eV true ⟨sl,bx,lv,nx⟩ args) (HE C f bx λv=>K v ⟨sl,bx,lv,nx⟩):=rfl
theorem Qm(k:SV->Prop):HE C f bx k (as,ids)=(dY ids=true/\ax (eY bx ids) λcss=>HA C f css as k):=rfl
def Df(C:aY) (bx:List (Nat×dH)) (p:List (Option AV)×List Nat) (k:SV->Prop):AV->Prop
 | .fn (.func f) [] []=>HE C f bx k p
 |_=>False
@[congr] theorem Z0 (bx:List (Nat×dH)) {p B:List (Option AV)×List Nat} (k:SV->Prop) {v A:AV} (D:p=B) (h:v=A):Df C bx p k v=Df C bx B k A:=by rw[h,D]
theorem Qn:bS C id (.tJ g args) K ⟨sl,bx,lv,nx⟩=ax (aM ⟨sl,bx,lv,nx⟩ g) λa=>ax (eV true ⟨sl,bx,lv,nx⟩ args) λp=>Df C bx p (λv=>K v ⟨sl,bx,lv,nx⟩) a:=by
 show ax _ _=ax _ _
 cases B:aM ⟨sl,bx,lv,nx⟩ g with
 |none=>rfl
 |some a=>
  show(match a with| .fn (.func f) [] []=>_|_=>False)=_
  cases A:eV true ⟨sl,bx,lv,nx⟩ args with
  |none=>cases a<;>first|rfl|(rename_i f x y;cases f<;>first|rfl|(cases x<;>first|rfl|(cases y<;>rfl)))
  |some as=>cases a<;>first|rfl|(rename_i f x y;cases f<;>first|rfl|(cases x<;>first|rfl|(cases y<;>rfl)))
theorem Oc(k:SV->Prop):Df C bx p k (.fn (.func f) [] [])=HE C f bx k p:=rfl
theorem Od(k:SV->List (Nat×dH)->List (Nat×Nat)->Prop):De C id bx lv p k (.fn (.func f) [] [])=HD C f id bx lv k p:=rfl
theorem aaU(x:bC):bS C id (.WE neg x) K ⟨sl,bx,lv,nx⟩=ax (aM ⟨sl,bx,lv,nx⟩ x) λa=>ax (IL neg a) λv=>K (.dat (.bool v) none) ⟨sl,bx,lv,nx⟩:=rfl
theorem aaV(i:Nat):bS C id (.ext x i) K ⟨sl,bx,lv,nx⟩=ax (aM ⟨sl,bx,lv,nx⟩ x) λa=>ax (Po a i) λv=>K (.dat v none) ⟨sl,bx,lv,nx⟩:=rfl
theorem XJ(A o:Nat):kM b cs (.ptr A o)=bif A==b then .rp (cs.drop o)else .ptr A o:=rfl
theorem XK(a:AV) (q:Option Nat):kM b cs (.dat a q)=.dat a q:=rfl
theorem XL(A:List AV):kM b cs (.rp A)=.rp A:=rfl
theorem XM:kM b cs .undef=.undef:=rfl
theorem XN(A o n z:Nat):kM b cs (.vs A o n z)=bif A==b&&decide (n*z<=(cs.drop o).length)then .dat (.sl (dA z n (cs.drop o))) none else .vs A o n z:=rfl
theorem T8:DD b cs []=[]:=rfl
theorem XP(t:Nat) (v:SV) (r:List (Nat×SV)):DD b cs ((t,v)::r)=(t,kM b cs v)::DD b cs r:=rfl
theorem T9:mH n []=[]:=rfl
theorem XQ(v:dH) (r:List (Nat×dH)):mH n ((m,v)::r)=bif n==m then mH n r else(m,v)::mH n r:=rfl
theorem Ua:iA [] css s=s:=rfl
theorem XR(A:List Nat) (cs:List AV) (css:List (List AV)):iA (b::A) (cs::css) ⟨sl,bx,lv,nx⟩=iA A css ⟨DD b cs sl,mH b bx,lv,nx⟩:=rfl
theorem Qo:j8 [] css=[]:=by cases css<;>rfl
theorem Qp:j8 (some a::as) css=a::j8 as css:=by cases css<;>rfl
theorem Qq:j8 (none::as) (cs::css)=.ref cs::j8 as css:=rfl
theorem XS:jl []=true:=rfl
theorem aaW(A:List Nat):jl (b::A)=(decide (4<=b)&&jl A):=rfl
def aaX(as:List AV) (s:S) (k:SV->S->Prop) (p:List (Option AV)×List Nat):Prop:=
 (dY p.2&&jl p.2)=true/\ax (bh s.boxes p.2) λcss=>k (.dat (.fn fn as (j8 p.1 css)) none) (iA p.2 css s)
theorem XT(as:List AV) (k:SV->S->Prop) (ps:List (Option AV)) (ids:List Nat):aaX fn as ⟨sl,bx,lv,nx⟩ k (ps,ids)=((dY ids&&jl ids)=true/\ax (bh bx ids) λcss=>k (.dat (.fn fn as (j8 ps css)) none) (iA ids css ⟨sl,bx,lv,nx⟩)):=rfl
theorem aaY(a b:List bC):bS C id (.A5 fn a b) K ⟨sl,bx,lv,nx⟩=ax (eS ⟨sl,bx,lv,nx⟩ a) λas=>ax (eV false ⟨sl,bx,lv,nx⟩ b) (aaX fn as ⟨sl,bx,lv,nx⟩ K):=rfl
def mmP(k:AV->Prop):List AV->Prop
 |[]=>False
 |a::r=>ax (r.foldlM (We mx) a) k
theorem ad7:bS C id (.mm mx args) K ⟨sl,bx,lv,nx⟩=ax (eS ⟨sl,bx,lv,nx⟩ args) (mmP mx λv=>K (.dat v none) ⟨sl,bx,lv,nx⟩):=by
 show ax _ _=ax _ _
 cases eS ⟨sl,bx,lv,nx⟩ args with
 |none=>rfl
 |some l=>cases l<;>rfl
theorem aa0(k:AV->Prop) (a b:AV):mmP mx k [a,b]=ax (We mx a b) k:=by simp[mmP]
theorem aa1(A:IntKind) (x y:Int):We true (.int A x) (.int A y)=some (.int A (if y>x then y else x)):=rfl
theorem XU(A:IntKind) (x y:Int):We false (.int A x) (.int A y)=some (.int A (if y<x then y else x)):=rfl
theorem Ub(zs:List AV) (parts:List (Nat×Nat×bC)):bS C id (.build zs parts) K ⟨sl,bx,lv,nx⟩=ax (jk ⟨sl,bx,lv,nx⟩ parts) λps=>K (.dat (.agg (nG zs ps)) none) ⟨sl,bx,lv,nx⟩:=rfl
def wG(A:Nat):Option AV->Option (List (Nat×List AV))->Option (List (Nat×List AV))
 |some a,some ps=>if a.cells.length=A/\jo a none=true then some ((off,a.cells)::ps)else none
 |_,_=>none
theorem Qr(A:Nat) (x:bC) (r:List (Nat×Nat×bC)):jk ⟨sl,bx,lv,nx⟩ ((off,A,x)::r)=wG off A (aM ⟨sl,bx,lv,nx⟩ x) (jk ⟨sl,bx,lv,nx⟩ r):=rfl
theorem Oe:jk ⟨sl,bx,lv,nx⟩ []=some []:=rfl
theorem HF(A:Nat) (a:AV) (ps:List (Nat×List AV)) (h:a.cells.length=A) (B:jo a none=true):wG off A (some a) (some ps)=some ((off,a.cells)::ps):=by simp[wG,h,B]
theorem aa2(e z:Nat) (xs:List bC):bS C id (.SP e z xs) K ⟨sl,bx,lv,nx⟩=ax (mS ⟨sl,bx,lv,nx⟩ z xs) λrows=>K (.dat (.sl rows) (some id)) ⟨sl,bx,(id,e)::lv,nx⟩:=rfl
def XV:Option AV->Option (List (List AV))->Option (List (List AV))
 |some a,some rows=>if a.cells.length=z/\jo a none=true then some (a.cells::rows)else none
 |_,_=>none
theorem Uc(x:bC) (r:List bC):mS ⟨sl,bx,lv,nx⟩ z (x::r)=XV z (aM ⟨sl,bx,lv,nx⟩ x) (mS ⟨sl,bx,lv,nx⟩ z r):=rfl
theorem Qs:mS ⟨sl,bx,lv,nx⟩ z []=some []:=rfl
theorem XW(a:AV) (rows:List (List AV)) (h:a.cells.length=z) (A:jo a none=true):XV z (some a) (some rows)=some (a.cells::rows):=by simp[XV,h,A]
theorem aa3(e z bytes:Nat) (x y:bC):bS C id (.app e z bytes x y) K ⟨sl,bx,lv,nx⟩=ax (bX ⟨sl,bx,lv,nx⟩ x) fun
   | .dat a q=>ax (rowsOf a) λxs=>ax (aM ⟨sl,bx,lv,nx⟩ y) λb=>ax (rowsOf b) λA=>
     (xs.length+A.length)*bytes<=140737488355328/\(∀r∈xs,r.length=z)/\(∀r∈A,r.length=z)/\
     (match a,q with
      | .bV,_=>if A=[]then K (.dat .bV none) ⟨sl,bx,lv,nx⟩else K (.dat (.sl (xs++A)) (some id)) ⟨sl,bx,(id,e)::lv,nx⟩
      | .sl _,some q=>fq q lv=some e/\K (.dat (.sl (xs++A)) (some id)) ⟨sl,bx,(id,e)::nH q lv,nx⟩
      |_,_=>False)
   |_=>False:=rfl
theorem aa4(x:bC) (lo A:Option bC):bS C id (.Wc z x lo A) K ⟨sl,bx,lv,nx⟩=ax (aM ⟨sl,bx,lv,nx⟩ x) λa=>ax (rowsOf a) λxs=>ax (DB ⟨sl,bx,lv,nx⟩ lo) λl=>ax (DC ⟨sl,bx,lv,nx⟩ xs A) λh=>(0<=l/\l<=h/\h<=xs.length)/\(∀r∈xs,r.length=z)/\K (.dat (Pp a xs l h) none) ⟨sl,bx,lv,nx⟩:=rfl
theorem Ud:DB ⟨sl,bx,lv,nx⟩ none=some 0:=rfl
theorem XX:DB ⟨sl,bx,lv,nx⟩ (some x)=Ba (aM ⟨sl,bx,lv,nx⟩ x):=by cases h:aM ⟨sl,bx,lv,nx⟩ x<;>simp[DB,Ba,h]
theorem Ue:DC ⟨sl,bx,lv,nx⟩ xs none=some (xs.length:Int):=rfl
theorem XY(x:bC):DC ⟨sl,bx,lv,nx⟩ xs (some x)=Ba (aM ⟨sl,bx,lv,nx⟩ x):=by cases h:aM ⟨sl,bx,lv,nx⟩ x<;>simp[DC,Ba,h]
theorem XZ(k:IntKind) (i:Int):Ba (some (.int k i))=some i:=rfl
theorem aa5(A:List (List AV)) (l h:Int):Pp (.sl A) xs l h=.sl ((xs.take h.toNat).drop l.toNat):=rfl
theorem X0(l h:Int):Pp .bV xs l h=.bV:=rfl
def Z1:SV->Prop
 | .ptr b o=>k (.ptr b o)
 | .rp cs=>k (.rp cs)
 | .dat (.fn (.func f) as A) q=>k (.dat (.fn (.func f) as A) q)
 | .dat (.ref cs) _=>k (.rp cs)
 |_=>False
theorem ad8:bS C id (.nc x) K ⟨sl,bx,lv,nx⟩=ax (bX ⟨sl,bx,lv,nx⟩ x) (Z1 λv=>K v ⟨sl,bx,lv,nx⟩):=by
 show ax _ _=ax _ _
 cases bX ⟨sl,bx,lv,nx⟩ x with
 |none=>rfl
 |some v=>cases v with
  |dat a q=>cases a<;>first|rfl|(rename_i f _ _;cases f<;>rfl)
  |_=>rfl
theorem aa6:Z1 k (.ptr b o)=k (.ptr b o):=rfl
theorem aa7:Z1 k (.dat (.ref cs) q)=k (.rp cs):=rfl
theorem aa8:Z1 k (.rp cs)=k (.rp cs):=rfl
theorem X1:aw C .skip Q ⟨sl,bx,lv,nx⟩=Q .normal ⟨sl,bx,lv,nx⟩:=rfl
def Lr(k:S->Prop) (n:Nat):S->Prop:=λs=>k {s with nx:=n}
theorem aa9:aw C (.Mo ops) Q ⟨sl,bx,lv,nx⟩=j6 C nx 0 ops (Lr (Q .normal) (nx+ops.length)) ⟨sl,bx,lv,nx⟩:=rfl
def Uf:Prop:=∃ids,(dY ids&&jl ids)=true/\ax (bh s.boxes ids) λcss=>∃ro,yW (oD ro 0 ops) dc (iA ids css s).nx (iA ids css s).slots=true/\F (oD ro 0 ops) (iA ids css s)
class KF where
 k:List CO->S->Prop
def dg(ops:List CO) (dc:List (Nat×Nat)) (s:S) [k:KF]:Prop:=Uf ops dc s k.k
theorem ad9:Uf ops dc s F=@dg ops dc s ⟨F⟩:=rfl
theorem mT{ops:List CO} {dc:List (Nat×Nat)} {s:S} {F:List CO->S->Prop} (h:yW ops dc s.nx s.slots=true) (hk:F ops s):@dg ops dc s ⟨F⟩:=⟨[],rfl,[],by rw[yV];exact h,by rw[yV];exact hk⟩
theorem jS{ops:List CO} {dc:List (Nat×Nat)} {s:S} {F:List CO->S->Prop} (h:yW (oD ro 0 ops) dc s.nx s.slots=true) (hk:F (oD ro 0 ops) s):@dg ops dc s ⟨F⟩:=⟨[],rfl,ro,h,hk⟩
theorem Ls{ops:List CO} {dc:List (Nat×Nat)} {s:S} {F:List CO->S->Prop} {css:List (List AV)} (B:(dY ids&&jl ids)=true) (A:bh s.boxes ids=some css) (h:yW (oD ro 0 ops) dc (iA ids css s).nx (iA ids css s).slots=true) (hk:F (oD ro 0 ops) (iA ids css s)):@dg ops dc s ⟨F⟩:=⟨ids,B,by rw[A];exact⟨ro,h,hk⟩⟩
def Z2(C:aY) (nx:Nat) (K:S->Prop) (ops:List CO) (s:S):Prop:=j6 C nx 0 ops K s
theorem aba(nx:Nat) (K:S->Prop) (o:CO) (ops:List CO):Z2 C nx K (o::ops) ⟨sl,bx,lv,nx⟩=j6 C nx 0 (o::ops) K ⟨sl,bx,lv,nx⟩:=rfl
theorem Qt:aw C (.Dy ops dc) Q ⟨sl,bx,lv,nx⟩=Uf ops dc ⟨sl,bx,lv,nx⟩ (Z2 C nx (Lr (Q .normal) (nx+ops.length))):=by
 show(∃ids,_/\ax _ _)=(∃ids,_/\ax _ _)
 congr 1;funext ids;congr 2;funext css
 show Pz _ _ _ _ _=_
 unfold Pz Z2;simp only[yT];rfl
def pgG(k:Nat) (A:List Nat) (s:S) (F G:List CO->S->Prop):Prop:=Uf ops dc s F\/(yW (oE k A 0 ops) dc s.nx s.slots=true/\G (oE k A 0 ops) s)
class KG where
 k:List CO->S->Prop
 q:List CO->S->Prop
def pg(ops:List CO) (dc:List (Nat×Nat)) (k:Nat) (A:List Nat) (s:S) [h:KG]:Prop:=pgG ops dc k A s h.k h.q
theorem aeb(k:Nat) (A:List Nat) (s:S) (F G:List CO->S->Prop):pgG ops dc k A s F G=@pg ops dc k A s ⟨F,G⟩:=rfl
def Qu:Option SV->Option AV
 |some (.dat p none)=>some p
 |_=>none
theorem X2(p:AV):Qu (some (.dat p none))=some p:=rfl
def X3:Prop:=ax d λd=>ax (Qu (lk d s.slots)) λp=>X p (Bc ds s)
theorem X4:X3 d ds X ⟨sl,bx,lv,nx⟩=ax d λd=>ax (Qu (lk d sl)) λp=>X p ⟨oF ds sl,bx,lv,nx⟩:=rfl
theorem X5(k:Nat) (B:List Nat):aw C (.K0 ops dc k B) Q ⟨sl,bx,lv,nx⟩=pgG ops dc k B ⟨sl,bx,lv,nx⟩ (Z2 C nx (Lr (Q .normal) (nx+ops.length))) (Z2 C nx (X3 (pD k ops) (TD ops) λp=>Lr (Q (.panic (j7 p))) (nx+ops.length))):=by
 show(_\/_)=(_\/_)
 congr 1
 ·exact Qt sl bx lv nx ops dc
 ·unfold WS Z2
  congr 1
  rw[Lp,Wo]
  congr 1
  funext s
  unfold X3
  apply propext
  constructor
  ·rintro⟨d,p,E,D,L⟩
   rw[E]
   show ax (Qu (lk d s.slots)) _
   rw[D];exact L
  ·intro h
   cases hd:pD k ops with
   |none=>rw[hd]at h;exact h.elim
   |some d=>
    rw[hd]at h
    have h:ax (Qu (lk d s.slots)) _:=h
    cases A:lk d s.slots with
    |none=>rw[A]at h;exact h.elim
    |some v=>cases v with
     |dat p q=>cases q with
      |none=>rw[A]at h;exact⟨d,p,rfl,A,h⟩
      |some _=>rw[A]at h;exact h.elim
     |_=>rw[A]at h;exact h.elim
theorem X6(k:S->Prop) (n:Nat):Lr k n ⟨sl,bx,lv,nx⟩=k ⟨sl,bx,lv,n⟩:=rfl
theorem abb(a b:br):aw C (.seq a b) Q ⟨sl,bx,lv,nx⟩=aw C a (kO (aw C b Q) Q) ⟨sl,bx,lv,nx⟩:=rfl
theorem Qv(a b:br):aw C (.join a b) Q ⟨sl,bx,lv,nx⟩=aw C a (kO (down (aw C b Q)) Q) ⟨sl,bx,lv,nx⟩:=rfl
def wH(a b:Prop):AV->Prop
 | .bool t=>(t=true->a)/\(t=false->b)
 |_=>False
theorem X7(a b:br):aw C (.cond c a b) Q ⟨sl,bx,lv,nx⟩=ax (aM ⟨sl,bx,lv,nx⟩ c) (wH (aw C a Q ⟨sl,bx,lv,nx⟩) (aw C b Q ⟨sl,bx,lv,nx⟩)):=rfl
def abc(a:Option AV) (k:SV->Prop):SV->Prop
 | .ptr b off=>ax a λa=>ax (idxOf a) λh=>(0<=h/\h<=n)/\k (.vs b off h.toNat z)
 |_=>False
theorem abd(A:bC):bS C id (.WG x n z A) K ⟨sl,bx,lv,nx⟩=ax (bX ⟨sl,bx,lv,nx⟩ x) (abc n z (aM ⟨sl,bx,lv,nx⟩ A) λv=>K v ⟨sl,bx,lv,nx⟩):=by
 show ax _ _=ax _ _
 cases bX ⟨sl,bx,lv,nx⟩ x with
 |none=>rfl
 |some v=>cases v<;>rfl
theorem X8(a:Option AV) (k:SV->Prop) (b off:Nat):abc n z a k (.ptr b off)=ax a λa=>ax (idxOf a) λh=>(0<=h/\h<=n)/\k (.vs b off h.toNat z):=rfl
theorem X9:ZY off k (.pt 2 ps)=k (.pt 2 (ps.drop off)):=rfl
theorem Qw:Gv true (some (.pt 0 [(b,0)])) (some p)=some (some .hole::p.1,b::p.2):=rfl
def Lt:Option Nat->List (Nat×Nat)->Prop
 |none,(b,o)::_=>k (.ptr b o)
 |some n,ps=>n<=ps.length/\k (.pt 0 (ps.take n))
 |_,_=>False
def Ug(k:SV->Prop):SV->Prop
 | .pt 2 ps=>Lt k A ps
 |_=>False
theorem abe:bS C id (.S1 x A) K ⟨sl,bx,lv,nx⟩=ax (bX ⟨sl,bx,lv,nx⟩ x) (Ug A λv=>K v ⟨sl,bx,lv,nx⟩):=by
 show ax _ _=ax _ _
 cases bX ⟨sl,bx,lv,nx⟩ x with
 |none=>rfl
 |some v=>cases v with
  |pt k ps=>match k,A,ps with
   |2,none,(_,_)::_=>rfl
   |2,none,[]=>rfl
   |2,some _,[]=>rfl
   |2,some _,_::_=>rfl
   |0,_,_=>rfl
   |1,_,_=>rfl
   |k+3,_,_=>rfl
  |_=>rfl
theorem Ya(k:SV->Prop) (ps:List (Nat×Nat)):Ug A k (.pt 2 ps)=Lt k A ps:=rfl
theorem Yb:Lt k none ((b,o)::ps)=k (.ptr b o):=rfl
theorem Yc:Lt k (some 1) ((b,o)::ps)=k (.pt 0 [(b,o)]):=by simp[Lt]
@[congr] theorem aec (B:Option Nat) (k:SV->Prop) {v A:SV} (h:v=A):Ug B k v=Ug B k A:=by rw[h]
@[congr] theorem aed(B:Option Nat) {v A:List (Nat×Nat)} (h:v=A):Lt k B v=Lt k B A:=by rw[h]
theorem Yd(k:Nat) (ps:List (Nat×Nat)):kM b cs (.pt k ps)=.pt k ps:=rfl
end
section
variable (id e z l:Nat) (k:S->Prop) (a:Prop) (bytes:Nat) (b:Prop) (c:br) (s:S)
def MS:AV->Prop
 | .bool t=>(t=true->a)/\(t=false->b)
 |_=>False
def Qx(K:SV->S->Prop) (b off n A:Nat):SV->Prop
 | .ptr B _=>(B=b/\A=z)/\ax (dh b s.boxes) λy=>(n*z<=(y.cells.drop off).length/\n*bytes<=140737488355328)/\
   MS (K (.dat .bV none) s) (K (.dat (.sl (dA z n (y.cells.drop off))) (some id)) {s with live:=(id,e)::s.live}) (.bool (n==0))
 |_=>False
def Ws(K:SV->S->Prop) (x:Option SV):SV->Prop
 | .vs b off n A=>ax x (Qx id e z bytes s K b off n A)
 |_=>False
theorem Qy(n:Nat):MS a b (.bool (n==0))=(if n=0 then a else b):=by
 by_cases h:n=0
 ·subst h;simp[MS]
 ·simp[MS,h]
theorem Ye(y x:bC):bS C id (.FQ e z bytes y x) K ⟨sl,bx,lv,nx⟩=ax (bX ⟨sl,bx,lv,nx⟩ y) (Ws id e z bytes ⟨sl,bx,lv,nx⟩ K (bX ⟨sl,bx,lv,nx⟩ x)):=by
 show ax _ _=ax _ _
 cases bX ⟨sl,bx,lv,nx⟩ y with
 |none=>rfl
 |some v=>
  cases v<;>try rfl
  show ax _ _=ax _ _
  cases bX ⟨sl,bx,lv,nx⟩ x with
  |none=>rfl
  |some u=>
   cases u<;>try rfl
   show(_/\ax _ _)=(_/\ax _ _)
   congr 2
   funext y
   rw[Qy]
theorem Uh(K:SV->S->Prop) (x:Option SV) (b off n A:Nat):Ws id e z bytes ⟨sl,bx,lv,nx⟩ K x (.vs b off n A)=ax x (Qx id e z bytes ⟨sl,bx,lv,nx⟩ K b off n A):=rfl
theorem Ui(K:SV->S->Prop) (b off n A B o:Nat):Qx id e z bytes ⟨sl,bx,lv,nx⟩ K b off n A (.ptr B o)=((B=b/\A=z)/\ax (dh b bx) λy=>(n*z<=(y.cells.drop off).length/\n*bytes<=140737488355328)/\
   wH (K (.dat .bV none) ⟨sl,bx,lv,nx⟩) (K (.dat (.sl (dA z n (y.cells.drop off))) (some id)) ⟨sl,bx,(id,e)::lv,nx⟩) (.bool (n==0))):=rfl
def cd(c:AV) [k:KP]:Prop:=wH k.yes k.no c
theorem Ee(c:AV):wH a b c=@cd c ⟨a,b⟩:=rfl
theorem Uj:@cd (.bool true) ⟨a,b⟩=a:=by simp[cd,wH]
theorem Uk:@cd (.bool false) ⟨a,b⟩=b:=by simp[cd,wH]
theorem Ul:aw C (.block id c) Q ⟨sl,bx,lv,nx⟩=aw C c (jH id Q) ⟨sl,bx,lv,nx⟩:=rfl
theorem Yf:aw C (.exit id) Q ⟨sl,bx,lv,nx⟩=Q (.exit id) ⟨sl,bx,lv,nx⟩:=rfl
theorem abf:aw C .ret Q ⟨sl,bx,lv,nx⟩=Q .ret ⟨sl,bx,lv,nx⟩:=rfl
theorem Um(r:br):aw C (.scope l c r) Q ⟨sl,bx,lv,nx⟩=aw C c (tP l (aw C r (IS Q)) Q) ⟨sl,bx,lv,nx⟩:=rfl
theorem Un:aw C (.label l) Q ⟨sl,bx,lv,nx⟩=Q .normal ⟨sl,bx,lv,nx⟩:=rfl
theorem Yg:aw C (.goto l) Q ⟨sl,bx,lv,nx⟩=Q (.goto l) ⟨sl,bx,lv,nx⟩:=rfl
theorem Uo(l:Nat):kO k Q (.goto l) s=Q (.goto l) s:=rfl
theorem Yh(l:Nat):jH id Q (.goto l) s=Q (.goto l) s:=rfl
theorem abg:tP l k Q .normal s=Q .normal s:=rfl
theorem abh:tP l k Q .ret s=Q .ret s:=rfl
theorem abi(id:Nat):tP l k Q (.exit id) s=Q (.exit id) s:=rfl
theorem abj(A:Nat):tP l k Q (.goto A) s=(A=l/\k s):=rfl
theorem abk:IS Q .normal s=Q .normal s:=rfl
theorem abl:IS Q .ret s=Q .ret s:=rfl
theorem abm(id:Nat):IS Q (.exit id) s=Q (.exit id) s:=rfl
theorem Up:kO k Q .normal s=k s:=rfl
theorem Ur:kO k Q .ret s=Q .ret s:=rfl
theorem Us(id:Nat):kO k Q (.exit id) s=Q (.exit id) s:=rfl
theorem Yi:jH id Q .normal s=Q .normal s:=rfl
theorem Yj:jH id Q .ret s=Q .ret s:=rfl
theorem Yk:jH id Q (.exit id) s=Q .normal s:=by simp[jH]
theorem Yl(A:Nat) (s:S) (h:(A==id)=false):jH id Q (.exit A) s=Q (.exit A) s:=by
 have:A≠id:=by simpa using h
 simp[jH,this]
end
end
section
variable{C:aY} {Q:Exit->S->Prop} {K:SV->S->Prop} {J:S->Prop}
section
variable (id:Nat) {A v:SV} (e:Exit) (k:SV->Prop)
@[congr] theorem adu {α:Type} {o o':Option α} (k:α->Prop) (h:o=o'):ax o k=ax o' k:=by rw[h]
@[congr] theorem aeS(o:bU) (s:S):bS C id o K s=bS C id o K s:=rfl
@[congr] theorem aee (b i:Nat) (l:List CO) (s:S):j6 C b i l J s=j6 C b i l J s:=rfl
@[congr] theorem afp (c:br) (s:S):aw C c Q s=aw C c Q s:=rfl
@[congr] theorem adv(s:S):kO J Q e s=kO J Q e s:=rfl
@[congr] theorem abn {J:S->Prop} (l:Nat) (e:Exit) (s:S):tP l J Q e s=tP l J Q e s:=rfl
@[congr] theorem aef(s:S):IS Q e s=IS Q e s:=rfl
@[congr] theorem abo(s:S):jH id Q e s=jH id Q e s:=rfl
@[congr] theorem aeg (n:Nat) (s:S):Lr J n s=Lr J n s:=rfl
@[congr] theorem aeh {s A:S} (h:s=A):down J s=down J A:=by rw[h]
@[congr] theorem abp (w:Bool) (yes no:Prop) {g A:Option SV} (h:g=A):pz w yes no g=pz w yes no A:=by rw[h]
@[congr] theorem adw{a a' b B:Option SV} {c A:AV} (D:a=a') (E:b=B) (L:c=A):Ed a b k c=Ed a' B k A:=by rw[D,E,L]
@[congr] theorem adx (a b:Prop) {c A:AV} (h:c=A):wH a b c=wH a b A:=by rw[h]
@[congr] theorem aeT(B:Option Nat) (bx:List (Nat×dH)) (k:SV->Prop) (h:v=A):ZX B bx k v=ZX B bx k A:=by rw[h]
@[congr] theorem aeU(off:Nat) (k:SV->Prop) (h:v=A):ZY off k v=ZY off k A:=by rw[h]
@[congr] theorem aeV{d B:Nat} (h:v=A) (hd:d=B):iaP d k v=iaP B k A:=by rw[h,hd]
@[congr] theorem aeW(D:Nat) (bx:List (Nat×dH)) {u B:Option SV} (k:List (Nat×dH)->Prop) (E:u=B) (h:v=A):stP D bx u k v=stP D bx B k A:=by rw[h,E]
@[congr] theorem aeX(B off:Nat) (x:dH) (k:dH->Prop) (h:v=A):stV B off x k v=stV B off x k A:=by rw[h]
@[congr] theorem aei (k:List AV->Prop) {v A:AV} (h:v=A):Lq k v=Lq k A:=by rw[h]
@[congr] theorem aeY (m:Bool) (k:AV->Prop) {v A:List AV} (h:v=A):mmP m k v=mmP m k A:=by rw[h]
@[congr] theorem aeZ(h:v=A):Z1 k v=Z1 k A:=by rw[h]
end
end
section
variable(k:IntKind) (x y:Int)
section
variable (cs:List AV) (c:Prop) (f:FloatKind) (b:Bool) (off n:Nat) (xs:List (List AV)) (A:IntKind) (q:Option Nat) (v:AV)
theorem abq:eP .add (.int k x) (.int k y)=some (.int k (k.wrap (x+y))):=by simp[eP,tB]
theorem abr:eP .sub (.int k x) (.int k y)=some (.int k (k.wrap (x-y))):=by simp[eP,tB]
theorem abt:eP .mul (.int k x) (.int k y)=some (.int k (k.wrap (x*y))):=by simp[eP,tB]
theorem abu:eP .eql (.int k x) (.int k y)=some (.bool (x==y)):=by simp[eP,tB]
theorem abv:eP .neq (.int k x) (.int k y)=some (.bool (x !=y)):=by simp[eP,tB]
theorem abw:eP .lss (.int k x) (.int k y)=some (.bool (decide (x<y))):=by simp[eP,tB]
theorem abx:eP .leq (.int k x) (.int k y)=some (.bool (decide (x<=y))):=by simp[eP,tB]
theorem aby:eP .gtr (.int k x) (.int k y)=some (.bool (decide (y<x))):=by simp[eP,tB]
theorem abz:eP .geq (.int k x) (.int k y)=some (.bool (decide (y<=x))):=by simp[eP,tB]
def bK(k:IntKind) (x y:Int):Int:=k.wrap (BitVec.ofInt k.bits x&&&BitVec.ofInt k.bits y).toNat
def rP(k:IntKind) (x y:Int):Int:=k.wrap (BitVec.ofInt k.bits x|||BitVec.ofInt k.bits y).toNat
def Of(k:IntKind) (x y:Int):Int:=k.wrap (BitVec.ofInt k.bits x^^^BitVec.ofInt k.bits y).toNat
def aJ(k:IntKind) (x y:Int):Int:=k.wrap (BitVec.ofInt k.bits x&&& ~~~BitVec.ofInt k.bits y).toNat
theorem abA:eP .and (.int k x) (.int k y)=some (.int k (bK k x y)):=by simp[eP,tB,BU,bK]
theorem aej:eP .or (.int k x) (.int k y)=some (.int k (rP k x y)):=by simp[eP,tB,BU,rP]
theorem abB:eP .xor (.int k x) (.int k y)=some (.int k (Of k x y)):=by simp[eP,tB,BU,Of]
theorem Qz:eP .andNot (.int k x) (.int k y)=some (.int k (aJ k x y)):=by simp[eP,tB,BU,aJ]
def sF[Decidable c]:Option AV:=if c then some v else none
theorem Ut[Decidable c] (K:AV->Prop):@wv _ (sF c v) ⟨K⟩=(c/\K v):=by
 rw[<-eA];unfold sF;split<;>simp_all
theorem abC:eP .quo (.int k x) (.int k y)=sF (y≠0) (.int k (k.wrap (x.tdiv y))):=by
 by_cases h:y=0<;>simp[eP,tB,sF,h]
theorem abD:eP .rem (.int k x) (.int k y)=sF (y≠0) (.int k (x.tmod y)):=by
 by_cases h:y=0<;>simp[eP,tB,sF,h]
theorem abE:eP .shl (.int k x) (.int A y)=sF (0<=y) (.int k (k.wrap (x*2^min y.toNat k.bits))):=by
 by_cases h:0<=y
 ·have:¬y<0:=ST
  simp[eP,tK,sF,h,this]
 ·have:y<0:=ST
  simp[eP,tK,sF,this]
theorem abF:eP .shr (.int k x) (.int A y)=sF (0<=y) (.int k (x.fdiv (2^min y.toNat k.bits))):=by
 by_cases h:0<=y
 ·have:¬y<0:=ST
  simp[eP,tK,sF,h,this]
 ·have:y<0:=ST
  simp[eP,tK,sF,this]
theorem abG(x y:Bool):ZS false (.bool x) (.bool y)=some (.bool (x==y)):=rfl
theorem abH(x y:Bool):ZS true (.bool x) (.bool y)=some (.bool (x !=y)):=rfl
theorem abI:WL .not (.bool b)=some (.bool !b):=rfl
theorem abJ:WL .neg (.int k x)=some (.int k (k.wrap (0-x))):=rfl
theorem abK:IL false .bV=some true:=rfl
theorem abL:IL true .bV=some false:=rfl
theorem abM:IL false (.sl xs)=some false:=rfl
theorem abN:IL true (.sl xs)=some true:=rfl
theorem abO:yR .bV=some (.int .i64 0):=rfl
theorem aek:yR (.sl xs)=some (.int .i64 xs.length):=rfl
theorem ael:F6 k (.int A x)=some (.int k (k.wrap x)):=rfl
theorem aem(f:FloatKind):F7 f (.int A x)=some (.float f (f.nearest x)):=rfl
theorem abP(vs:List AV) (i:Nat):Po (.dF vs) i=vs[i]?:=rfl
theorem abQ:jo (.agg cs) none=true:=rfl
theorem abR:jo (.int k x) q=true:=rfl
theorem abS:jo (.bool b) q=true:=rfl
theorem abT:jo (.float f n) q=true:=rfl
theorem abU:jo .bV q=true:=rfl
theorem abV:jo (.sl xs) q=true:=rfl
theorem abW(b:ByteArray) (q:Option Nat):jo (.str b) q=true:=rfl
theorem abX(f:Fn) (as A:List AV) (q:Option Nat):jo (.fn f as A) q=true:=rfl
theorem Ym:jo (.ref cs) q=true:=rfl
theorem abY:jo .jf q=true:=rfl
theorem Og:AV.cells (.agg cs)=cs:=rfl
theorem Oh:AV.cells (.int k x)=[.int k x]:=rfl
theorem Lu:AV.cells (.bool b)=[.bool b]:=rfl
theorem Jl:AV.cells (.float f n)=[.float f n]:=rfl
theorem Lv:AV.cells .bV=[.bV]:=rfl
theorem Oi:AV.cells (.ref cs)=[.ref cs]:=rfl
theorem QB(f:Fn) (as A:List AV):AV.cells (.fn f as A)=[.fn f as A]:=rfl
theorem QC:AV.cells (.sl xs)=[.sl xs]:=rfl
theorem Yn:aF cs off none=cs[off]?:=rfl
theorem yg(h:off+n<=cs.length):aF cs off (some n)=some (.agg ((cs.drop off).take n)):=by simp[aF,h]
end
end
section
variable (wr:List Nat) (F:S->Prop) (Q:Exit->S->Prop) {t:Bool} (s:S)
theorem bn{w:Bool} {yes no:Prop} {q:Option Nat} (A:t=true->@gd w (some (.dat (.bool true) q)) ⟨yes,no⟩) (B:t=false->@gd w (some (.dat (.bool false) q)) ⟨yes,no⟩):@gd w (some (.dat (.bool t) q)) ⟨yes,no⟩:=by
 cases t
 ·exact B rfl
 ·exact A rfl
theorem aB{a b:Prop} (A:t=true->a) (B:t=false->b):@cd (.bool t) ⟨a,b⟩:=by
 cases t
 ·simpa[cd,wH]using B rfl
 ·simpa[cd,wH]using A rfl
theorem bM{a b:Option SV} {k:SV->Prop} (A:t=true->@pk a b (.bool true) ⟨k⟩) (B:t=false->@pk a b (.bool false) ⟨k⟩):@pk a b (.bool t) ⟨k⟩:=by
 cases t
 ·exact B rfl
 ·exact A rfl
theorem Uu(p:Nat) (ps:List Nat) (x:AV) (xs:List AV) (s:S):tO (p::ps) (x::xs) s=tO ps xs (s.put (some p) (.dat x none)):=rfl
theorem QD:tO [] [] s=s:=rfl
theorem Yp(sl:List (Nat×SV)) (bx:List (Nat×dH)) (lv:List (Nat×Nat)) (nx:Nat):Bc wr ⟨sl,bx,lv,nx⟩=⟨oF wr sl,bx,lv,nx⟩:=rfl
theorem Uv:oF wr []=[]:=rfl
theorem Yq(t:Nat) (v:SV) (r:List (Nat×SV)):oF wr ((t,v)::r)=bif wr.contains t then oF wr r else(t,v)::oF wr r:=rfl
theorem Yr:Py wr F Q .normal s=down F (Bc wr s):=rfl
theorem Ys:Py wr F Q .ret s=Q .ret (Bc wr s):=rfl
theorem Yt(id:Nat) (s:S):Py wr F Q (.exit id) s=Q (.exit id) (Bc wr s):=rfl
theorem Uw(K:S->Prop) (s:S):IQ K .normal s=K s:=rfl
def EV0:=
 cB @Xb (cB @Xc (cB @Xd (cB @aas (cB @adT (cB @aat (cB @adU (cB @TC (cB @Xe (cB @Xf (cB @Xg (cB @Xh (cB @aav (cB @Jk (cB @Ci (cB @zl (cB @t8 (cB @Xi (cB @Xj (cB @TE (cB @aaw (cB @Xk (cB @Xl (cB @Xm (cB @TF (cB @Xn (cB @TH (cB @TI (cB @TJ (@TK)))))))))))))))))))))))))))))
def EV1:=
 cB @P5 (cB @TL (cB @Xp (cB @TM (cB @P6 (cB @P7 (cB @N7 (cB @P8 (cB @N8 (cB @adV (cB @Xq (cB @TN (cB @TO (cB @TP (cB @aax (cB @adW (cB @Xr (cB @Xu (cB @aay (cB @adX (cB @aaA (cB @aaB (cB @TQ (cB @TR (cB @adY (cB @aaC (cB @aaD (cB @aaF (cB @aaG (@aaH)))))))))))))))))))))))))))))
def EV2:=
 cB @aaI (cB @aaJ (cB @Xv (cB @Xw (cB @Xx (cB @TS (cB @aaK (cB @aaL (cB @aaM (cB @aaN (cB @aaO (cB @ad0 (cB @ad1 (cB @Xy (cB @Xz (cB @XA (cB @XB (cB @MR (cB @TT (cB @ad3 (cB @ad4 (cB @ad5 (cB @ad6 (cB @aaP (cB @XD (cB @XE (cB @aaR (cB @XF (cB @XG (@XH)))))))))))))))))))))))))))))
def EV3:=
 cB @Qa (cB @Qb (cB @Qc (cB @XI (cB @aaT (cB @Qd (cB @TU (cB @TV (cB @Qe (cB @TW (cB @TX (cB @Oa (cB @Qf (cB @Ob (cB @Qg (cB @Qh (cB @Qj (cB @TY (cB @TZ (cB @T6 (cB @Qk (cB @Ql (cB @T7 (cB @Qm (cB @Qn (cB @Oc (cB @Od (cB @aaU (cB @aaV (@XJ)))))))))))))))))))))))))))))
def EV4:=
 cB @XK (cB @XL (cB @XM (cB @XN (cB @T8 (cB @XP (cB @T9 (cB @XQ (cB @Ua (cB @XR (cB @Qo (cB @Qp (cB @Qq (cB @XS (cB @aaW (cB @XT (cB @aaY (cB @ad7 (cB @aa0 (cB @aa1 (cB @XU (cB @Ub (cB @Qr (cB @Oe (cB @aa2 (cB @Uc (cB @Qs (cB @aa3 (cB @aa4 (@Ud)))))))))))))))))))))))))))))
def EV5:=
 cB @XX (cB @Ue (cB @XY (cB @XZ (cB @aa5 (cB @X0 (cB @ad8 (cB @aa6 (cB @aa7 (cB @aa8 (cB @X1 (cB @aa9 (cB @aba (cB @Qt (cB @X2 (cB @X4 (cB @X5 (cB @X6 (cB @abb (cB @Qv (cB @X7 (cB @abd (cB @X8 (cB @X9 (cB @Qw (cB @abe (cB @Ya (cB @Yb (cB @Yc (@Yd)))))))))))))))))))))))))))))
def EV6:=
 cB @Ye (cB @Uh (cB @Ui (cB @Uj (cB @Uk (cB @Ul (cB @Yf (cB @abf (cB @Um (cB @Un (cB @Yg (cB @Uo (cB @Yh (cB @abg (cB @abh (cB @abi (cB @abj (cB @abk (cB @abl (cB @abm (cB @Up (cB @Ur (cB @Us (cB @Yi (cB @Yj (cB @Yk (cB @abq (cB @abr (cB @abt (@abu)))))))))))))))))))))))))))))
def EV7:=
 cB @abv (cB @abw (cB @abx (cB @aby (cB @abz (cB @abA (cB @aej (cB @abB (cB @Qz (cB @Ut (cB @abC (cB @abD (cB @abE (cB @abF (cB @abG (cB @abH (cB @abI (cB @abJ (cB @abK (cB @abL (cB @abM (cB @abN (cB @abO (cB @aek (cB @ael (cB @aem (cB @abP (cB @abQ (cB @abR (@abS)))))))))))))))))))))))))))))
def EV8:=
 cB @abT (cB @abU (cB @abV (cB @abW (cB @abX (cB @Ym (cB @abY (cB @Og (cB @Oh (cB @Lu (cB @Jl (cB @Lv (cB @Oi (cB @QB (cB @QC (cB @Yn (cB @Uu (cB @QD (cB @Yp (cB @Uv (cB @Yq (cB @Yr (cB @Ys (cB @Yt (@Uw))))))))))))))))))))))))
def EV:=
 cB @EV0 (cB @EV1 (cB @EV2 (cB @EV3 (cB @EV4 (cB @EV5 (cB @EV6 (cB @EV7 (@EV8))))))))
end
section
variable{C:aY}
section
variable {F G:S->Prop} {K K':SV->S->Prop} {Q Q':Exit->S->Prop} {e:Exit} {id:Nat} {s:S} {wr:List Nat} {α:Type} (hd:α->S)
theorem zn{o:bU} (hk:∀v A,K v A->K' v A) (h:bS C id o K s):bS C id o K' s:=by
 obtain⟨v,d,hK,_,_,B⟩:=zf h;exact B.2 s .refl K' (hk _ _ hK)
theorem qi{base:Nat}:∀{l:List CO} {i:Nat} {s:S} {K K':S->Prop},(∀s,K s->K' s)->j6 C base i l K s->j6 C base i l K' s
 |[],i,s,K,K',hk,h=>hk s h
 |o::l,i,s,K,K',hk,h=>by
  rw[qb]at h⊢;obtain⟨v,d,hd,A,_⟩:=gw h;exact hd.2 s .refl _ (qi hk A)
theorem Oj{o:IK} {X X':AV->S->Prop} (hk:∀v R,K v R->K' v R) (hx:∀p R,X p R->X' p R) (h:gi C id o K X s):gi C id o K' X' s:=by
 cases o with
 |o c=>exact zn hk h
 |call f args=>
  simp only[gi]at h⊢
  rcases h with h|h
  ·exact .inl (zn hk h)
  ·obtain⟨as,has,h⟩:=ah h
   rw[has]
   rcases h with⟨cs,B,A⟩|⟨p,B,A⟩|⟨rows,e,z,B,A,Z⟩
   ·exact .inr (.inl ⟨cs,B,hk _ _ A⟩)
   ·exact .inr (.inr (.inl ⟨p,B,hx _ _ A⟩))
   ·exact .inr (.inr (.inr ⟨rows,e,z,B,A,hk _ _ Z⟩))
 |apn e z bytes y=>
  obtain⟨a,L,h⟩:=ah h;obtain⟨rows,hr,B,A,Z⟩:=ah h;simp only[gi,L,hr,aG];exact⟨B,A,hk _ _ Z⟩
 |eo f args=>
  simp only[gi]at h⊢
  rcases h with h|h
  ·exact .inl (zn hk h)
  ·obtain⟨p,E,hn,h⟩:=ah h
   obtain⟨css,M,h⟩:=ah h;rw[E];refine .inr ⟨hn,?_⟩;rw[M]
   rcases h with⟨v,D,B,A⟩|⟨tg,r,D,O,B,A⟩
   ·exact .inl ⟨v,D,B,hx _ _ A⟩
   ·obtain⟨qo,V,A⟩:=ah A
    exact .inr ⟨tg,r,D,O,B,by rw[V];exact hk _ _ A⟩
 |kN b g args=>
  simp only[gi]at h⊢;split at h
  ·obtain⟨p,E,hn,h⟩:=ah h
   obtain⟨css,M,h⟩:=ah h;rw[E];refine⟨hn,?_⟩;rw[M]
   rcases h with⟨r,fr,D,B,A⟩|⟨v,D,B,A⟩|⟨tg,r,D,O,B,A⟩
   ·exact .inl ⟨r,fr,D,B,hk _ _ A⟩
   ·exact .inr (.inl ⟨v,D,B,hx _ _ A⟩)
   ·obtain⟨qo,V,A⟩:=ah A
    exact .inr (.inr ⟨tg,r,D,O,B,by rw[V];exact hk _ _ A⟩)
  ·exact zn hk h
 |WH x=>
  obtain⟨p,E,h⟩:=ah h;simp only[gi,E,aG]
  cases p<;>first|exact hk _ _ h|exact h.elim
 |WJ x=>
  obtain⟨p,E,h⟩:=ah h;simp only[gi,E,aG]
  cases p<;>try(exact h.elim)
  rename_i k ps
  cases k<;>first|exact hk _ _ h|exact h.elim
 |stp x v=>
  obtain⟨p,E,h⟩:=ah h;simp only[gi,E,aG]
  cases p<;>try(exact h.elim)
  rename_i b o
  cases o<;>try(exact h.elim)
  obtain⟨q,V,h⟩:=ah h;simp only[V,aG]
  cases q<;>try(exact h.elim)
  rename_i k ps
  cases k<;>try(exact h.elim)
  obtain⟨y,hy,B,A⟩:=ah h;simp only[hy,aG];exact⟨B,hk _ _ A⟩
 |WK xs=>obtain⟨p,E,h⟩:=ah h;simp only[gi,E];exact hk _ _ h
 |iap x i=>
  obtain⟨p,E,h⟩:=ah h;simp only[gi,E,aG]
  cases p<;>try(exact h.elim)
  rename_i k ps
  match k,h with
  |1,h=>
   obtain⟨a,L,h⟩:=ah h;obtain⟨j,hj,B,A⟩:=ah h;simp only[L,aG,hj];exact⟨B,hk _ _ A⟩
  |0,h=>exact h.elim
  |k+2,h=>exact h.elim
 |lnp x=>
  obtain⟨p,E,h⟩:=ah h;simp only[gi,E,aG]
  cases p<;>try(exact h.elim)
  rename_i k ps
  match k,h with
  |1,h=>exact hk _ _ h
  |0,h=>exact h.elim
  |k+2,h=>exact h.elim
 |Pn g args=>
  obtain⟨av,aa,h⟩:=ah h;simp only[gi,aa,aG]
  cases av<;>try(exact h.elim)
  rename_i fn first caps
  cases fn<;>try(exact h.elim)
  cases first<;>try(exact h.elim)
  cases caps<;>try(exact h.elim)
  obtain⟨p,E,hn,h⟩:=ah h;obtain⟨css,M,j,o,b,B,A,Z⟩:=ah h;simp only[E,aG,M];exact⟨hn,j,o,b,B,A,hk _ _ Z⟩
 |mkc f caps=>obtain⟨p,E,h⟩:=ah h;simp only[gi,E];exact hk _ _ h
 |pan x=>obtain⟨a,L,B,A⟩:=ah h;simp only[gi,L];exact⟨B,hx _ _ A⟩
 |mkI t x=>obtain⟨a,L,B,A⟩:=ah h;simp only[gi,L];exact⟨B,hk _ _ A⟩
 |tas t z x=>
  obtain⟨a,L,h⟩:=ah h;obtain⟨v,hv,h⟩:=ah h;simp only[gi,L,aG,hv];exact hk _ _ h
 |isI neg x=>
  obtain⟨a,L,h⟩:=ah h;obtain⟨v,hv,h⟩:=ah h;simp only[gi,L,aG,hv];exact hk _ _ h
 |isP neg x=>
  obtain⟨a,L,h⟩:=ah h;obtain⟨v,hv,h⟩:=ah h;simp only[gi,L,aG,hv];exact hk _ _ h
 |mks e bytes l c=>
  obtain⟨a,L,h⟩:=ah h;obtain⟨l',hl,h⟩:=ah h;obtain⟨b,hb,h⟩:=ah h;obtain⟨c',hc,B,h⟩:=ah h;simp only[gi,L,aG,hl,hb,hc];exact⟨B,hk _ _ h⟩
 |cpy e x y=>
  obtain⟨p,E,h⟩:=ah h;simp only[gi,E,aG]
  cases p<;>try(exact h.elim)
  obtain⟨b,hb,h⟩:=ah h;obtain⟨ys,hy,B,A,h⟩:=ah h;simp only[hb,aG,hy];exact⟨B,A,hk _ _ h⟩
theorem Jm{g:Option (Nat×Bool)} {y E n A:Prop} (D:y->E) (B:n->A) (h:gM s g y n):gM s g E A:=by
 unfold gM at h⊢;split at h
 ·exact D h
 ·split at h
  ·exact⟨λe=>D (h.1 e),λe=>B (h.2 e)⟩
  ·exact B h
  ·exact h.elim
theorem yh{base:Nat}:∀{l:List XO} {i:Nat} {s:S} {K K':S->Prop} {X X':AV->S->Prop},(∀s,K s->K' s)->(∀p B,X p B->X' p B)->tL C base i l K X s->tL C base i l K' X' s
 |[],i,s,K,K',X,X',hk,A,h=>hk s h
 |o::l,i,s,K,K',X,X',hk,A,h=>Jm (Oj (λv B h=>yh hk A h) A) (yh hk A) h
theorem nC(h:∀s,F s->G s) (hd:down F s):down G s:=by
 obtain⟨s1,⟨D,hF|⟨ids,A,hF⟩⟩|hF⟩:=hd
 ·exact rA D (h _ hF)
 ·obtain⟨css,B,hF⟩:=ah hF
  exact Pv D ⟨ids,A,by rw[B];exact h _ hF⟩
 ·exact⟨s1,.inr (h _ hF)⟩
theorem jI(h:∀s,F s->G s) (B:∀e s,Q e s->Q' e s) (A:kO F Q e s):kO G Q' e s:=by
 cases e<;>first|exact h _ A|exact B _ _ A
theorem Jn(D:∀e s,Q e s->Q' e s) (A:jH id Q e s):jH id Q' e s:=by
 cases e with
 |exit i=>
  simp only[jH]at A⊢;split
  ·rename_i B;rw[et B]at A;exact D _ _ A
  ·rename_i B;rw[ek B]at A;exact D _ _ A
 |_=>exact D _ _ A
theorem rQ{F G:(Exit->S->Prop)->S->Prop} (hF:∀Q Q' s,(∀e s,Q e s->Q' e s)->F Q s->G Q' s) {Q Q':Exit->S->Prop} (A:∀e s,Q e s->Q' e s):∀{n:Nat} {s:S},vM F Q n s->vM G Q' n s
 |0,s,h=>h
 |n+1,s,h=>hF _ _ s (λe s B=>jI (λs hd=>nC (λs h=>rQ hF A h) hd) A B) h
theorem QE(A:∀e s,Q e s->Q' e s) (h:Py wr F Q e s):Py wr F Q' e s:=by
 cases e<;>first|exact h|exact A _ _ h
theorem nq:∀{c:br} {Q Q':Exit->S->Prop} {s:S},(∀e s,Q e s->Q' e s)->aw C c Q s->aw C c Q' s:=by
 intro c
 induction c with
 |skip=>intro Q Q' s A h;exact A _ _ h
 |Mo ops=>intro Q Q' s A h;exact qi (λs h=>A _ _ h) h
 |NI ops=>intro Q Q' s A h;exact yh (λs h=>A _ _ h) (λp s h=>A _ _ h) h
 |Dy ops dc=>
  intro Q Q' s A h;obtain⟨ids,L,h⟩:=h;obtain⟨css,M,ro,hd,h⟩:=ah h
  exact⟨ids,L,by rw[M];exact⟨ro,hd,qi (λs h=>A _ _ h) h⟩⟩
 |K0 ops dc k ad=>
  intro Q Q' s A h
  rcases h with⟨ids,L,h⟩|h
  ·obtain⟨css,M,ro,hd,h⟩:=ah h
   exact .inl ⟨ids,L,by rw[M];exact⟨ro,hd,qi (λs h=>A _ _ h) h⟩⟩
  ·exact .inr ⟨h.1,qi (λs ⟨d,p,Z,V,h3⟩=>⟨d,p,Z,V,A _ _ h3⟩) h.2⟩
 |seq a b B D=>intro Q Q' s A h;exact B (λe s E=>jI (λs h=>D A h) A E) h
 |join a b B D=>intro Q Q' s A h;exact B (λe s E=>jI (λs h=>nC (λs h=>D A h) h) A E) h
 |cond c a b B D=>
  intro Q Q' s A h;simp only[aw]at h⊢;obtain⟨v,hv,h⟩:=ah h;rw[hv]
  cases v<;>try(exact h.elim)
  exact⟨λe=>B A (h.1 e),λe=>D A (h.2 e)⟩
 |block id c ih=>intro Q Q' s A h;exact ih (λe s E=>Jn A E) h
 |loop c ih=>
  intro Q Q' s A h
  exact nC (λs ⟨n,h⟩=>⟨n,rQ (F:=aw C c) (G:=aw C c) (λQ Q' s A h=>ih A h) A h⟩) h
 |exit id=>intro Q Q' s A h;exact A _ _ h
 |ret=>intro Q Q' s A h;exact A _ _ h
 |label l=>intro Q Q' s A h;exact A _ _ h
 |goto l=>intro Q Q' s A h;exact A _ _ h
 |scope l c r aa ab=>
  intro Q Q' s A h
  refine aa (λe s E=>?_) h
  cases e with
  |goto l'=>
   refine⟨E.1,ab (λe s O=>?_) E.2⟩
   cases e<;>first|exact O|exact A _ _ O
  |_=>exact A _ _ E
 |C5 g ps wr as bd B D=>
  intro Q Q' s A h;simp only[aw]at h⊢;obtain⟨gv,ac,xs,Z,V,F,h3,h4,h5,h6⟩:=ah h;rw[ac]
  refine⟨xs,Z,V,F,h3,h4,λi x R hx hs=>B (λe s E=>?_) (h5 i x R hx hs),λR hs=>A _ _ (h6 R hs)⟩
  cases e<;>first|exact E.elim|exact D (λe s O=>QE A O) E
theorem Ux{g:bC} {ps:List Nat} {as Z:br} {O:AV} {xs:List (List AV)} (I:Nat->α->Prop) (hg:aM s g=some O) (V:C.i O xs) (L:∀x∈xs,x.length=ps.length) {B:α} (D:Le s (hd B)\/s=hd B) (E:I 0 B) (R:∀y,aM (hd y) g=some O) (round:∀i x y,xs[i]? =some x->I i y->aw C as (IQ (aw C Z (Py wr (λA=>∃z,A=hd z/\I (i+1) z) Q))) (tO ps x (hd y))) (fin:∀y,I xs.length y->Q .normal (hd y)):aw C (.C5 g ps wr as Z) Q s:=by
 simp only[aw,hg,aG]
 refine⟨xs,V,L,λi A=>∃y,A=hd y/\I i y,?_,?_,?_,?_⟩
 ·rcases D with D|D
  ·exact rA D ⟨B,rfl,E⟩
  ·exact nA ⟨B,D,E⟩
 ·rintro i A ⟨y,rfl,_⟩;exact R y
 ·rintro i x A hx ⟨y,rfl,M⟩;exact round i x y hx M
 ·rintro A ⟨y,rfl,M⟩;exact fin y M
def flat(keep:List Nat):Nat->br->br×Nat
 |i,.join a b=>
  let p:=flat keep (i+1) a
  let q:=flat keep p.2 b
  (if keep.contains i then .join p.1 q.1 else .seq p.1 q.1,q.2)
 |i,.seq a b=>
  let p:=flat keep i a
  let q:=flat keep p.2 b
  (.seq p.1 q.1,q.2)
 |i,.cond c a b=>
  let p:=flat keep i a
  let q:=flat keep p.2 b
  (.cond c p.1 q.1,q.2)
 |i,.block id c=>(.block id (flat keep i c).1,(flat keep i c).2)
 |i,.C5 g ps wr as A=>
  let p:=flat keep i as
  let q:=flat keep p.2 A
  (.C5 g ps wr p.1 q.1,q.2)
 |i,.loop c=>(.loop (flat keep i c).1,(flat keep i c).2)
 |i,.scope l c r=>
  let p:=flat keep i c
  let q:=flat keep p.2 r
  (.scope l p.1 q.1,q.2)
 |i,c=>(c,i)
theorem MT{keep:List Nat}:∀{c:br} {i:Nat} {Q:Exit->S->Prop} {s:S},aw C (flat keep i c).1 Q s->aw C c Q s:=by
 intro c
 induction c with
 |join a b A B=>
  intro i Q s h;simp only[flat]at h;split at h
  ·exact A (nq (λe s D=>jI (λs h=>nC (λs h=>B h) h) (λ_ _ h=>h) D) h)
  ·exact A (nq (λe s D=>jI (λs h=>nA (B h)) (λ_ _ h=>h) D) h)
 |seq a b A B=>intro i Q s h;exact A (nq (λe s D=>jI (λs h=>B h) (λ_ _ h=>h) D) h)
 |cond c a b A B=>
  intro i Q s h;simp only[flat,aw]at h⊢;obtain⟨v,hv,h⟩:=ah h;rw[hv]
  cases v<;>try(exact h.elim)
  exact⟨λe=>A (h.1 e),λe=>B (h.2 e)⟩
 |block id c E=>intro i Q s h;exact E h
 |scope l c r L M=>
  intro i Q s h
  refine L (nq (λe s D=>?_) h)
  cases e with
  |goto l'=>exact⟨D.1,M D.2⟩
  |_=>exact D
 |C5 g ps wr as bd A B=>
  intro i Q s h;simp only[flat,aw]at h⊢;obtain⟨gv,O,xs,h1,V,F,h3,h4,h5,h6⟩:=ah h;rw[O]
  refine⟨xs,h1,V,F,h3,h4,λi x R hx hs=>A (nq (λe s D=>?_) (h5 i x R hx hs)),h6⟩
  cases e<;>first|exact D.elim|exact B D
 |loop c E=>
  intro i Q s h
  exact nC (λs ⟨n,h⟩=>⟨n,rQ (F:=aw C (flat keep i c).1) (G:=aw C c) (λQ Q' s Z h=>nq Z (E h)) (λ_ _ h=>h) h⟩) h
 |_=>intro i Q s h;exact h
theorem MU{c:br} (μ:α->Nat) (I:α->Prop) (round:∀x,I x->aw C c (kO (down λs=>∃y,s=hd y/\I y/\μ y<μ x) Q) (hd x)) {x:α} (A:I x) (B:Le s (hd x)\/s=hd x):aw C (.loop c) Q s:=by
 have key:∀n x,I x->μ x<n->vM (aw C c) Q n (hd x):=by
  intro n
  induction n with
  |zero=>intro x _ h;omega
  |succ n D=>
   intro x A O;refine nq ?_ (round x A);intro e s E
   refine jI ?_ (λ_ _ h=>h) E
   intro s hd;refine nC ?_ hd
   rintro s ⟨y,rfl,L,M⟩
   exact D y L ST
 rcases B with B|rfl
 ·exact rA B ⟨μ x+1,key _ x A ST⟩
 ·exact nA ⟨μ x+1,key _ x A ST⟩
end
end
section
variable (i k:Nat) (cs:List AV) (b:Bool) (xs css:List (List AV)) (r:List (Option AV))
theorem abZ(k:IntKind) (n:Int):jR (.int k n)=.dat (.int k n) none:=rfl
theorem Yu:jR (.bool b)=.dat (.bool b) none:=rfl
theorem Uy(k:FloatKind) (n:Nat):jR (.float k n)=.dat (.float k n) none:=rfl
theorem ab0(s:ByteArray):jR (.str s)=.dat (.str s) none:=rfl
theorem Yv:jR .tA=.dat .tA none:=rfl
theorem Yw:jR .bV=.dat .bV none:=rfl
theorem aen:jR (.sl xs)=.dat (.sl xs) none:=rfl
theorem aeo(f:Fn) (as A:List AV):jR (.fn f as A)=.dat (.fn f as A) none:=rfl
theorem ab1:jR (.agg cs)=.dat (.agg cs) none:=rfl
theorem ab2:jR (.ref cs)=.rp cs:=rfl
theorem Uz(a:AV) (r:List AV):slotsOf i (a::r)=(i,jR a)::slotsOf (i+1) r:=rfl
theorem QF:slotsOf i []=[]:=rfl
theorem Yx(as:List AV):MN as=⟨slotsOf 0 as,[],[],4⟩:=rfl
theorem Yy(q:IntKind) (n:Int) (r:List (Option AV)):cw i k (some (.int q n)::r)=(i,.dat (.int q n) none)::cw (i+1) k r:=rfl
theorem UA:cw i k (some (.bool b)::r)=(i,.dat (.bool b) none)::cw (i+1) k r:=rfl
theorem QG(q:FloatKind) (n:Nat) (r:List (Option AV)):cw i k (some (.float q n)::r)=(i,.dat (.float q n) none)::cw (i+1) k r:=rfl
theorem Yz(b:ByteArray) (r:List (Option AV)):cw i k (some (.str b)::r)=(i,.dat (.str b) none)::cw (i+1) k r:=rfl
theorem UB:cw i k (some (.tA)::r)=(i,.dat .tA none)::cw (i+1) k r:=rfl
theorem UC:cw i k (some (.bV)::r)=(i,.dat .bV none)::cw (i+1) k r:=rfl
theorem ab3:cw i k (some (.sl xs)::r)=(i,.dat (.sl xs) none)::cw (i+1) k r:=rfl
theorem ab4(g:Fn) (as A:List AV) (r:List (Option AV)):cw i k (some (.fn g as A)::r)=(i,.dat (.fn g as A) none)::cw (i+1) k r:=rfl
theorem YA:cw i k (some (.agg cs)::r)=(i,.dat (.agg cs) none)::cw (i+1) k r:=rfl
theorem YB:cw i k (some (.ref cs)::r)=(i,.rp cs)::cw (i+1) k r:=rfl
theorem YC(t:Nat) (a:AV) (r:List (Option AV)):cw i k (some (.iface t a)::r)=(i,.dat (.iface t a) none)::cw (i+1) k r:=rfl
theorem YD:cw i k (some (.oI)::r)=(i,.dat .oI none)::cw (i+1) k r:=rfl
theorem YE:cw i k (some (.fm)::r)=(i,.dat .fm none)::cw (i+1) k r:=rfl
theorem UD:cw i k (some .hole::r)=(i,.pt 0 [(k,0)])::cw (i+1) (k+1) r:=rfl
def Ol:=cB @Yy (cB @UA (cB @QG (cB @Yz (cB @UB (cB @UC (cB @ab3 (cB @ab4 (cB @YA (cB @YB (cB @YC (cB @YD (cB @YE @UD))))))))))))
theorem Om:cw i k (none::r)=(i,.ptr k 0)::cw (i+1) (k+1) r:=rfl
theorem Oo:cw i k []=[]:=rfl
theorem QH:t7 k (cs::css)=(k,⟨cs,[]⟩)::t7 (k+1) css:=rfl
theorem Oq:t7 k []=[]:=rfl
theorem UE(as:List (Option AV)):Jh css as=⟨cw 0 0 as,t7 0 css,[],4⟩:=rfl
theorem YF(res:List ke) (r:AV) (s:S):fin res r none .normal s=ax (f8 s res) λp=>p.1=r:=by simp[fin,Ll]
end
section
variable (res:List ke) (r a:AV) (css:List (List AV)) (e:Nat) (s:S) (off:Nat) (A:Option Nat) (bx l:List (Nat×dH)) (q:Option Nat) (t:Nat)
theorem YG:fin res r none .ret s=ax (f8 s res) λp=>p.1=r:=by simp[fin,Ll]
theorem YH:fin res r (some e) .normal s=ax (f8 s res) λp=>p.1=r/\Ll (some e) p.2 s.live:=rfl
theorem YI:fin res r (some e) .ret s=ax (f8 s res) λp=>p.1=r/\Ll (some e) p.2 s.live:=rfl
theorem aep(q:Nat) (lv:List (Nat×Nat)):Ll (some e) (some q) lv=(fq q lv=some e):=rfl
theorem UF:Lm res r none css .normal s=ax (f8 s res) λp=>p.1=r/\qh s.boxes 0 css:=by simp[Lm,Ll]
theorem UG:Lm res r none css .ret s=ax (f8 s res) λp=>p.1=r/\qh s.boxes 0 css:=by simp[Lm,Ll]
theorem UH(k:Nat):qh l k []=True:=rfl
theorem YJ(k:Nat) (cs:List AV) (css:List (List AV)):qh l k (cs::css)=(ax (dh k l) (λx=>x.cells=cs)/\qh l (k+1) css):=rfl
def UI:Option SV->Option (AV×Option Nat)
 |some (.dat a q)=>some (a,q)
 |_=>none
theorem YK:UI (some (.dat a q))=some (a,q):=rfl
theorem YL:f8 s [.tmp t]=UI (lk t s.slots):=rfl
def QI:Option SV->Option (AV×Option Nat)
 |some (.ptr b off)=>match dh b bx with
  |some x=>match aF x.cells off A with
   |some a=>some (a,match A with|none=>fq off x.tags|some _=>none)
   |none=>none
  |none=>none
 |_=>none
def Gw:Option dH->Option (AV×Option Nat)
 |some x=>match aF x.cells off A with
  |some a=>some (a,match A with|none=>fq off x.tags|some _=>none)
  |none=>none
 |none=>none
theorem YM(A:Option Nat):f8 s [.cell t A]=QI A s.boxes (lk t s.slots):=rfl
theorem UJ(b off:Nat):QI A bx (some (.ptr b off))=Gw off A (dh b bx):=by
 simp only[QI,Gw]
theorem UK(n:Nat) (x:dH):Gw off (some n) (some x)=(aF x.cells off (some n)).map λa=>(a,none):=by
 simp only[Gw]<;>cases aF x.cells off (some n)<;>rfl
theorem UM(x:dH):Gw off none (some x)=(x.cells[off]?).map λa=>(a,fq off x.tags):=by
 simp only[Gw,aF]<;>cases x.cells[off]?<;>rfl
theorem YN:f8 s []=some (.dF [],none):=rfl
theorem YO(x y:ke) (r:List ke):f8 s (x::y::r)=(nU s (x::y::r)).map λas=>(.dF as,none):=rfl
def QJ:Option (AV×Option Nat)->Option (List AV)->Option (List AV)
 |some p,some as=>some (p.1::as)
 |_,_=>none
theorem UN(as:List AV):QJ (some (a,q)) (some as)=some (a::as):=rfl
theorem YP(x:ke) (r:List ke):nU s (x::r)=QJ (f8 s [x]) (nU s r):=by
 simp only[nU,QJ,f8]<;>cases N5 s x<;>cases nU s r<;>rfl
end
section
variable {P:Program} {cf:bB} {f:FuncId} {fr:Option Nat} {i off:Nat} {r:AV} {α:Type} {l:List α} {x:α} (n:Int)
theorem UO(s:S):nU s []=some []:=rfl
def EW0:=
 cB @abZ (cB @Yu (cB @Uy (cB @ab0 (cB @Yv (cB @Yw (cB @aen (cB @aeo (cB @ab1 (cB @ab2 (cB @Uz (cB @QF (cB @Yx (cB @Ol (cB @Om (cB @Oo (cB @QH (cB @Oq (cB @UE (cB @YF (cB @YG (cB @YH (cB @YI (cB @aep (cB @UF (cB @UG (cB @UH (cB @YJ (cB @YK (@YL)))))))))))))))))))))))))))))
def EW1:=
 cB @YM (cB @UJ (cB @UK (cB @UM (cB @YN (cB @YO (cB @UN (cB @YP (@UO))))))))
def EW:=
 cB @EW0 (@EW1)
theorem aj(hm:P.follows .mixedOrders=true) {B:Bool} (A:K4 B P f=some cf) {args:List AV} (keep:List Nat) (D:Nat.ble args.length cf.nt=true) (h:aw (Pure P) (flat keep 0 cf.code).1 (fin cf.res r fr) (MN args)):Gb P f args r fr:=TA hm A (gg D) (MT (keep:=keep) (i:=0) h)
theorem Jo(hm:P.follows .mixedOrders=true) {D:Bool} (B:K4 D P f=some cf) {css A:List (List AV)} {args:List (Option AV)} (keep:List Nat) (M:Nat.ble args.length cf.nt=true) (E:A.length=css.length) (L:Nat.ble css.length 4=true) (h:aw (Pure P) (flat keep 0 cf.code).1 (Lm cf.res r fr A) (Jh css args)):DH P f css args r fr A:=P3 hm B (gg M) E (gg L) (MT (keep:=keep) (i:=0) h)
abbrev I (n:Int):AV:=.int .i64 n
abbrev B (b:Bool):AV:=.bool b
abbrev D (n:Nat):AV:=.float .f64 n
def bZ:Int:=IntKind.i64.wrap n
def aI(f:α->List AV):Option (List α)->AV
 |none=>.bV
 |some l=>.sl (l.map f)
def aC:List AV:=[I n]
structure Ph where
 on:Bool
 min:Int
 Pf:Int
 max:Int
 top:Int
 step:Int
 eZ:Int
 red:Int
 walk:Int
 fc:Int
 iR:Int
 lock:Bool
 rest:Bool
 deriving Inhabited,DecidableEq
def Ph.cells(p:Ph):List AV:=[B p.on,I p.min,I p.Pf,I p.max,I p.top,I p.step,I p.eZ,I p.red,I p.walk,I p.fc,I p.iR,B p.lock,B p.rest]
structure A7 where
 phase:Int
 on:Nat
 off:Nat
 delay:Nat
 extend:Nat
 maxOn:Int
 nV:Int
 deriving Inhabited,DecidableEq
def A7.cells(d:A7):List AV:=[I d.phase,D d.on,D d.off,D d.delay,D d.extend,I d.maxOn,I d.nV]
structure Rl where
 bars:Int
 clear:Int
 ep:Int
 exit:Int
 delay:Int
 green:Int
 dZ:Int
 hold:Int
 stay:Int
 most:Int
 limit:Int
 deriving Inhabited,DecidableEq
def Rl.cells(r:Rl):List AV:=[I r.bars,I r.clear,I r.ep,I r.exit,I r.delay,I r.green,I r.dZ,I r.hold,I r.stay,I r.most,I r.limit]
structure Bs where
 set:Int
 lock:Int
 deriving Inhabited,DecidableEq
def Bs.cells(b:Bs):List AV:=[I b.set,I b.lock]
structure Gr where
 a:Option (List Int)
 b:Option (List Int)
 deriving Inhabited,DecidableEq
def Gr.cells(g:Gr):List AV:=[aI aC g.a,aI aC g.b]
structure Tb where
 phases:List Ph
 groups:Option (List Gr)
 conflict:List Int
 aL:Option (List A7)
 aV:Option (List Rl)
 f9:Option (List Bs)
 extend:Int
 gW:Int
 start:Int
 revert:Int
 least:Int
 ee:List Int
 rR:Int
 share:Int
 deriving Inhabited,DecidableEq
def Tb.cells(t:Tb):List AV:=
 t.phases.flatMap Ph.cells++(aI Gr.cells t.groups::(t.conflict.map I++(aI A7.cells t.aL::aI Rl.cells t.aV::aI Bs.cells t.f9::
  I t.extend::I t.gW::I t.start::I t.revert::I t.least::(t.ee.map I++[I t.rR,I t.share]))))
structure Tb.Ok (t:Tb):Prop where
 phases:t.phases.length=8
 conflict:t.conflict.length=8
 ee:t.ee.length=8
 groups:(t.groups.getD []).length<=1048576
 rows:∀g∈t.groups.getD [],(g.a.getD []).length<=1048576/\(g.b.getD []).length<=1048576
 UP:(t.aL.getD []).length<=1048576
 aV:(t.aV.getD []).length<=1048576
 f9:(t.f9.getD []).length<=1048576
theorem aN{α:Type} {f:α->List AV} {z:Nat} (A:∀x,(f x).length=z):∀{l:List α},(l.flatMap f).length=l.length*z
 |[]=>by simp
 |x::l=>by simp[wc,A,aN A (l:=l),Nat.add_mul];omega
theorem Ph.len(p:Ph):p.cells.length=13:=rfl
theorem Tb.len{t:Tb} (h:t.Ok):t.cells.length=131:=by
 simp[Tb.cells,aN Ph.len,h.phases,h.conflict,h.ee]
theorem HG{α:Type}:∀{l:List α} {i:Nat} {x:α},l[i]? =some x->l=l.take i++x::l.drop (i+1)
 |[],i,x,h=>by simp at h
 |y::l,0,x,h=>by
  simp at h;subst h;simp
 |y::l,i+1,x,h=>by
  have:=HG (l:=l) (i:=i) (x:=x) (by simpa using h)
  simp only[ww,mr,s9]
  exact ne (y:: ·) this
theorem iS{f:α->List AV} (h:l[i]? =some x):l.flatMap f=(l.take i).flatMap f++(f x++(l.drop (i+1)).flatMap f):=by
 conv=>lhs;rw[HG h]
 rw[Ix,wc]
theorem iT(h:l[i]? =some x):(l.take i).length=i:=by
 have:=(er.1 h).1
 simp;omega
theorem iB{pre mid post:List AV} {z:Nat} (B:pre.length=off) (D:mid.length=z):aF (pre++(mid++post)) off (some z)=some (.agg mid):=by
 subst B D
 have A:pre.length+mid.length<=(pre++(mid++post)).length:=TB
 simp only[aF,A,kh,fo,AV.agg.injEq];simp
theorem oP{pre mid post ps:List AV} (A:pre.length=off) (B:mid.length=ps.length):setCells (pre++(mid++post)) off ps=pre++(ps++post):=by
 subst A;simp only[setCells];rw[<-B];simp[PQ]
theorem eI{cs ps:List AV} (h:cs.length=ps.length):setCells cs 0 ps=ps:=by
 simp only[setCells,ut,kx,la,<-h,List.drop_length,py]
theorem Tb.ij{t:Tb} {p:Ph} (h:t.phases[i]? =some p):aF t.cells (i*13) (some 13)=some (.agg p.cells):=by
 unfold Tb.cells;rw[iS h,List.append_assoc,List.append_assoc]
 exact iB (by rw[aN Ph.len,iT h]) rfl
theorem QK{y:α} (h:l[i]? =some x):l.set i y=l.take i++y::l.drop (i+1):=by
 have A:=(er.1 h).1
 rw[Ha,et A]
theorem Tb.Ot{t:Tb} {p q:Ph} (h:t.phases[i]? =some p):setCells t.cells (i*13) q.cells={t with phases:=t.phases.set i q}.cells:=by
 unfold Tb.cells;simp only;rw[QK h,Ix,wc]
 conv=>lhs;rw[iS h]
 rw[List.append_assoc,List.append_assoc,List.append_assoc,List.append_assoc]
 exact oP (by rw[aN Ph.len,iT h]) rfl
end
end Go.Eng
namespace Go.Eng.Z
open Go
section
variable (x y d z:Nat)
def o(d:Nat) (x:bU):CO:=⟨some d,x,none⟩
def p(x:bU) (g:Nat):CO:=⟨some d,x,some (g,true)⟩
def q(x:bU) (g:Nat):CO:=⟨some d,x,some (g,false)⟩
def n(x:bU):CO:=⟨none,x,none⟩
def M(x:Nat):CO:=⟨some d,.mv (.t x),none⟩
def V(v:AV):CO:=⟨some d,.mv (.k v),none⟩
def m(x:Nat):bU:=.mv (.t x)
def v(x:AV):bU:=.mv (.k x)
def l(x:Nat):bU:=.ld (.t x) none
def L:bU:=.ld (.t x) (some z)
def f(x z:Nat):bU:=.fa (.t x) z
def s(x y z:Nat):bU:=.st (.t x) (.t y) z
def ss(y:AV) (z:Nat):bU:=.st (.t x) (.k y) z
def A(a b:Nat):bU:=.Pd (.t x) (.t y) a b
def a:bU:=.S0 (.t x) (.t y) z
def P:bU:=.pick (.t x) (.t y) (.k (.bool false))
def Q:bU:=.pick (.t x) (.k (.bool true)) (.t y)
def h:bU:=.KY (.t x)
def w:bU:=.box (.t x)
def b(g:BinOp) (x y:Nat):bU:=.bin g (.t x) (.t y)
def bb(g:BinOp) (x:Nat) (y:AV):bU:=.bin g (.t x) (.k y)
def e(x y:Nat):bU:=.ext (.t x) y
def i(x:Int):AV:=.int .i64 x
def t(x:Nat):bC:=.t x
def k(x:AV):bC:=.k x
def r(x:List CO) (y:br):br:=.seq (.Mo x) y
def R(x:List CO):br:=.Mo x
def j(x y:br):br:=.join x y
def c(x:Nat) (y z:br):br:=.cond (.t x) y z
def u(y:br):br:=.block x y
end
def y:br:=.ret
def z:br:=.skip
def T:AV:=.bool true
def F:AV:=.bool false
def H:=
 cB @o.eq_1 (cB @p.eq_1 (cB @q.eq_1 (cB @n.eq_1 (cB @M.eq_1 (cB @V.eq_1 (cB @m.eq_1 (cB @v.eq_1 (cB @l.eq_1 (cB @L.eq_1 (cB @f.eq_1 (cB @s.eq_1 (cB @ss.eq_1 (cB @A.eq_1 (cB @a.eq_1 (cB @P.eq_1 (cB @Q.eq_1 (cB @h.eq_1 (cB @w.eq_1 (cB @b.eq_1 (cB @bb.eq_1 (cB @e.eq_1 (cB @i.eq_1 (cB @t.eq_1 (cB @k.eq_1 (cB @r.eq_1 (cB @R.eq_1 (cB @j.eq_1 (cB @c.eq_1 (cB @u.eq_1 (cB @y.eq_1 (cB @z.eq_1 (cB @T.eq_1 @F.eq_1))))))))))))))))))))))))))))))))
end Go.Eng.Z
