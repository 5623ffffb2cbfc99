/- Part 14 of the engine and its library. -/
import Derived.Test.YtjnbemnncjbmgaaGreatPkA13
set_option linter.all false
set_option maxRecDepth 10000
set_option maxHeartbeats 4000000
namespace Go.Eng
open Go
open Go.RowKit (Below)
section
variable{C:aQ} {Q:Exit->S->Prop} {K:SV->S->Prop} {J:S->Prop} {X:AV->S->Prop}
variable(sl:List (Nat×SV)) (bx:List (Nat×bH)) (lv:List (Nat×Nat)) (nx:Nat)
section
variable (b f i id:Nat)
theorem ade:iJ C b i [] J X ⟨sl,bx,lv,nx⟩=J ⟨sl,bx,lv,nx⟩:=rfl
theorem ahR(d:Option Nat) (o:Gd) (r:List XO):iJ C b i (⟨d,o,none⟩::r) J X ⟨sl,bx,lv,nx⟩=cI C (b+i) o (λv D=>iJ C b (i+1) r J X (D.put d v)) X ⟨sl,bx,lv,nx⟩:=rfl
theorem adf(t:Nat) (w:Bool) (d:Option Nat) (o:Gd) (r:List XO):iJ C b i (⟨d,o,some (t,w)⟩::r) J X ⟨sl,bx,lv,nx⟩=
  mM w (cI C (b+i) o (λv D=>iJ C b (i+1) r J X (D.put d v)) X ⟨sl,bx,lv,nx⟩) (iJ C b (i+1) r J X (S.put ⟨sl,bx,lv,nx⟩ d .undef)) (lk t sl):=by
 simp only[iJ,fj,mM]
 cases lk t sl with
 |none=>rfl
 |some v=>cases v with
  |dat a q=>cases a<;>rfl
  |_=>rfl
theorem x_o(c:bG):cI C id (.o c) K X ⟨sl,bx,lv,nx⟩=bn C id c K ⟨sl,bx,lv,nx⟩:=rfl
def OW(k:Exit->S->Prop) (n:Nat):AV->S->Prop:=λp s=>k (.panic (gL p)) {s with nx:=n}
theorem ahS(ops:List XO):aw C (.oF ops) Q ⟨sl,bx,lv,nx⟩=iJ C nx 0 ops (Gn (Q .normal) (nx+ops.length)) (OW Q (nx+ops.length)) ⟨sl,bx,lv,nx⟩:=rfl
theorem adg(k:Exit->S->Prop) (n:Nat) (p:AV):OW k n p ⟨sl,bx,lv,nx⟩=k (.panic (gL p)) ⟨sl,bx,lv,n⟩:=rfl
class KX where
 run:SV->List (Nat×bH)->List (Nat×Nat)->Prop
 rx:AV->List (Nat×bH)->Prop
def ER(C:aQ) (f:Nat) (as:List AV) (id:Nat) (bx:List (Nat×bH)) (lv:List (Nat×Nat)) (k:SV->List (Nat×bH)->List (Nat×Nat)->Prop) (x:AV->List (Nat×bH)->Prop):Prop:=
 BR C f as id lv (λv l=>k v bx l)\/(∃cs,C.n f as cs/\k (.ptr id 0) ((id,⟨cs,[]⟩)::bx) lv)\/(∃p,C.q f [] (as.map some) p []/\x p bx)\/∃rows e z,C.c f as (.sl rows) (some e)/\GF z rows=true/\k (.vs id 0 rows.length z) ((id,⟨rows.flatten,[]⟩)::bx) lv
def clx(C:aQ) (f:Nat) (as:List AV) (id:Nat) (bx:List (Nat×bH)) (lv:List (Nat×Nat)) [k:KX]:Prop:=ER C f as id bx lv k.run k.rx
theorem ahT(as:List AV) (id:Nat) (bx:List (Nat×bH)) (lv:List (Nat×Nat)) (k:SV->List (Nat×bH)->List (Nat×Nat)->Prop) (x:AV->List (Nat×bH)->Prop):ER C f as id bx lv k x=@clx C f as id bx lv ⟨k,x⟩:=rfl
@[congr] theorem ahU{as D:List AV} (bx:List (Nat×bH)) (lv:List (Nat×Nat)) (k:SV->List (Nat×bH)->List (Nat×Nat)->Prop) (x:AV->List (Nat×bH)->Prop) (h:as=D):ER C f as id bx lv k x=ER C f D id bx lv k x:=by rw[h]
end
section
variable {as:List (Option AV)} {css:List (List AV)} {ids:List Nat} {k:SV->List (Nat×bH)->List (Nat×Nat)->Prop} {r:AV} {x:AV->List (Nat×bH)->Prop} (f id:Nat)
theorem aI{f:Nat} {as:List AV} {id:Nat} {bx:List (Nat×bH)} {lv:List (Nat×Nat)} (h:C.c f as r none) (hk:k (.dat r none) bx lv):@clx C f as id bx lv ⟨k,x⟩:=.inl ⟨r,none,h,hk⟩
theorem adh(f:Nat) (args:List aM):cI C id (.call f args) K X ⟨sl,bx,lv,nx⟩=aj (dO ⟨sl,bx,lv,nx⟩ args) λas=>ER C f as id bx lv (λv b l=>K v ⟨sl,b,l,nx⟩) (λp b=>X p ⟨sl,b,lv,nx⟩):=by
 simp only[cI,bn]
 cases dO ⟨sl,bx,lv,nx⟩ args with
 |none=>simp
 |some as=>rfl
def wF(C:aQ) (f:Nat) (css:List (List AV)) (as:List (Option AV)) (ids:List Nat) (id:Nat) (bx:List (Nat×bH)) (lv:List (Nat×Nat)) (k:SV->List (Nat×bH)->List (Nat×Nat)->Prop) (x:AV->List (Nat×bH)->Prop):Prop:=
 D9 C f css as ids id bx lv k\/(∃v D,C.q f css as v D/\x v (dm ids D bx))\/N1 C f css as ids id bx lv k
def T7(C:aQ) (f:Nat) (css:List (List AV)) (as:List (Option AV)) (ids:List Nat) (id:Nat) (bx:List (Nat×bH)) (lv:List (Nat×Nat)) [k:KX]:Prop:=wF C f css as ids id bx lv k.run k.rx
theorem adi(css:List (List AV)) (as:List (Option AV)) (ids:List Nat) (id:Nat) (bx:List (Nat×bH)) (lv:List (Nat×Nat)) (k:SV->List (Nat×bH)->List (Nat×Nat)->Prop) (x:AV->List (Nat×bH)->Prop):wF C f css as ids id bx lv k x=@T7 C f css as ids id bx lv ⟨k,x⟩:=rfl
@[congr] theorem ae2{L:List (List AV)} {M:List (Option AV)} {D:List Nat} (bx:List (Nat×bH)) (lv:List (Nat×Nat)) (k:SV->List (Nat×bH)->List (Nat×Nat)->Prop) (x:AV->List (Nat×bH)->Prop) (R:css=L) (O:as=M) (V:ids=D):wF C f css as ids id bx lv k x=wF C f L M D id bx lv k x:=by rw[R,O,V]
theorem aT{f id:Nat} {bx:List (Nat×bH)} {lv:List (Nat×Nat)} {D:List (List AV)} (h:C.p f css as r none D) (hk:k (.dat r none) (dm ids D bx) lv):@T7 C f css as ids id bx lv ⟨k,x⟩:=.inl ⟨r,none,D,h,hk⟩
theorem Hj{f id:Nat} {bx:List (Nat×bH)} {lv:List (Nat×Nat)} {D:List (List AV)} {M L:Option (Nat×Nat×Nat)} {qo:Option Nat} (h:C.t f css M as r D L) (O:MD bx lv ids M=some qo) (hk:k (.dat r none) (sV id ids L (dm ids D bx)) (AR id L (JT qo lv))):@T7 C f css as ids id bx lv ⟨k,x⟩:=.inr (.inr ⟨M,r,D,L,h,by rw[O];exact hk⟩)
end
def zJ(C:aQ) (f id:Nat) (bx:List (Nat×bH)) (lv:List (Nat×Nat)) (L:List (Option AV)) (D:List Nat) (k:SV->List (Nat×bH)->List (Nat×Nat)->Prop) (x:AV->List (Nat×bH)->Prop) (p:List (Option AV)×List Nat):Prop:=
 dn (p.2++D)=true/\aj (aS bx (p.2++D)) λcss=>wF C f css (p.1++L) (p.2++D) id bx lv k x
section
variable (id:Nat) (b:Bool) (g:aM) (f:Nat) (args:List aM) (k:SV->Prop)
theorem T8(id:Nat) (as D:List (Option AV)) (ids L:List Nat) (k:SV->List (Nat×bH)->List (Nat×Nat)->Prop) (x:AV->List (Nat×bH)->Prop):zJ C f id bx lv D L k x (as,ids)=(dn (ids++L)=true/\aj (aS bx (ids++L)) λcss=>wF C f css (as++D) (ids++L) id bx lv k x):=rfl
theorem Yz:cI C id (.dR f args) K X ⟨sl,bx,lv,nx⟩=aj (dP true ⟨sl,bx,lv,nx⟩ args) (zJ C f id bx lv [] [] (λv b l=>K v ⟨sl,b,l,nx⟩) (λp b=>X p ⟨sl,b,lv,nx⟩)):=by
 simp only[cI,bn]
 cases dP true ⟨sl,bx,lv,nx⟩ args with
 |none=>simp
 |some p=>
  simp only[ax,zJ,tp]
  cases aS bx p.2 with
  |none=>simp
  |some css=>
   exact(propext and_or_left).symm
def wG(C:aQ) (id:Nat) (b:Bool) (g:aM) (args:List aM) (K:SV->S->Prop) (X:AV->S->Prop) (s:S):Option SV->Prop
 |some (.mL f as D)=>aj (dP true s args) (zJ C f id s.boxes s.live as D (λv b l=>K v ⟨s.slots,b,l,s.nx⟩) (λp b=>X p ⟨s.slots,b,s.live,s.nx⟩))
 |_=>bn C id (if b then .gi g args else .fu g args) K s
theorem YA:cI C id (.fu b g args) K X ⟨sl,bx,lv,nx⟩=wG C id b g args K X ⟨sl,bx,lv,nx⟩ (bJ ⟨sl,bx,lv,nx⟩ g):=by
 simp only[cI]
 cases bJ ⟨sl,bx,lv,nx⟩ g with
 |none=>rfl
 |some v=>cases v<;>rfl
@[congr] theorem ae3(K:SV->S->Prop) (X:AV->S->Prop) (s:S) {v D:Option SV} (h:v=D):wG C id b g args K X s v=wG C id b g args K X s D:=by rw[h]
theorem T9(f:Nat) (as:List (Option AV)) (D:List Nat):wG C id b g args K X ⟨sl,bx,lv,nx⟩ (some (.mL f as D))=aj (dP true ⟨sl,bx,lv,nx⟩ args) (zJ C f id bx lv as D (λv b l=>K v ⟨sl,b,l,nx⟩) (λp b=>X p ⟨sl,b,lv,nx⟩)):=rfl
theorem Ua(s:S) (a:AV) (q:Option Nat):wG C id true g args K X s (some (.dat a q))=bn C id (.gi g args) K s:=rfl
theorem Ub(s:S) (a:AV) (q:Option Nat):wG C id false g args K X s (some (.dat a q))=bn C id (.fu g args) K s:=rfl
def YB(p:List (Option AV)×List Nat):Prop:=k (.mL f p.1 p.2)
theorem ahV(caps:List aM):cI C id (.mkc f caps) K X ⟨sl,bx,lv,nx⟩=aj (dP false ⟨sl,bx,lv,nx⟩ caps) (YB f λv=>K v ⟨sl,bx,lv,nx⟩):=rfl
theorem adj(as:List (Option AV)) (D:List Nat):YB f k (as,D)=k (.mL f as D):=rfl
theorem ahW(x:aM):cI C id (.PO x) K X ⟨sl,bx,lv,nx⟩=aj (aG ⟨sl,bx,lv,nx⟩ x) λa=>iI a=true/\X a ⟨sl,bx,lv,nx⟩:=rfl
end
section
variable (q n id t:Nat) (neg:Bool) (e b:Nat) (s:S) (z a:AV) (cs:List AV) (f:Nat) {v:SV} (c:List PanicEntry) (k:SV->Prop) (p:List (Option AV)×List Nat) (x:aM)
theorem ahX:cI C id (.mkI t x) K X ⟨sl,bx,lv,nx⟩=aj (aG ⟨sl,bx,lv,nx⟩ x) λa=>gS a none=true/\K (.dat (.iface t a) none) ⟨sl,bx,lv,nx⟩:=rfl
theorem ahY:cI C id (.tas t z x) K X ⟨sl,bx,lv,nx⟩=aj (aG ⟨sl,bx,lv,nx⟩ x) λa=>aj (JR t z a) λv=>K (.dat v none) ⟨sl,bx,lv,nx⟩:=rfl
theorem ahZ:cI C id (.isI neg x) K X ⟨sl,bx,lv,nx⟩=aj (aG ⟨sl,bx,lv,nx⟩ x) λa=>aj (MC neg a) λv=>K (.dat (.bool v) none) ⟨sl,bx,lv,nx⟩:=rfl
theorem ah0:cI C id (.isP neg x) K X ⟨sl,bx,lv,nx⟩=aj (bJ ⟨sl,bx,lv,nx⟩ x) λa=>aj (Dr neg a) λv=>K (.dat (.bool v) none) ⟨sl,bx,lv,nx⟩:=rfl
theorem ah1(bytes:Nat) (l c:aM):cI C id (.mks e bytes l c) K X ⟨sl,bx,lv,nx⟩=aj (aG ⟨sl,bx,lv,nx⟩ l) λa=>aj (idxOf a) λl=>aj (aG ⟨sl,bx,lv,nx⟩ c) λb=>aj (idxOf b) λc=>(0<=l/\l<=c/\c*bytes<=140737488355328)/\K (.raw id l.toNat) ⟨sl,bx,(id,e)::lv,nx⟩:=rfl
def YC(id:Nat) (s:S) (b:Option AV) (k:SV->S->Prop):SV->Prop
 | .raw q n=>aj b λb=>aj (rowsOf b) λD=>(D.length=n/\∀r∈D,r.length=1)/\dJ q s.live=some e/\k (.dat (.int .i64 n) none) {s with slots:=Du q n (.sl D) id s.slots,live:=(id,e)::jj q s.live}
 |_=>False
theorem ah2(y:aM):cI C id (.cpy e x y) K X ⟨sl,bx,lv,nx⟩=aj (bJ ⟨sl,bx,lv,nx⟩ x) (YC e id ⟨sl,bx,lv,nx⟩ (aG ⟨sl,bx,lv,nx⟩ y) K):=by
 show aj _ _=aj _ _
 cases bJ ⟨sl,bx,lv,nx⟩ x with
 |none=>rfl
 |some v=>cases v<;>rfl
theorem adk(q n:Nat) (b:Option AV):YC e id ⟨sl,bx,lv,nx⟩ b K (.raw q n)=aj b λb=>aj (rowsOf b) λD=>(D.length=n/\∀r∈D,r.length=1)/\dJ q lv=some e/\K (.dat (.int .i64 n) none) ⟨Du q n (.sl D) id sl,bx,(id,e)::jj q lv,nx⟩:=rfl
@[congr] theorem ake(id:Nat) (s:S) {b L:Option AV} (k:SV->S->Prop) {D:SV} (h:b=L) (M:v=D):YC e id s b k v=YC e id s L k D:=by rw[h,M]
theorem YD(id:Nat):Du q n a id []=[]:=rfl
theorem adl(id t:Nat) (v:SV) (r:List (Nat×SV)):Du q n a id ((t,v)::r)=(t,Dt q n a id v)::Du q n a id r:=rfl
theorem adm(id:Nat):Dt q n a id (.raw q n)=.dat a (some id):=by simp[Dt]
theorem adn(b:AV) (id:Nat) (m:Option Nat):Dt q n a id (.dat b m)=.dat b m:=rfl
theorem ado(id b o:Nat):Dt q n a id (.ptr b o)=.ptr b o:=rfl
theorem adp(id:Nat) (cs:List AV):Dt q n a id (.rp cs)=.rp cs:=rfl
theorem adq(id:Nat):Dt q n a id .undef=.undef:=rfl
theorem adr(q n:Nat):j6 b cs (.raw q n)=.raw q n:=rfl
theorem ads:JR t z .gh=some (.de [z,.bool false]):=rfl
theorem adt:JR t z (.iface t a)=some (.de [a,.bool true]):=by simp[JR]
theorem adu:MC neg .gh=some !neg:=rfl
theorem adv(t:Nat) (a:AV):MC neg (.iface t a)=some neg:=rfl
theorem adw(o:Nat):Dr neg (.ptr b o)=some neg:=rfl
theorem adx:Dr neg (.rp cs)=some neg:=rfl
theorem ady(q:Option Nat):Dr neg (.dat .rG q)=some !neg:=rfl
theorem ah3(as:List (Option AV)) (D:List Nat):j6 b cs (.mL f as D)=.mL f as D:=rfl
theorem akf(q:Option Nat):gS (.iface t a) q=true:=rfl
theorem ah4(q:Option Nat):gS .gh q=true:=rfl
theorem YE:AV.cells (.iface t a)=[.iface t a]:=rfl
theorem ah5:jc (.iface t a)=.dat (.iface t a) none:=rfl
theorem adz:jc .gh=.dat .gh none:=rfl
def aag:SV->Prop
 | .ptr b o=>k (.pt 0 [(b,o)])
 |_=>False
def aah:SV->Prop
 | .pt 0 ps=>k (.pt 2 ps)
 |_=>False
def adA(k:S->Prop) (b:Nat):SV->Prop
 | .pt 0 ps=>aj (bO b s.boxes) λy=>(4<=b/\y.cells.length=1/\ps.length=1)/\k {s with slots:=Dv b ps s.slots,boxes:=lu b s.boxes}
 |_=>False
def ah6(k:S->Prop) (v:Option SV):SV->Prop
 | .ptr b 0=>aj v (adA s k b)
 |_=>False
def ah7(a:Option AV) (k:SV->Prop):SV->Prop
 | .pt 1 ps=>aj a λa=>aj (idxOf a) λi=>(0<=i/\i<ps.length)/\k (.pt 2 (ps.drop i.toNat))
 |_=>False
def ah8:SV->Prop
 | .pt 1 ps=>k (.dat (.int .i64 ps.length) none)
 |_=>False
def Nj(C:aQ) (f:Nat) (css:List (List AV)) (as:List (Option AV)) (ids:List Nat) (bx:List (Nat×bH)) (k:SV->List (Nat×bH)->Prop):Prop:=∃j o b,C.r f css as j o/\ids[j]? =some b/\k (.ptr b o) (dm ids css bx)
def Uc(C:aQ) (bx:List (Nat×bH)) (p:List (Option AV)×List Nat) (k:SV->List (Nat×bH)->Prop):AV->Prop
 | .fn (.func f) [] []=>dn p.2=true/\aj (aS bx p.2) λcss=>Nj C f css p.1 p.2 bx k
 |_=>False
@[congr] theorem aje{D:SV} (h:v=D):aag k v=aag k D:=by rw[h]
@[congr] theorem ajf{D:SV} (h:v=D):aah k v=aah k D:=by rw[h]
@[congr] theorem akg(k:S->Prop) {u L:Option SV} {D:SV} (M:u=L) (h:v=D):ah6 s k u v=ah6 s k L D:=by rw[h,M]
@[congr] theorem akh(k:S->Prop) (b:Nat) {D:SV} (h:v=D):adA s k b v=adA s k b D:=by rw[h]
@[congr] theorem aki{a a':Option AV} {D:SV} (L:a=a') (h:v=D):ah7 a k v=ah7 a' k D:=by rw[h,L]
@[congr] theorem akj{D:SV} (h:v=D):ah8 k v=ah8 k D:=by rw[h]
@[congr] theorem ah9{css L:List (List AV)} {as M:List (Option AV)} {ids D:List Nat} {bx O:List (Nat×bH)} (k:SV->List (Nat×bH)->Prop) (V:css=L) (R:as=M) (Z:ids=D) (h4:bx=O):Nj C f css as ids bx k=Nj C f L M D O k:=by rw[V,R,Z,h4]
@[congr] theorem aia(k:SV->List (Nat×bH)->Prop) {v D:AV} (h:v=D):Uc C bx p k v=Uc C bx p k D:=by rw[h]
theorem adB(k:S->Prop) (s:S) (c:List PanicEntry):jk k Q (.panic c) s=Q (.panic c) s:=rfl
theorem aib:jf id Q (.panic c) s=Q (.panic c) s:=rfl
theorem akk(l:Nat) (k:S->Prop) (s:S) (c:List PanicEntry):rN l k Q (.panic c) s=Q (.panic c) s:=rfl
theorem akl:H7 Q (.panic c) s=Q (.panic c) s:=rfl
theorem aic(k D:IntKind) (x y:Int):iI (.iface t (.agg [.int k x,.int D y]))=true:=rfl
@[congr] theorem akm(o:Gd) (s:S):cI C id o K X s=cI C id o K X s:=rfl
@[congr] theorem ajg(i:Nat) (l:List XO) (s:S):iJ C b i l J X s=iJ C b i l J X s:=rfl
@[congr] theorem ajh(p:AV) (s:S):OW Q n p s=OW Q n p s:=rfl
@[congr] theorem akn{p D:List (Option AV)×List Nat} (h:p=D):YB f k p=YB f k D:=by rw[h]
end
end
section
variable (p:AV) (css:List (List AV))
def cm:=
 dC @ade (dC @ahR (dC @adf (dC @x_o (dC @ahS (dC @adg (dC @adh (dC @T8 (dC @Yz (dC @YA (dC @T9 (dC @Ua (dC @Ub (dC @ahV (dC @adj (dC @ahW (dC @ahX (dC @ahY (dC @ahZ (dC @ah0 (dC @ah1 (dC @ah2 (dC @adk (dC @YD (dC @adl (dC @adm (dC @adn (dC @ado (dC @adp (@adq)))))))))))))))))))))))))))))
def eZ:=
 dC @adr (dC @ads (dC @adt (dC @adu (dC @adv (dC @adw (dC @adx (dC @ady (dC @ah3 (dC @akf (dC @ah4 (dC @YE (dC @ah5 (dC @adz (dC @adB (dC @aib (dC @akk (dC @akl (@aic))))))))))))))))))
def dh:=dC @ahT @adi
def adC:Exit->S->Prop
 | .panic c,s=>c=gL p/\iC s.boxes 0 css
 |_,_=>False
theorem adD(s:S):adC p css (.panic (gL p)) s=iC s.boxes 0 css:=by simp[adC]
def YF(res:List fq) (cs:List AV):Exit->S->Prop
 | .normal,s| .ret,s=>match res with
  |[.tmp t]=>match lk t s.slots with
   |some (.ptr b 0)=>4<=b/\aj (bO b s.boxes) λx=>x.cells=cs
   |_=>False
  |_=>False
 |_,_=>False
end
section
variable{P:Program}
section
variable {args:List (Option AV)} {cf:bE} {css:List (List AV)} {f:FuncId} {mo:Bool}
theorem ES{w:World} {π:Nat->Nat->Prop} {Bs:List Nat} {vs:List Value} {nt:Nat} (hn:args.length<=nt) (h4:css.length<=4) (O:∀b o,π b o->b<w.heap.size) (ag:Bs.Nodup) (ac:bX w π css Bs) (hd:eO w π args Bs vs):
  dS P nt (gw.iw w Bs) w π (kP css args) {tmps:=vs.toArray++Array.replicate (nt-vs.toArray.size) undef,defers:=[]} w:=by
 have am:=qC hd
 obtain⟨an,R⟩:=ac.get
 have hβ:∀(j B:Nat),Bs[j]? =some B->(gw.iw w Bs).β j=B:=λj B hj=>by simp[gw.iw,hj]
 refine⟨ik 4,(gw.iw w Bs).β,λ_=>undef,π,λn=>n<4,λ_ h=>h,?_⟩
 have D:∀b x,bO b (kP css args).boxes=some x->∃B cs,b<4/\Bs[b]? =some B/\(gw.iw w Bs).β b=B/\x=⟨cs,[]⟩/\pN (λ_=>undef) w π B ⟨cs,[]⟩:=by
  intro b x Z;obtain⟨cs,_,M,V⟩:=r5 Z;simp only[IO]at M
  have ao:b<css.length:=(em.1 M).1
  have hB:Bs[b]? =some Bs[b]:=eh aaN
  exact⟨_,cs,aaN,hB,hβ _ _ hB,V,R b cs _ M hB⟩
 refine{size:=?_,slots:=?_,boxes:=?_,inj:=?_,live:=λq e h=>(by cases h),cw:=λq q' e e' B h=>(by cases h),cz:=λq e b x h=>(by cases h),below:=.refl _ _,f9:=ik _,eF:=O,ep:=λ_ _ h=>h,cB:=λ_ _ h=>.inl h,lz:=λ_ _=>rfl,jb:=λ_ h=>h,kept:=λ_ _ _=>rfl}
 ·simp;omega
 ·intro t v hv
  obtain⟨x,_,hx,ae⟩:=nG hd hv;simp only[IO]at hx
  have ab:t<vs.length:=(em.1 hx).1
  have L:(vs.toArray++Array.replicate (nt-vs.toArray.size) undef)[t]? =some x:=by
   simp[LT,ab]
   simpa using(em.1 hx).2
  rcases ae with⟨a,rfl,aa⟩|⟨j,B,hB,⟨rfl,rfl⟩|⟨rfl,rfl⟩⟩
  ·exact⟨⟨x,L,(mc (U:=λn=>n<4) aa).1⟩,(mc (β:=id) (τ:=λ_=>undef) aa).2⟩
  ·refine⟨⟨_,L,?_⟩,?_⟩
   ·show Value.pointer (some ⟨B,0,none⟩)=.pointer (some ⟨(gw.iw w Bs).β (0+j),0,none⟩)
    rw[kr,hβ j B hB]
   ·have:j<Bs.length:=(em.1 hB).1
    show 0+j<4
    omega
  ·have hj:j<Bs.length:=(em.1 hB).1
   refine⟨⟨_,L,?_⟩,λp hp=>?_⟩
   ·show Value.agg #[.pointer (some ⟨B,0,none⟩)]=.agg #[.pointer (some ⟨(gw.iw w Bs).β (0+j),0,none⟩)]
    rw[kr,hβ j B hB]
   ·simp at hp;subst hp
    show j<4
    omega
 ·intro b x Z
  obtain⟨B,cs,h1,M,V,rfl,h5⟩:=D b x Z
  exact⟨h1,.inr ⟨h1,by rw[V];exact et M⟩,by rw[V];exact h5,λo q hq=>by cases hq⟩
 ·intro b b' x x' Z al e
  obtain⟨B,_,_,M,V,_,_⟩:=D b x Z;obtain⟨B',_,_,ad,ak,_,_⟩:=D b' x' al;rw[V,ak]at e;subst e;exact we ag b b' B M ad
theorem jA{nt:Nat} {n0:gw} {w:World} {π:Nat->Nat->Prop} {s:S} {a:Act} {fn:Func} {tm:Array Value} {R:Ending->World->Prop} {u:FrameMode} (hu:u≠.run) {dd:List Deferred}
  (L:∀w',dS P nt n0 w π s a w'->LeavesInM Fence.wide 0 P fn tm R dd u w'):
  ∀(O:List Nat) (w':World),O.Nodup->(∀D∈O,n0.n<=D/\w'.heap[D]? =some (.deferred (some [])))->dS P nt n0 w π s a w'->w.heap.size<=n0.n->LeavesInM Fence.wide 0 P fn tm R (O.map P9++dd) u w'
 |[],w',_,_,R',_=>L w' R'
 |D::O,w',M,hD,R',hn=>by
  obtain⟨h1,Z⟩:=hD D mp;simp only[wd]at M;refine⟨hu,.inl ⟨D,_,rfl,run_takeDeferred Z,?_⟩⟩
  refine jA hu L O _ M.2 (λD' V=>?_) ((R'.putObj Z rfl rfl).Z1 (R'.below.putObj (kw hn h1) h1 _) R'.f9 (λb o hb=>(jT Z rfl rfl _).trans (R'.kept b o hb))) hn
  obtain⟨g1,g2⟩:=hD D' (lc _ V)
  exact⟨g1,(sT (λe=>M.1 (by rw[<-e];exact V))).trans g2⟩
theorem Ud(hm:P.follows .mixedOrders=true) (al:oK mo P f=some cf) {D:List (List AV)} {p:AV} (hn:args.length<=cf.nt) (hl:D.length=css.length) (h4:css.length<=4) (h:aw (Pure P) cf.code (adC p D) (kP css args)):R8 P f css args p D:=by
 obtain⟨fn,c,cc,ak,hbody,am,aa,ec,en,V,M⟩:=qB al;rw[ec]at h;rw[en]at hn
 refine⟨M,hl,h4,λw π Bs vs L ag O hd=>?_⟩
 have Z:=O.get.1
 have R:=ES (P:=P) hn h4 L ag O hd
 refine Ha.1 (xi (n:=0) (F:=Fence.wide) ak hbody trivial (wa (nA (oc hm c cc aa V _ (λ_=>False) ⟨#[],[]⟩ (λ_ h=>h.elim) none 0 w _ _ _ _ ⟨R,λl h=>by(cases h),⟨[],rfl,.nil,aaP⟩,λ_ h=>h.elim⟩ h)) ?_))
 rintro e a' w' ⟨s,hq,R',_,⟨Ds,ad,ae,ac⟩,_⟩
 cases e with
 |panic ch=>
  obtain⟨rfl,ab⟩:=hq
  show LeavesInM _ _ _ _ _ _ a'.defers _ _
  rw[ad]
  refine jA aaP (λw' R'=>?_) Ds w' ae ac R' (ik _)
  obtain⟨_,β,τ,π',U,hU,R'⟩:=R'
  have hB:=R'.Km Z h4 hl ab
  exact⟨π',rfl,R'.below,R'.ep,λb o h=>(R'.cB b o h).imp id (λk=>k.elim id (λk=>absurd h (jK hB b k o))),R'.eF,hB⟩
 |_=>exact hq.elim
def adE(res:List fq) (css:List (List AV)) (j o:Nat):Exit->S->Prop
 | .normal,s| .ret,s=>match res with
  |[.tmp t]=>lk t s.slots=some (.ptr j o)/\iC s.boxes 0 css
  |_=>False
 |_,_=>False
theorem Ue(hm:P.follows .mixedOrders=true) (a5:oK mo P f=some cf) {j o:Nat} (hn:args.length<=cf.nt) (h4:css.length<=4) (hj:j<css.length) (h:aw (Pure P) cf.code (adE cf.res css j o) (kP css args)):Sa P f css args j o:=by
 obtain⟨fn,c,cc,a4,hbody,D,ao,ec,en,al,ab⟩:=qB a5;rw[ec]at h;rw[en]at hn
 refine⟨ab,h4,λw π Bs vs aa au ac hd=>?_⟩
 have an:=ac.get.1
 have R:=ES (P:=P) hn h4 aa au ac hd
 refine Ha.1 (xi (n:=0) (F:=Fence.wide) a4 hbody trivial (wa (nA (oc hm c cc ao al _ (λ_=>False) ⟨#[],[]⟩ (λ_ h=>h.elim) none 0 w _ _ _ _ ⟨R,λl h=>by(cases h),⟨[],rfl,.nil,aaP⟩,λ_ h=>h.elim⟩ h)) ?_))
 have O:∀(s:S) (a':Act) (w':World),adE cf.res css j o .ret s->dS P fn.ntmps (gw.iw w Bs) w π s a' w'->
   ∃v,(results fn a'.tmps).run P w'=.ok v w'/\∃B π',Bs[j]? =some B/\Ending.returned v=.returned (.pointer (some ⟨B,o,none⟩))/\vR (gw.iw w Bs) w w'/\(∀b o,π b o->π' b o)/\(∀b o,π' b o->π b o\/w.heap.size<=b)/\
    (∀b o,π' b o->b<w'.heap.size)/\bX w' π' css Bs:=by
  rintro s a' w' M ⟨_,β,τ,π',U,hU,R'⟩
  simp only[adE]at M
  split at M<;>try(exact M.elim)
  rename_i t am;obtain⟨a2,ar⟩:=M;obtain⟨⟨y,hy,Z⟩,_⟩:=R'.slots t _ a2
  have Z:y=.pointer (some ⟨β j,o,none⟩):=Z
  have hB:=R'.Km an h4 rfl ar
  have ag:Bs[j]? =some Bs[j]:=eh aaN
  have hβ:β j=Bs[j]:=by
   rw[R'.lz j aaN]
   simp[gw.iw,ag]
  have hr:fn.results.toList=[.tmp t]:=by
   rw[am]at D
   cases hf:fn.results.toList with
   |nil=>rw[hf]at D;simp at D
   |cons rv a3=>
    rw[hf]at D;simp only[rt,pb,io,tl,gc]at D;obtain⟨cr,ak,a6,V,e⟩:=D;cases e
    cases a3 with
    |nil=>
     cases rv with
     |tmp t'=>cases ak;rfl
     |cell a t'=>simp only[Gl,eg,reduceCtorEq,and_false,exists_false]at ak
    |cons x xs=>
     simp only[rt,pb,io,tl,gc]at V;obtain⟨_,_,_,_,h⟩:=V;cases h
  refine⟨y,?_,Bs[j],π',ag,by rw[Z,hβ],R'.below,R'.ep,λb o h=>(R'.cB b o h).imp id (λk=>k.elim id (λk=>absurd h (jK hB b k o))),R'.eF,hB⟩
  have e:fn.results=#[.tmp t]:=lr.1 (by simpa using hr)
  rw[rY,e];simp[ny,hy]
 rintro e a' w' ⟨s,M,R',_,⟨Ds,L,ae,ad⟩,_⟩
 have L:a'.defers=Ds.map P9:=by simpa using L
 cases e with
 |normal=>show LeavesInM _ _ _ _ _ _ a'.defers _ _;rw[L];exact ew (O s a' · M) Ds w' ae ad R' (ik _)
 |ret=>show LeavesInM _ _ _ _ _ _ a'.defers _ _;rw[L];exact ew (O s a' · M) Ds w' ae ad R' (ik _)
 |_=>exact M.elim
theorem Uf(hm:P.follows .mixedOrders=true) (au:oK mo P f=some cf) {args cs:List AV} (hn:args.length<=cf.nt) (h:aw (Pure P) cf.code (YF cf.res cs) (kP [] (args.map some))):ZX P f args cs:=by
 obtain⟨fn,c,cc,ar,hbody,D,am,ec,en,ag,ab⟩:=qB au;rw[ec]at h;rw[en]at hn
 refine⟨ab,λw π vs aa hd=>?_⟩
 have R:=ES (P:=P) (nt:=fn.ntmps) (css:=[]) (args:=args.map some) (by simpa using hn) aaP aa Ts trivial (rW hd)
 refine Ha.1 (xi (n:=0) (F:=Fence.wide) ar hbody trivial (wa (nA (oc hm c cc am ag _ (λ_=>False) ⟨#[],[]⟩ (λ_ h=>h.elim) none 0 w _ _ _ _ ⟨R,λl h=>by(cases h),⟨[],rfl,.nil,aaP⟩,λ_ h=>h.elim⟩ h)) ?_))
 have O:∀(s:S) (a':Act) (w':World),YF cf.res cs .ret s->dS P fn.ntmps (gw.iw w []) w π s a' w'->
   ∃v,(results fn a'.tmps).run P w'=.ok v w'/\∃B π',Ending.returned v=.returned (.pointer (some ⟨B,0,none⟩))/\w.heap.size<=B/\Below w.heap.size w w'/\(∀b o,π b o->π' b o)/\(∀b o,π' b o->π b o\/w.heap.size<=b)/\
    (∀b o,π' b o->b<w'.heap.size)/\pN (λ_=>undef) w' π' B ⟨cs,[]⟩:=by
  rintro s a' w' L ⟨_,β,τ,π',U,hU,R'⟩
  simp only[YF]at L
  split at L<;>try(exact L.elim)
  rename_i t ak
  split at L<;>try(exact L.elim)
  rename_i b an;obtain⟨h4,L⟩:=L;obtain⟨x,hx,a2⟩:=ah L;obtain⟨⟨y,hy,Z⟩,_⟩:=R'.slots t _ an
  have Z:y=.pointer (some ⟨β b,0,none⟩):=Z
  obtain⟨g1,g2,g3,g4⟩:=R'.boxes b x hx
  have al:w.heap.size<=β b:=by
   rcases g2 with h|h
   ·exact h
   ·omega
  have hr:fn.results.toList=[.tmp t]:=by
   rw[ak]at D
   cases hf:fn.results.toList with
   |nil=>rw[hf]at D;simp at D
   |cons rv ao=>
    rw[hf]at D;simp only[rt,pb,io,tl,gc]at D;obtain⟨cr,ae,a3,V,e⟩:=D;cases e
    cases ao with
    |nil=>
     cases rv with
     |tmp t'=>cases ae;rfl
     |cell a t'=>simp only[Gl,eg,reduceCtorEq,and_false,exists_false]at ae
    |cons x xs=>
     simp only[rt,pb,io,tl,gc]at V;obtain⟨_,_,_,_,h⟩:=V;cases h
  refine⟨y,?_,β b,π',by rw[Z],al,R'.below.below (λ_ h=>by cases h),R'.ep,λb o h=>(R'.cB b o h).imp id (λk=>k.elim id (λk=>by cases k)),R'.eF,?_⟩
  ·have e:fn.results=#[.tmp t]:=lr.1 (by simpa using hr)
   rw[rY,e];simp[ny,hy]
  ·have:=g3.rQ (τ':=λ_=>undef)
   rwa[a2]at this
 rintro e a' w' ⟨s,L,R',_,⟨Ds,M,ad,ac⟩,_⟩
 have M:a'.defers=Ds.map P9:=by simpa using M
 cases e with
 |normal=>show LeavesInM _ _ _ _ _ _ a'.defers _ _;rw[M];exact ew (O s a' · L) Ds w' ad ac R' (ik _)
 |ret=>show LeavesInM _ _ _ _ _ _ a'.defers _ _;rw[M];exact ew (O s a' · L) Ds w' ad ac R' (ik _)
 |_=>exact L.elim
end
end
open Go.RowKit (Below)
section
variable (css:List (List AV)) (s:S)
def isRec(o:Oper):Option Nat:=
 match o.op,o.dst,o.guard with
 | .call ⟨.builtin .recover,as,_⟩,some d,none=>if as.isEmpty then some d else none
 |_,_,_=>none
def gO:aO->Bool
 | .skip| .GD _| .oF _| .uo _ _| .CA _ _ _ _=>true
 | .seq a b| .join a b| .cond _ a b=>gO a&&gO b
 |_=>false
structure YG where
 nt:Nat
 d:Nat
 ops:List XO
 code:aO
def Ug(P:Program) (f:FuncId):Option YG:=
 match P.funcs[f]? with
 |some fn=>match fn.body with
  |some (.seq (.region _ ops false) rest)=>match ops.toList with
   |o::os=>match isRec o,uy P ops os,bI true P rest with
    |some d,some xs,some cc=>if nU fn.ntmps xs&&decide (d<fn.ntmps)&&cc.fits fn.ntmps&&gO cc&&bL P f&&fn.results.isEmpty then some ⟨fn.ntmps,d,xs,cc⟩else none
    |_,_,_=>none
   |[]=>none
  |_=>none
 |none=>none
def Q0:Exit->S->Prop
 | .normal,s| .ret,s=>iC s.boxes 0 css
 |_,_=>False
theorem YH:Q0 css .normal s=iC s.boxes 0 css:=rfl
theorem YI:Q0 css .ret s=iC s.boxes 0 css:=rfl
def Uh(D:AV):Bool:=match D with
 | .gh=>true
 |p=>iI p
def rvV(D:AV):Value:=match D with
 | .gh=>.nilIface
 |p=>aaQ p
end
section
variable{P:Program} {nt:Nat} {n0:gw} {π0:Nat->Nat->Prop}
section
variable {cf:YG} {f:FuncId} {w:World}
theorem adF{π:Nat->Nat->Prop} {D:AV} (h:Uh D=true):DV w π D (rvV D):=by
 cases D<;>try(simp[Uh,iI]at h;done)
 ·rename_i t a
  exact .iface t a _ (.flat h)
 ·exact .gh
theorem YJ{O:Bool} {x y:Code} {cc:aO} (M:bI O P (.seq x y)=some cc):∃D L,bI O P x=some D/\bI O P y=some L/\(cc=.seq D L\/cc=.join D L):=by
 simp only[bI]at M
 split at M<;>try(cases M;done)
 rename_i D L V R;cases M;refine⟨D,L,V,R,?_⟩;split
 ·exact .inl rfl
 ·exact .inr rfl
theorem B7{mo:Bool} (hm:P.follows .mixedOrders=true):∀(c:Code) (cc:aO),bI mo P c=some cc->gO cc=true->cc.fits nt=true->∀(n:Nat) (w0:World) (QA:Exit->S->Prop) (s:S) (a:Act) (w:World),
  dS P nt n0 w0 π0 s a w->aw (Pure P) cc QA s->c.wpIn (FW none) n P (λe a' w'=>∃s',QA e s'/\dS P nt n0 w0 π0 s' a' w'/\a'.defers=a.defers) a w:=by
 intro c
 induction c with
 |skip=>intro cc D _ _ n w0 QA s a w R h;cases D;exact wpIn_skip ⟨s,h,R,rfl⟩
 |region id ops l6=>
  intro cc D L M n w0 QA s a w R h;obtain⟨h4,β,τ,π,U,hU,R0⟩:=R
  have put:∀{s':S} {a':Act} {w':World},dS P nt n0 w π0 s' a' w'->dS P nt n0 w0 π0 s' a' w':=λRN=>
   RN.Z1 (R0.below.trans RN.below) R0.f9 (λb o h=>(RN.kept b o h).trans (R0.kept b o h))
  simp only[bI]at D;split at D
  ·rename_i am
   simp only[ed,sm]at am;obtain⟨_,rfl⟩:=am;simp only[eg]at D;obtain⟨cos,aa,rfl⟩:=D
   refine wX (w0:=w) aa M R0.WV hU h (T:=λ_=>False) (λd hd ht=>ht) ?_ ?_
   ·intro s' a' w' β' τ' π' U' V hK hp R'
    exact⟨_,hK,put ⟨by show 4<=s.nx+_;omega,β',τ',π',U',V,R'.nx _⟩,hp.1⟩
   ·intro p s' a' w' β' τ' π' U' V hK hp R'
    exact⟨_,hK,put ⟨by show 4<=s.nx+_;omega,β',τ',π',U',V,R'.nx _⟩,hp.1⟩
  split at D<;>try(cases D;done)
  rename_i cos aa
  have fin:∀(ro:List Nat) (s1:S) (π1:Nat->Nat->Prop),Rel P nt n0 w0 π0 U s1 a w β τ π1->s1.nx=s.nx->(l6=true->∃cJ T,jJ cJ ops.toList cos=true/\yN T (kO ro 0 cos) cJ=true/\lR T s1.nx 0 (kO ro 0 cos)=true/\pO T s1)->gJ nt cos=true->
    je (Pure P) s1.nx 0 (kO ro 0 cos) (λs'=>QA .normal {s' with nx:=s.nx+cos.length}) s1->(Code.region id ops l6).wpIn (FW none) n P (λe a' w'=>∃s',QA e s'/\dS P nt n0 w0 π0 s' a' w'/\a'.defers=a.defers) a w:=by
   intro ro s1 π1 R1 al hd M h
   refine yY (w0:=w) hm aa ro hd M R1.WV (by rw[al];exact hU) h (T:=λ_=>False) (λd hd ht=>ht) ?_
   intro s' a' w' β' τ' π' U' V hK hp R';rw[al]at V
   exact⟨_,hK,put ⟨by show 4<=s.nx+_;omega,β',τ',π',U',V,R'.nx _⟩,hp.1⟩
  split at D
  ·rename_i ag
   subst ag
   have GD:∀cJ,jJ cJ ops.toList cos=true->gJ nt cos=true->(∃ids,(dn ids&&iu ids)=true/\aj (aS s.boxes ids) λcss=>PT (Pure P) cos cJ (λs'=>QA .normal {s' with nx:=s.nx+cos.length}) (gM ids css s))->(Code.region id ops true).wpIn (FW none) n P (λe a' w'=>∃s',QA e s'/\dS P nt n0 w0 π0 s' a' w'/\a'.defers=a.defers) a w:=by
    intro cJ O M h;obtain⟨ids,ab,h⟩:=h;obtain⟨css,an,ro,Z,h⟩:=ah h;rw[ed]at ab
    obtain⟨π1,_,R1,_⟩:=R0.vW (eG ab.1) ab.2 an
    simp only[oM,Wp,ed]at Z
    exact fin ro _ π1 R1 rJ (λ_=>⟨_,_,O,Z.2,Z.1.2,λt b ⟨v,hl,hb⟩=>nw Z.1.1 t b v hl hb⟩) M h
   split at D
   ·split at D<;>try(cases D;done)
    rename_i O;unfold Ia at D
    split at D<;>try(cases D;done)
    rename_i k _
    split at D<;>try(cases D;done)
    rename_i d hd;simp only at D
    split at D<;>try(cases D;done)
    rename_i hk;cases D;simp only[ed,ii]at hk;obtain⟨⟨⟨h1,h2⟩,h3⟩,h5⟩:=hk
    rcases h with h|h
    ·exact GD _ O M h
    ·refine wY (w0:=w) hm aa h1 h2 h3 (by simpa using h5) M R0.WV hU h (T:=λ_=>False) (λd hd ht=>ht) ?_
     intro p s' a' w' β' τ' π' U' V hK hp R'
     exact⟨_,hK,put ⟨by show 4<=s.nx+_;omega,β',τ',π',U',V,R'.nx _⟩,hp.1⟩
   ·split at D
    ·split at D<;>try(cases D;done)
     rename_i O;cases D
     exact fin [] s π R0 rfl (λ_=>⟨[],[],O,rfl,uH,λ_ _ _=>rfl⟩) M (by rw[rL];exact h)
    ·split at D<;>try(cases D;done)
     rename_i O;cases D;rw[ed]at O;exact GD _ O.1 M h
  ·rename_i ag
   cases D
   exact fin [] s π R0 rfl (λe=>absurd e ag) M (by rw[rL];exact h)
 |seq x y ak ad=>
  intro cc D L M n w0 QA s a w R h;obtain⟨cx,cy,ac,ae,a3⟩:=YJ D
  have key:gO cx=true->gO cy=true->cx.fits nt=true->cy.fits nt=true->aw (Pure P) cx (jk (down (aw (Pure P) cy QA)) QA) s->(Code.seq x y).wpIn (FW none) n P (λe a' w'=>∃s',QA e s'/\dS P nt n0 w0 π0 s' a' w'/\a'.defers=a.defers) a w:=by
   intro p1 p2 f1 f2 h;refine wpIn_seq (wa (ak cx ac p1 f1 n w0 _ s a w R h) ?_)
   rintro e a' w' ⟨s',hq,R',hd⟩
   cases e with
   |normal=>
    obtain⟨s2,hF,R2⟩:=R'.down hq;refine wa (ad cy ae p2 f2 n w0 QA s2 a' w' R2 hF) ?_
    rintro e a2 w2 ⟨s3,h3,R3,ar⟩
    exact⟨s3,h3,R3,ar.trans hd⟩
   |_=>exact⟨s',hq,R',hd⟩
  rcases a3 with rfl|rfl
  ·simp only[gO,ed]at L
   simp only[aO.fits,ed]at M
   exact key L.1 L.2 M.1 M.2 (ko (λe s ha=>iN (λs h=>gy h) (λ_ _ h=>h) ha) h)
  ·simp only[gO,ed]at L
   simp only[aO.fits,ed]at M;exact key L.1 L.2 M.1 M.2 h
 |cond cd x y ak ad=>
  intro cc D L M n w0 QA s a w R h;simp only[bI]at D
  split at D<;>try(cases D;done)
  rename_i c' cx cy ao ac ae;cases D;simp only[gO,ed]at L;simp only[aO.fits,ed]at M;simp only[aw]at h;obtain⟨v,hv,h⟩:=ah h;obtain⟨_,β,τ,π,U,hU,R0⟩:=id R
  have hd:=R0.aG ao hv
  cases v<;>try(exact h.elim)
  rename_i t
  exact wpIn_cond_split hd.uA (λe=>ak cx ac L.1 M.1 n w0 QA s a w R (h.1 e)) (λe=>ad cy ae L.2 M.2 n w0 QA s a w R (h.2 e))
 |block id c ih=>intro cc D L;simp only[bI,eg]at D;obtain⟨c',au,rfl⟩:=D;simp[gO]at L
 |loop c ih=>intro cc D L;simp only[bI,eg]at D;obtain⟨c',au,rfl⟩:=D;simp[gO]at L
 |exit id=>intro cc D L;cases D;simp[gO]at L
 |ret=>intro cc D L;cases D;simp[gO]at L
 |label l=>intro cc D L;cases D;simp[gO]at L
 |goto l=>intro cc D L;cases D;simp[gO]at L
 |scope c ih=>
  intro cc D L;simp only[bI]at D
  split at D<;>try(cases D;done)
  split at D<;>try(cases D;done)
  simp only[eg]at D;obtain⟨r,_,rfl⟩:=D;simp[gO]at L
 |rangeFunc g ps as bd a5 a4=>
  intro cc D L;simp only[bI]at D
  split at D<;>try(cases D;done)
  split at D<;>try(cases D;done)
  cases D;simp[gO]at L
 |_=>intro cc D;cases D
theorem Bi{F:Fence} {n id:Nat} {ops:Array Oper} {o:Oper} {d:Nat} {Q:Exit->Act->List Frame->World->Prop} {a:Act} {cs L:List Frame} {v:Value} (hF:∀f,F.fn f) (ad:F.round=none) (h0:ops[0]? =some o) (D:isRec o=some d) (R:recoverD cs=some (v,L)\/(recoverD cs=none/\v=.nilIface/\L=cs)) (h:wpOpsIn F n P ops (λe a' w'=>Q e a' L w') (List.range' 1 (ops.size-1)) (a.put (some d) v) w):(Code.region id ops false).wpSIn F n P Q a cs w:=by
 intro b k hb hr ab hroom;unfold isRec at D
 split at D<;>try(cases D;done)
 rename_i as am d' ak ac M
 split at D<;>try(cases D;done)
 rename_i has;cases D
 have has:as=#[]:=by simpa[Kp]using has
 subst has
 have hw:Region.wanted o (yielded ops a.tmps)=true:=by simp[Region.wanted,M]
 have Z:(execOp a.eval o).run P w=.ok .recover w:=by
  simp[execOp,ak,resolve,invoke,go_sem]
 have al:0<ops.size:=(kd.1 h0).1
 have O:List.range ops.size=0::List.range' 1 (ops.size-1):=by
  obtain⟨m,hm⟩:∃m,ops.size=m+1:=⟨ops.size-1,aaN⟩
  rw[hm,List.range_eq_range',List.range'_succ,Nat.add_sub_cancel]
 have V:L.length=cs.length:=by
  rcases R with R|⟨_,_,rfl⟩
  ·exact recoverD_length R
  ·rfl
 obtain⟨e,a',w',hq,ae⟩:=wp_opsIn (P:=P) (F:=F) (n:=n) (ops:=ops) (List.range' 1 (ops.size-1)) _ w h b k L (hr.trans ad.symm) ab (V▸hroom)
 have h1:(lone (b.atR a (.inRegion ops (0::List.range' 1 (ops.size-1))::k)) cs w).fenced P F:=fenced_oper ab hroom h0 (λf _=>hF f)
 have hg:=stepGR_op (P:=P) (b:=b) (k:=k) (cs:=cs) (w:=w) (rest:=List.range' 1 (ops.size-1)) h0 hw
 rw[hr,Oper.semAt_none]at hg
 have ag:∀v,(b.atR a (.inRegion ops (0::List.range' 1 (ops.size-1))::k)).finish v=b.atR (a.put (some d) v) (.inRegion ops (List.range' 1 (ops.size-1))::k):=by
  intro v;rw[Frame.finish_atR,h0];simp only[H0,ac]
 have hk:(b.atR a (.inRegion ops (0::List.range' 1 (ops.size-1))::k)).kind=.deferred:=hb
 have aa:=tryRecover_deferred hk cs
 have hstep:StepsIn (Machine.fenced P F) P (lone (b.atR a (.inRegion ops (0::List.range' 1 (ops.size-1))::k)) cs w) (lone (b.atR (a.put (some d) v) (.inRegion ops (List.range' 1 (ops.size-1))::k)) L w):=by
  refine .one h1 (step_lone_go ?_);rw[hg,<-ag];simp only[Frame.atR,hr]at aa⊢
  rcases R with R|⟨R,rfl,rfl⟩
  ·simp[stepG.apply,Z,aa,R]
  ·simp[stepG.apply,Z,aa,R]
 rw[<-O]at hstep;exact⟨e,a',L,w',V,hq,.of_steps (.head (fenced_calm ab hroom rfl) stepR_region hstep) ae⟩
theorem Q1(D:Ug P f=some cf):∃(fn:Func) (id:Nat) (ops:Array Oper) (rest:Code) (o:Oper) (os:List Oper),P.funcs[f]? =some fn/\fn.body=some (.seq (.region id ops false) rest)/\ops.toList=o::os/\isRec o=some cf.d/\uy P ops os=some cf.ops/\
  bI true P rest=some cf.code/\nU fn.ntmps cf.ops=true/\cf.d<fn.ntmps/\cf.code.fits fn.ntmps=true/\gO cf.code=true/\bL P f=true/\fn.results=#[]/\cf.nt=fn.ntmps:=by
 unfold Ug at D
 split at D<;>try(cases D;done)
 rename_i fn O
 split at D<;>try(cases D;done)
 rename_i id ops rest hbody
 split at D<;>try(cases D;done)
 rename_i o os M
 split at D<;>try(cases D;done)
 rename_i d xs cc h1 h2 h3
 split at D<;>try(cases D;done)
 rename_i L;cases D;simp only[ed,ii]at L;obtain⟨⟨⟨⟨⟨R,V⟩,Z⟩,k4⟩,k5⟩,k6⟩:=L
 exact⟨fn,id,ops,rest,o,os,O,hbody,M,h1,h2,h3,R,V,Z,k4,k5,by simpa[Kp]using k6,rfl⟩
theorem Ld(hm:P.follows .mixedOrders=true) (bj:Ug P f=some cf) {V:AV} {css D:List (List AV)} {args:List (Option AV)} (al:Uh V=true) (hn:args.length<=cf.nt) (hl:D.length=css.length) (h4:css.length<=4) (h:iJ (Pure P) 4 1 cf.ops (Gn (aw (Pure P) cf.code (Q0 D)) (5+cf.ops.length)) (λ_ _=>False) ((kP css args).put (some cf.d) (.dat V none))):JX P f V css args D:=by
 obtain⟨fn,ri,ops,rest,o,os,bi,hbody,O,a4,ab,a8,ar,hd,ac,a6,ag,au,a9⟩:=Q1 bj;rw[a9]at hn
 refine⟨ag,hl,h4,λw π Bs vs ae bd am ao=>?_⟩
 have a5:=am.get.1
 obtain⟨bl,ab⟩:=uK ab
 have aa:ops.size=os.length+1:=by rw[<-PH,O];rfl
 have h0:ops[0]? =some o:=by rw[<-aaJ,O];rfl
 refine callsDIn_of_wpSIn bi hbody trivial λc₀ cs L=>?_
 -- what is recovered
 obtain⟨M,hv,a3⟩:∃M,(recoverD (c₀::cs)=some (rvV V,{c₀ with mode:=M}::cs)\/(recoverD (c₀::cs)=none/\rvV V=.nilIface/\{c₀ with mode:=M}::cs=c₀::cs))/\settle M=.returning:=by
  cases V<;>try(simp[Uh,iI]at al;done)
  ·rename_i t a
   refine⟨.panicking [{v:=aaQ (.iface t a),recovered:=true}],.inl ?_,rfl⟩
   simp only[Dz,gL]at L;simp[recoverD,L,rvV]
  ·refine⟨.returning,.inr ⟨?_,rfl,?_⟩,rfl⟩
   ·simp only[Dz]at L;simp[recoverD,L]
   ·simp only[Dz]at L
    have:({c₀ with mode:=.returning}:Frame)=c₀:=by rw[<-L]
    rw[this]
 refine wpSIn_seq ?_
 refine Bi (λ_=>trivial) rfl h0 a4 hv ?_
 obtain⟨_,β,τ,π',U,hU,R⟩:=ES (P:=P) (nt:=fn.ntmps) hn h4 ae bd am ao
 have R1:=R.put (some cf.d) (v:=.dat V none) (x:=rvV V) (λt ht=>by cases ht;exact hd) ⟨adF al,λt ht=>by cases ht⟩ trivial
 have an:(os.length+1)-1=cf.ops.length:=aaN
 have post:∀(s:S) (a':Act) (w':World),Q0 D .ret s->dS P fn.ntmps (gw.iw w Bs) w π s a' w'->a'.defers=[]->
   bodyPostS P fn c₀ cs (λe M w'=>∃v π',e=.returned v/\settle M=.returning/\vR (gw.iw w Bs) w w'/\(∀b o,π b o->π' b o)/\(∀b o,π' b o->π b o\/w.heap.size<=b)/\(∀b o,π' b o->b<w'.heap.size)/\bX w' π' D Bs) .ret a' ({c₀ with mode:=M}::cs) w':=by
  rintro s a' w' ba ⟨_,β,τ,π',U,hU,R'⟩ a7
  have hB:=R'.Km a5 h4 hl ba
  refine⟨a7,M,rfl,.tuple #[],?_,.tuple #[],π',rfl,a3,R'.below,R'.ep,λb o h=>(R'.cB b o h).imp id (λk=>k.elim id (λk=>absurd h (jK hB b k o))),R'.eF,hB⟩
  rw[rY,au];simp
 have ad:((⟨some cf.d,.o (.mv (.k .gh)),none⟩:XO)::cf.ops).length=ops.size:=by simp[aa];omega
 rw[aa,an]
 have:=uL (P:=P) (r:=none) (m:=0) (base:=4) (T:=λ_=>False) (a0:={tmps:=vs.toArray++Array.replicate (fn.ntmps-vs.toArray.size) undef,defers:=[]}) 1 ad
  (λi o' c hi h1 h2=>?_) (λi c d hi ak=>?_) (λ_ _ _ _ _ h=>h) (K:=Gn (aw (Pure P) cf.code (Q0 D)) (5+cf.ops.length)) (X:=λ_ _=>False)
  (Q:=λe a' w'=>Exit.thenS (rest.wpSIn Fence.wide 0 P (bodyPostS P fn c₀ cs (λe M w'=>∃v π',e=.returned v/\settle M=.returning/\vR (gw.iw w Bs) w w'/\(∀b o,π b o->π' b o)/\(∀b o,π' b o->π b o\/w.heap.size<=b)/\(∀b o,π' b o->b<w'.heap.size)/\bX w' π' D Bs)))
    (bodyPostS P fn c₀ cs (λe M w'=>∃v π',e=.returned v/\settle M=.returning/\vR (gw.iw w Bs) w w'/\(∀b o,π b o->π' b o)/\(∀b o,π' b o->π b o\/w.heap.size<=b)/\(∀b o,π' b o->b<w'.heap.size)/\bX w' π' D Bs)) e a' ({c₀ with mode:=M}::cs) w')
  (λs' a' w' β' τ' π' U' be hK hp R'=>?_) (λ_ _ _ _ _ _ _ _ _ h=>h.elim) cf.ops 1 _ (({tmps:=vs.toArray++Array.replicate (fn.ntmps-vs.toArray.size) undef,defers:=[]}:Act).put (some cf.d) (rvV V)) w β τ π' U (ik _) rfl aaN (λn hn=>by have:=hU n hn;simp only[kP]at this;omega)
  (by exact(qA.refl _ _).put (λ_ _ h=>h) _) R1 h
 ·exact this
 ·cases i with
  |zero=>omega
  |succ i=>
   refine ab i o' c ?_ (by simpa using h2)
   rw[<-aaJ,O]at h1
   simpa using h1
 ·cases i with
  |zero=>simp at hi;subst hi;cases ak;exact hd
  |succ i=>exact pP ar i c d (by simpa using hi) ak
 ·refine wpSIn_of_wpIn rfl ?_
  have RN:dS P fn.ntmps (gw.iw w Bs) w π {s' with nx:=5+cf.ops.length} a' w':=⟨by show 4<=5+_;omega,β',τ',π',U',λn hn=>by have:=be n hn;show n<5+_;omega,R'.nx _⟩
  refine wa (nA (B7 hm rest cf.code a8 a6 ac 0 w (Q0 D) _ a' w' RN hK)) ?_
  rintro e a2 w2 ⟨s2,hq,R2,Z⟩
  have Z:a2.defers=[]:=Z.trans hp.1
  cases e with
  |normal=>exact post s2 a2 w2 hq R2 Z
  |ret=>exact post s2 a2 w2 hq R2 Z
  |_=>exact hq.elim
end
end
open Go.RowKit (Below)
section
variable (C:aQ) (res:List fq) (r:AV) (fr:Option Nat) (css:List (List AV)) (t g:Nat) (as:List (Option AV)) (caps:List aM)
def Ui:List Oper->Option (Nat×Array Operand×Nat)
 |[m,d]=>match m.op,m.dst,m.guard,d.op,d.dst,d.guard with
  | .makeFunc (.func g) first caps,some t,none,.defer ⟨.value (.tmp D),as,_⟩,none,none=>if first.isEmpty&&as.isEmpty&&t==D then some (g,caps,t)else none
  |_,_,_,_,_,_=>none
 |_=>none
structure CH where
 nt:Nat
 res:List fq
 pre:aO
 g:Nat
 caps:List aM
 t:Nat
 code:aO
def Uj(P:Program) (f:FuncId):Option CH:=
 match P.funcs[f]? with
 |some fn=>match fn.body with
  |some (.seq a (.seq (.region _ ops false) rest))=>match Ui ops.toList with
   |some (g,caps,t)=>match bI true P a,gu caps,bI true P rest,fn.results.toList.mapM (Gl P)with
    |some D,some xs,some cc,some L=>if D.fits fn.ntmps&&gO D&&decide (t<fn.ntmps)&&cc.fits fn.ntmps&& !cc.writes.contains t&&bL P f&&bL P g then some ⟨fn.ntmps,L,D,g,xs,t,cc⟩else none
    |_,_,_,_=>none
   |none=>none
  |_=>none
 |none=>none
def Nk(L:List Nat) (M:AV) (s:S):Prop:=
 lk t s.slots=some (.mL g as L)/\dn L=true/\aj (aS s.boxes L) λcs=>∃D,C.d g M cs as D/\D6 res r fr css .ret {s with boxes:=dm L D s.boxes}
def Nl(D:List Nat):Exit->S->Prop
 | .normal,s| .ret,s=>Nk C res r fr css t g as D .gh s
 | .panic c,s=>∃p,c=gL p/\iI p=true/\Nk C res r fr css t g as D p s
 |_,_=>False
theorem adG(D:List Nat) (s:S):Nl C res r fr css t g as D .normal s=Nk C res r fr css t g as D .gh s:=rfl
theorem adH(D:List Nat) (s:S):Nl C res r fr css t g as D .ret s=Nk C res r fr css t g as D .gh s:=rfl
def awD(cf:CH) (r:AV) (fr:Option Nat) (css:List (List AV)) (s:S):Prop:=
 aw C cf.pre (Dw λs1=>aj (dP false s1 cf.caps) λp=>aw C cf.code (Nl C cf.res r fr css cf.t cf.g p.1 p.2) {(s1.put (some cf.t) (.mL cf.g p.1 p.2))with nx:=s1.nx+2}) s
def dK(t:Nat) (code:aO):S->Prop:=λs1=>aj (dP false s1 caps) λp=>aw C code (Nl C res r fr css t g p.1 p.2) {(s1.put (some t) (.mL g p.1 p.2))with nx:=s1.nx+2}
def dKp(t:Nat) (code:aO) (s:S) (p:List (Option AV)×List Nat):Prop:=aw C code (Nl C res r fr css t g p.1 p.2) {(s.put (some t) (.mL g p.1 p.2))with nx:=s.nx+2}
theorem aid{C:aQ} (nt:Nat) (res:List fq) (pre:aO) (g:Nat) (caps:List aM) (t:Nat) (code:aO) (r:AV) (fr:Option Nat) (css:List (List AV)) (s:S):awD C ⟨nt,res,pre,g,caps,t,code⟩ r fr css s=aw C pre (Dw (dK C res r fr css g caps t code)) s:=rfl
end
section
variable (res:List fq) (r:AV) (fr:Option Nat) (css:List (List AV)) (g:Nat) (caps:List aM) (t:Nat) (code:aO) {C:aQ} (s:S)
theorem ako(sl:List (Nat×SV)) (bx:List (Nat×bH)) (lv:List (Nat×Nat)) (nx:Nat):
  dK C res r fr css g caps t code ⟨sl,bx,lv,nx⟩=aj (dP false ⟨sl,bx,lv,nx⟩ caps) (dKp C res r fr css g t code ⟨sl,bx,lv,nx⟩):=rfl
theorem aie(sl:List (Nat×SV)) (bx:List (Nat×bH)) (lv:List (Nat×Nat)) (nx:Nat) (as:List (Option AV)) (D:List Nat):
  dKp C res r fr css g t code ⟨sl,bx,lv,nx⟩ (as,D)=aw C code (Nl C res r fr css t g as D) ⟨(t,.mL g as D)::sl,bx,lv,nx+2⟩:=rfl
@[congr] theorem alU:dK C res r fr css g caps t code s=dK C res r fr css g caps t code s:=rfl
@[congr] theorem ak2{p D:List (Option AV)×List Nat} (h:p=D):dKp C res r fr css g t code s p=dKp C res r fr css g t code s D:=by rw[h]
theorem Uk{cf:CH} {keep:List Nat} {r:AV} {fr:Option Nat} {css:List (List AV)} {s:S} (h:awD C {cf with code:=(flat keep 0 cf.code).1} r fr css s):awD C cf r fr css s:=by
 refine ko ?_ h;intro e s D
 cases e<;>try exact D
 obtain⟨p,L,D⟩:=ah D
 show aj _ _
 rw[L]
 exact wg (keep:=keep) (i:=0) D
theorem YK(nt:Nat) (res:List fq) (pre:aO) (g:Nat) (caps:List aM) (t:Nat) (code:aO) (keep:List Nat):({(⟨nt,res,pre,g,caps,t,code⟩:CH)with code:=(flat keep 0 (⟨nt,res,pre,g,caps,t,code⟩:CH).code).1}:CH)=⟨nt,res,pre,g,caps,t,(flat keep 0 code).1⟩:=rfl
theorem I6{res:List fq} {r:AV} {fr:Option Nat} {css:List (List AV)} {t g:Nat} {as:List (Option AV)} {L:List Nat} {M:AV} {sl:List (Nat×SV)} {bx:List (Nat×bH)} {lv:List (Nat×Nat)} {nx:Nat} {cs D:List (List AV)} (hd:C.d g M cs as D) (R:lk t sl=some (.mL g as L)) (Z:dn L=true) (V:aS bx L=some cs) (O:D6 res r fr css .ret ⟨sl,dm L D bx,lv,nx⟩):Nk C res r fr css t g as L M ⟨sl,bx,lv,nx⟩:=
 ⟨R,Z,by show aj (aS bx L) _;rw[V];exact⟨D,hd,O⟩⟩
end
section
variable{P:Program}
section
variable {cf:CH} {f:FuncId} {fr:Option Nat} {r:AV}
theorem Q2(D:Uj P f=some cf):∃(fn:Func) (O:Nat) (ops:Array Oper) (a rest:Code) (caps:Array Operand),P.funcs[f]? =some fn/\fn.body=some (.seq a (.seq (.region O ops false) rest))/\Ui ops.toList=some (cf.g,caps,cf.t)/\
  bI true P a=some cf.pre/\gu caps=some cf.caps/\bI true P rest=some cf.code/\fn.results.toList.mapM (Gl P)=some cf.res/\cf.pre.fits fn.ntmps=true/\gO cf.pre=true/\cf.t<fn.ntmps/\cf.code.fits fn.ntmps=true/\¬cf.t∈cf.code.writes/\bL P f=true/\bL P cf.g=true/\cf.nt=fn.ntmps:=by
 unfold Uj at D
 split at D<;>try(cases D;done)
 rename_i fn R
 split at D<;>try(cases D;done)
 rename_i a O ops rest hbody
 split at D<;>try(cases D;done)
 rename_i g caps t M
 split at D<;>try(cases D;done)
 rename_i ca xs cc rs h1 h2 h3 h4
 split at D<;>try(cases D;done)
 rename_i L;cases D;simp only[ed,ii,sm]at L;obtain⟨⟨⟨⟨⟨⟨V,Z⟩,k3⟩,k4⟩,k5⟩,k6⟩,k7⟩:=L
 exact⟨fn,O,ops,a,rest,caps,R,hbody,M,h1,h2,h3,h4,V,Z,k3,k4,by simpa using k5,k6,k7,rfl⟩
theorem Lf(hm:P.follows .mixedOrders=true) (ct:Uj P f=some cf) {css L:List (List AV)} {args:List (Option AV)} (hn:args.length<=cf.nt) (hl:L.length=css.length) (h4:css.length<=4) (h:awD (Pure P) cf r fr L (kP css args)):uz P f css args r fr L:=by
 obtain⟨fn,ri,ops,a,rest,caps,da,hbody,D,b5,a8,dk,dl,ba,c1,ht,b1,cy,a6,cb,c2⟩:=Q2 ct;rw[c2]at hn
 refine⟨a6,hl,h4,λw π Bs vs a9 dq bd hd=>?_⟩
 have bi:=bd.get.1
 have R:=ES (P:=P) (nt:=fn.ntmps) hn h4 a9 dq bd hd
 refine Ha.1 (xi (n:=0) (F:=Fence.wide) da hbody trivial (wpIn_seq (wa (nA (B7 hm a cf.pre b5 c1 ba 0 w _ _ _ _ R h)) ?_)))
 rintro e a1 w1 ⟨s1,M,R1,an⟩
 have an:a1.defers=[]:=an
 cases e<;>try exact M.elim
 obtain⟨p,hp,h⟩:=ah M;clear M;obtain⟨dx,β,τ,π1,U,hU,R1⟩:=R1
 -- the closure is made and deferred
 obtain⟨as,bs⟩:=p
 have b6:=(R1.dP (by simpa[gu]using a8) hp).1
 obtain⟨V,O,ab,b4,db,ci,dy,c6,c4,cv⟩:∃V O,ops=#[V,O]/\V.op=.makeFunc (.func cf.g) #[] caps/\V.dst=some cf.t/\V.guard=none/\∃am,O.op=.defer ⟨.value (.tmp cf.t),#[],am⟩/\O.dst=none/\O.guard=none:=by
  unfold Ui at D
  split at D<;>try(cases D;done)
  rename_i V O ab
  split at D<;>try(cases D;done)
  rename_i g' first dt t t' c0 am m1 m2 m3 m4 m5 m6
  split at D<;>try(cases D;done)
  rename_i ad;simp only[ed,md]at ad;simp only[gc,Prod.mk.injEq]at D;obtain⟨e1,e2,e3⟩:=D
  have f1:first=#[]:=by simpa[Kp]using ad.1.1
  have f2:c0=#[]:=by simpa[Kp]using ad.1.2
  subst e1 e2 f1 f2;rw[<-ad.2,e3]at m4;rw[e3]at m2
  exact⟨V,O,lr.1 (by simpa using ab),m1,m2,m3,am,m4,m5,m6⟩
 subst ab
 obtain⟨us,bl⟩:∃us,us=caps.map a1.eval:=⟨_,rfl⟩
 have c5:(execOp a1.eval V).run P w1=.ok (.value (.func (.func cf.g) #[] us)) w1:=by simp[execOp,b4,Instr.makeFunc,bl]
 have R2:=R1.put (some cf.t) (v:=.mL cf.g as bs) (x:=.func (.func cf.g) #[] us) (λt' al=>by cases al;exact ht) ⟨us,rfl,by rw[bl];simpa using b6⟩ (λb hb=>by
  obtain⟨t',_,v',dp,a4⟩:=iM hp b hb
  exact SV.DI a4 (R1.slots t' _ dp).2)
 have ac:(a1.put (some cf.t) (.func (.func cf.g) #[] us)).tmps[cf.t]? =some (.func (.func cf.g) #[] us):=by
  simp only[Act.put]
  rw[Array.getElem?_setIfInBounds_self_of_lt (by rw[R1.size];exact ht)]
 obtain⟨d,a3⟩:∃d:Deferred,d={target:=.fn (.func cf.g) us,args:=#[]}:=⟨_,rfl⟩
 have ck:(execOp (a1.put (some cf.t) (.func (.func cf.g) #[] us)).eval O).run P w1=.ok (.defer d) w1:=by
  have:(a1.put (some cf.t) (.func (.func cf.g) #[] us)).eval (.tmp cf.t)=.func (.func cf.g) #[] us:=by simp[Act.eval,ac]
  simp only[execOp,c6,resolve,this,Deferred.ofValue,a3];simp
 refine wpIn_seq (wpIn_region ?_)
 have w0:Region.wanted V (yielded #[V,O] a1.tmps)=true:=by simp[Region.wanted,ci]
 show wpOpsIn _ _ _ _ _ [0,1] _ _
 rw[wpOpsIn_cons];unfold wpOpIn;simp only[xv,iv,w0,kv]
 refine⟨λ_ _=>trivial,?_⟩
 rw[show Fence.wide.round=none from rfl,Oper.semAt_none,c5,Oper.uponIn_value,db,wpOpsIn_cons]
 unfold wpOpIn
 have co:Region.wanted O (yielded #[V,O] (a1.put (some cf.t) (.func (.func cf.g) #[] us)).tmps)=true:=by simp[Region.wanted,cv]
 simp only[xv,ix,iv,co,kv]
 refine⟨λ_ _=>trivial,?_⟩
 rw[show Fence.wide.round=none from rfl,Oper.semAt_none,ck,Oper.uponIn_defer,c4]
 obtain⟨a2,aa⟩:∃a2:Act,a2={a1.put (some cf.t) (.func (.func cf.g) #[] us)with defers:=[d]}:=⟨_,rfl⟩
 have bw:({a1.put (some cf.t) (.func (.func cf.g) #[] us)with defers:=d::(a1.put (some cf.t) (.func (.func cf.g) #[] us)).defers}:Act).put none undef=a2:=by
  rw[aa];show({a1.put (some cf.t) _ with defers:=d::(a1.put (some cf.t) _).defers}:Act)=_
  have:(a1.put (some cf.t) (.func (.func cf.g) #[] us)).defers=[]:=an
  rw[this]
 rw[bw]
 show rest.wpIn _ _ _ _ a2 w1
 have ag:a2.tmps[cf.t]? =some (.func (.func cf.g) #[] us):=by rw[aa];exact ac
 have dj:dS P fn.ntmps (gw.iw w Bs) w π {(s1.put (some cf.t) (.mL cf.g as bs))with nx:=s1.nx+2} a2 w1:=by
  refine dS.WW (a:=a1.put (some cf.t) (.func (.func cf.g) #[] us)) ⟨by show 4<=s1.nx+2;omega,β,τ,π1,U,λn hn=>by have:=hU n hn;show n<s1.nx+2;omega,R2.nx _⟩ (by rw[aa])
 refine wa (nA (oc hm rest cf.code dk b1 _ (λt=>t=cf.t) a2 (λt al=>by subst al;exact cy) none 0 w _ _ _ _ ⟨dj,λl h=>by(cases h),⟨[],by rw[aa];simp,.nil,aaP⟩,λ_ _=>rfl⟩ h)) ?_
 rintro e a' w' ⟨s,M,R',_,⟨Ds,Z,ar,a5⟩,hk⟩
 have hk:a'.tmps[cf.t]? =some (.func (.func cf.g) #[] us):=(hk cf.t rfl).trans ag
 have Z:a'.defers=Ds.map P9++[d]:=by rw[Z,aa]
 -- the closure runs
 have last:∀(rv:AV) (u:FrameMode),u≠.run->Dz rv=u->Nk (Pure P) cf.res r fr L cf.t cf.g as bs rv s->∀w',dS P fn.ntmps (gw.iw w Bs) w π s a' w'->
   LeavesInM Fence.wide 0 P fn a'.tmps (λe w'=>∃v π',e=.returned v/\vR (gw.iw w Bs) w w'/\(∀b o,π b o->π' b o)/\(∀b o,π' b o->π b o\/w.heap.size<=b)/\
    (∀b o,π' b o->b<w'.heap.size)/\bX w' π' L Bs/\DV w' π' r v/\∀t,fr=some t->GH P w' π' (λB=>w.heap.size<=B) t v) [d] u w':=by
  rintro rv u hu a7 ⟨ce,cx,M⟩ w' ⟨hx,β',τ',π',U',c8,R'⟩
  obtain⟨cs,au,ca,hD,b2⟩:=ah M
  have hD:JX P cf.g rv cs as ca:=hD
  obtain⟨_,cp,_,hD⟩:=hD;obtain⟨⟨x,be,du,cu,bm⟩,_⟩:=R'.slots cf.t _ ce;rw[hk]at be;cases be;cases cu
  have ak:=eG cx
  refine⟨hu,.inr ⟨λh=>by simp[Fence.wide]at h,.func cf.g,us,cf.g,us,by rw[a3],?_,λ_ _=>trivial,?_⟩⟩
  ·rw[a3];simp[invoke,fJ cb]
  refine CallsDIn.mono (by have:=hD w' π' (bs.map β') us.toList R'.eF (R'.nodup ak au) (R'.oS au) bm;rw[a7]at this;exact this) ?_
  rintro e u' w3 ⟨v,π3,rfl,b0,bo,df,c3,b8,b3⟩
  obtain⟨τ3,_,R3⟩:=R'.vV (id:=s.nx) (fr:=none) (λhc=>by have:=c8 _ hc;omega) ak au cp bo df c3 b8 b3 DV.gh (λt ht=>by cases ht)
  show LeavesInM _ _ _ _ _ _ [] (settle u') w3
  rw[b0]
  show LeavesIn _ _ _ _ _ _ [] .returning w3
  obtain⟨⟨av,q⟩,di,bj,ae,ao⟩:=ah b2;simp only at bj ae ao;subst bj;obtain⟨v',a4,c7,cr⟩:=rZ R3 dl di
  have hB:=R3.Km bi h4 hl ao
  refine⟨v',a4,v',π3,rfl,R3.below,R3.ep,λb o h=>(R3.cB b o h).imp id (λk=>k.elim id (λk=>absurd h (jK hB b k o))),R3.eF,hB,c7,λt ht=>?_⟩
  subst ht;simp only[Kk]at ae
  cases q with
  |none=>exact ae.elim
  |some q=>
   rw[cr q rfl];exact R3.D8 bi h4 hl ao ae
 cases e with
 |normal=>show LeavesInM _ _ _ _ _ _ a'.defers _ _;rw[Z];exact jA aaP (last .gh .returning aaP rfl M) Ds w' ar a5 R' (ik _)
 |ret=>show LeavesInM _ _ _ _ _ _ a'.defers _ _;rw[Z];exact jA aaP (last .gh .returning aaP rfl M) Ds w' ar a5 R' (ik _)
 |panic ch=>
  obtain⟨p,rfl,b7,M⟩:=M
  show LeavesInM _ _ _ _ _ _ a'.defers _ _;rw[Z]
  refine jA aaP (last p (.panicking (gL p)) aaP ?_ M) Ds w' ar a5 R' (ik _)
  cases p<;>first|rfl|(simp[iI]at b7;done)
 |_=>exact M.elim
def XV2:=dC @aid (dC @ako (dC @aie (dC @YK (dC @adG (dC @adH (dC @adD (dC @YH @YI)))))))
theorem ET{args:List AV} (h:uz P f [] (args.map some) r fr []):Dy P f args r fr:=by
 obtain⟨R,_,_,h⟩:=h
 refine⟨R,λw π vs D hd=>?_⟩
 refine(h w π [] vs D Ts trivial (rW hd)).mono ?_
 rintro e w' ⟨v,π',rfl,Z,L,M,O,_,k5,V⟩
 exact⟨v,π',rfl,Z.below (λ_ h=>by cases h),L,M,O,k5,V⟩
end
end
section
open Z
def aP:List AV:=(⟨_,by conv=>lhs;cbv⟩:bT (Oz [(0,10),(1,2),(0,10),(1,2),(0,10),(1,2),(0,10),(1,2),(0,10),(1,2),(0,10),(1,2),(0,10),(1,2),(0,10),(1,2),(0,6),(1,1),(0,16),(2,1),(0,18)])).1
def qY(D:Nat):bE:=(⟨_,by conv=>lhs;ext y0;cbv⟩:bT λ(y0:List AV)=>cH 6 [.cell 2 (some 138)] [D] [1] 0x16285e0ca0ea2f302204180103418bca5003a1a20 [y0]).1 aP
def bh(V R L Z D O M:Nat):bE:=(⟨_,by conv=>lhs;ext y0;cbv⟩:bT λ(y0:List AV)=>cH 145 [.cell 6 (some 138),.cell 7 (some 8),.tmp 8] [V,R,L,Z,D,O] [1,2,0,3] 0x1508c8c4c40209f96285e8dcb9c917d3142f4e96b25c01000100c02f0401a720283f0bf90008c28fc2fec087e17f600866c02f042b39e423021b00413601782059a72018003b801bc001217d126008000806a178200d390141b05fc80046146c17f604360bfb004336a1782159cf211810d80209b50bc102cd3900c001dc00de00090be88f004004e4002614004009e40010013901bc009a22c01009390141900321413020b04e403000090a0008013c80de006510e0240ae00100a22f49440072a0c80090a0981058272018000485000400841245ea68800d41a40bd151124c4344c2441c249c801220e114e40081070827201a812822000416abc80600004101794004078179f20008029c809a2120708a7200051004014e40845e968a02f9c3142f24e708d3c000f1185e8004117a02435432f182285e9c6083179f18842f53408001f8bd092017f504017a2a261220e114e40089070827201281010405e500101d85e7c800200a7201688481c229c800144010053900b45017ce1034cc5e8a8810003117a02140c85e8a881c08009c80f8bd1511c0f0bf81c2292d009220c5e7c604a212070c40bd390004035e40251090386245e9c800200500102245e9c805a2605e708210a0081102f4e403518242f4b44222fe18a17f87f81425e020665e98a17cf0fc180308052004811404500141a6a2 [y0,[.int .i64 0,.int .i64 0,.int .i64 0,.int .i64 0,.int .i64 0,.int .i64 0,.int .i64 0,.int .i64 0],[.aU]] [.aU] [] [.mkc M [.t 12,.t 4],.fu false (.t 81) [.t 83,.k (.int .i64 5),.k (.int .i64 0)],.fu false (.t 85) [.t 93,.k (.int .i64 2),.t 95],.fu false (.t 97) [.t 102,.k (.int .i64 1),.t 104],.fu false (.t 106) [.t 118,.k (.int .i64 3),.t 122],.fu false (.t 124) [.t 136,.k (.int .i64 4),.t 140]]).1 aP
def tI(D:Nat):bE:=(⟨_,by conv=>lhs;cbv⟩:bT (cH 32 [.tmp 2] [] [16] 0xa081420e6ecfe134c7951f0b01a1072767f09a43ca8f8580d0838bb3f84d41e547c2c06841c1d9fc2688f2aa16020438614040421d17806c10981a20 [] [.fn (.func D) [] []] [.fu (.t 9) [.t 11,.k (.int .i64 255)],.fu (.t 15) [.t 17,.k (.int .i64 255)],.fu (.t 21) [.t 23,.k (.int .i64 15)],.fu (.t 27) [.t 29,.k (.int .i64 15)]])).1
def pz(D:Nat):bE:=(⟨_,by conv=>lhs;cbv⟩:bT (cH 11 [.cell 4 (some 6)] [D] [] 0xac18ac5d240cac14a026218c13004090f80819924c0c11e05b20 [[.aU,.int .i64 0,.int .i64 0,.int .i64 0,.int .i64 0,.bool false]])).1
def tJ:bE:=(⟨_,by conv=>lhs;cbv⟩:bT (cH 23 [.cell 2 (some 8)] [] [0,8,1,33,2,34] 0xb005cb14585f020100231c032161520a3007d14e262f0188201117810c090be8be4026414600fa29fc3e031041a0221d45f202718010be12800710a00b984b021890d18840380c8097917a69981874403a1a20 [[.int .i64 0,.int .i64 0,.int .i64 0,.int .i64 0,.int .i64 0,.int .i64 0,.int .i64 0,.int .i64 0]] [] [.GC (.t 7) (.t 8) 8 1 none])).1
def tK:bE:=(⟨_,by conv=>lhs;cbv⟩:bT (cH 10 [.cell 0 (some 8)] [] [0,8,1] 0xb001cb0a60400c0460064224414602a21806208042402e612c086243462100e01a040c3a2000f10 [[.int .i64 0,.int .i64 0,.int .i64 0,.int .i64 0,.int .i64 0,.int .i64 0,.int .i64 0,.int .i64 0]])).1
def tL:bE:=(⟨_,by conv=>lhs;cbv⟩:bT (cH 7 [.tmp 2] [] [0,1] 0xa080240062e0720a8004810 [] [] [.mm true [.t 3,.k (.int .i64 0)],.mm false [.t 4,.k (.int .i64 9999)]])).1
def tM(L O D M:Nat):bE:=(⟨_,by conv=>lhs;ext y0 y1 y2;cbv⟩:bT λ(y0 y1 y2:List AV)=>cH 43 [.cell 6 (some 138),.cell 7 (some 8)] [L,O,D,M] [0,3] 0x1484601f96285e4dcb15d3142f4e94b2611160514e21017d02bc0bd389d45f40a69c402660414e21017cf4ba8be3a6ec99601f96285e8dca024683179f480c48bd06205f0ea2f3c121220a18048917a7102440bd388044d062f3e9be1c0040218302a2f01018a0bf8604c5fc0a202f1217f12ba8bc445fc8a3d3e943cf39e3e58f1f1a78f80088bdebe30004860665e98a17a74c18be6c0405e03d0ea693407b50 [y1,[.int .i64 0,.int .i64 0,.int .i64 0,.int .i64 0,.int .i64 0,.int .i64 0,.int .i64 0,.int .i64 0],y0,y2]).1 dA aP fh
def dD(D:Nat):bE:=(⟨_,by conv=>lhs;cbv⟩:bT (cH 17 [] [D] [] 0x1840f9c2160009844002442282061001700078000408917d202881340800421a2 [[.int .i64 0,.int .i64 0,.int .i64 0]] [] [.app D 3 24 (.t 9) (.t 15)])).1
def pE:bE:=(⟨_,by conv=>lhs;cbv⟩:bT (cH 12 [.tmp 4] [] [0] 0x14202831c0b948795870b01020202f1c0c048810)).1
def tN(R O L V D M:Nat):CH:=⟨59,[.cell 6 (some 117),.cell 7 (some 16),.cell 8 (some 8),.cell 9 none],.oF [⟨(some 3),.o (.box (.t 0)),none⟩,⟨(some 4),.o (.box (.t 1)),none⟩,⟨(some 5),.o (.box (.t 2)),none⟩,⟨(some 6),.o (.alloc dA),none⟩,⟨(some 7),.o (.alloc fh),none⟩,⟨(some 8),.o (.alloc [(.int .i64 0),(.int .i64 0),(.int .i64 0),(.int .i64 0),(.int .i64 0),(.int .i64 0),(.int .i64 0),(.int .i64 0)]),none⟩,⟨(some 9),.o (.alloc [(.int .i64 0)]),none⟩],R,[(.t 6),(.t 7),(.t 8),(.t 9)],12,.seq (.oF [⟨(some 13),.o (.ld (.t 3) (some 131)),none⟩,⟨(some 14),.o (.fa (.t 4) 3),none⟩,⟨(some 15),.o (.ld (.t 14) (some 117)),none⟩,⟨(some 16),.o (.fa (.t 5) 0),none⟩,⟨(some 17),.o (.ld (.t 16) none),none⟩,⟨(some 18),.o (.fa (.t 5) 1),none⟩,⟨(some 19),.o (.ld (.t 18) none),none⟩,⟨(some 20),.o (.fa (.t 5) 2),none⟩,⟨(some 21),.o (.ld (.t 20) none),none⟩,⟨(some 22),.o (.fa (.t 5) 3),none⟩,⟨(some 23),.o (.ld (.t 22) none),none⟩,⟨(some 24),.o (.build [.aU,(.int .i64 0),(.int .i64 0),(.int .i64 0)] [(0,1,(.t 17)),(1,1,(.t 19)),(2,1,(.t 21)),(3,1,(.t 23))]),none⟩,⟨(some 25),.call O [(.t 13),(.t 15),(.t 24)],none⟩,⟨none,.o (.st (.t 6) (.t 25) 117),none⟩]) (.seq (.oF [⟨(some 26),.o (.fa (.t 6) 0),none⟩,⟨(some 27),.o (.ld (.t 26) (some 96)),none⟩,⟨(some 28),.call L [(.t 27)],none⟩,⟨none,.o (.st (.t 8) (.t 28) 8),none⟩]) (.seq (.oF [⟨(some 29),.o (.ld (.t 8) (some 8)),none⟩,⟨(some 10),.o (.alloc [(.int .i64 0),(.int .i64 0),(.int .i64 0),(.int .i64 0),(.int .i64 0),(.int .i64 0),(.int .i64 0),(.int .i64 0)]),none⟩,⟨none,.o (.st (.t 10) (.t 29) 8),none⟩]) (.join (.seq (.oF [⟨(some 30),.o (.fa (.t 5) 4),none⟩,⟨(some 31),.o (.ld (.t 30) none),none⟩,⟨(some 32),.call V [(.t 31)],none⟩]) (.block 0 (.um (.t 32) [33] [33,11,34,35,36,37,38] (.oF [⟨(some 11),.o (.mv (.t 33)),none⟩]) (.block 1 (.oF [⟨(some 34),.o (.mv (.t 11)),none⟩,⟨(some 35),.o (.MB (.t 10) (.t 34) 8 1),none⟩,⟨(some 36),.o (.ld (.t 35) none),none⟩,⟨(some 37),.o (.bin .or (.t 36) (.k (.int .i64 4))),none⟩,⟨(some 38),.o (.MB (.t 10) (.t 34) 8 1),none⟩,⟨none,.o (.st (.t 38) (.t 37) 1),none⟩]))))) (.seq (.oF [⟨(some 40),.o (.ld (.t 3) (some 131)),none⟩,⟨(some 41),.o (.fa (.t 4) 120),none⟩,⟨(some 42),.o (.ld (.t 41) (some 16)),none⟩,⟨(some 43),.o (.ld (.t 10) (some 8)),none⟩,⟨(some 44),.call D [(.t 40),(.t 42),(.t 43)],none⟩,⟨(some 39),.o (.mv (.t 44)),none⟩,⟨(some 45),.o (.ext (.t 39) 0),none⟩,⟨(some 46),.o (.ext (.t 39) 1),none⟩,⟨none,.o (.st (.t 7) (.t 45) 16),none⟩,⟨none,.o (.st (.t 9) (.t 46) 1),none⟩]) (.join (.seq (.oF [⟨(some 47),.o (.ld (.t 9) none),none⟩,⟨(some 48),.o (.bin .eql (.t 47) (.k (.int .i64 0))),none⟩,⟨(some 49),.o (.mv (.t 48)),none⟩,⟨(some 50),.o (.ld (.t 3) (some 131)),(some (49,true))⟩,⟨(some 51),.o (.fa (.t 6) 106),(some (49,true))⟩,⟨(some 52),.o (.ld (.t 51) (some 8)),(some (49,true))⟩,⟨(some 53),.call M [(.t 50),(.t 52)],(some (49,true))⟩,⟨(some 54),.o (.pick (.t 49) (.t 53) (.k (.bool false))),none⟩]) (.cond (.t 54) (.oF [⟨none,.o (.st (.t 9) (.k (.int .i64 7)) 1),none⟩]) .skip)) (.seq (.uo [⟨(some 55),.ld (.t 6) (some 117),none⟩,⟨(some 56),.ld (.t 7) (some 16),none⟩,⟨(some 57),.ld (.t 8) (some 8),none⟩,⟨(some 58),.ld (.t 9) none,none⟩,⟨none,.st (.t 6) (.t 55) 117,none⟩,⟨none,.st (.t 7) (.t 56) 16,none⟩,⟨none,.st (.t 8) (.t 57) 8,none⟩,⟨none,.st (.t 9) (.t 58) 1,none⟩] [(1,4),(2,4),(2,5),(3,4),(3,5),(3,6)]) .ret))))))⟩
def pF:YG:=⟨11,5,[⟨(some 4),.o (.mv (.t 5)),none⟩],.seq (.oF [⟨(some 6),.o (.mv (.t 4)),none⟩,⟨(some 7),.isI true (.t 6),none⟩]) (.cond (.t 7) (.oF [⟨(some 8),.o (.build dA []),none⟩,⟨(some 9),.o (.build fh []),none⟩,⟨(some 10),.o (.build [(.int .i64 0),(.int .i64 0),(.int .i64 0),(.int .i64 0),(.int .i64 0),(.int .i64 0),(.int .i64 0),(.int .i64 0)] []),none⟩,⟨none,.o (.st (.t 0) (.t 8) 117),none⟩,⟨none,.o (.st (.t 1) (.t 9) 16),none⟩,⟨none,.o (.st (.t 2) (.t 10) 8),none⟩,⟨none,.o (.st (.t 3) (.k (.int .i64 8)) 1),none⟩]) .skip)⟩
end
structure Fm where
 samples:Option (List (List AV))
 push:Int
 ask:Int
 lines:Int
 jB:Int
 reset:Bool
 deriving Inhabited
section
variable (C:aQ) (f:Nat) (x:Fm)
def smR(r:List AV):List AV:=r
def Fm.cells:List AV:=[aJ smR x.samples,I x.push,I x.ask,I x.lines,I x.jB,B x.reset]
def Wb(s D:Int):Bool:=decide (s>=0)&&decide (s<=D)
def pG:Bool:=(((decide (((x.samples.getD []).length:Int)<=16)&&Wb x.push 255)&&Wb x.jB 255)&&Wb x.ask 15)&&Wb x.lines 15
def CZ(lines:Int):Fm:=if pG x then x else⟨none,0,0,lines,0,false⟩
theorem Fm.len:x.cells.length=6:=rfl
theorem bf(b:Bool):b=false\/b=true:=by cases b<;>simp
def zK.Spec:Prop:=∀s D:Int,C.c f [I s,I D] (B (Wb s D)) none
def p9.Spec:Prop:=∀x:Fm,C.c f [.agg x.cells] (B (pG x)) none
def kH.Spec:Prop:=∀(x:Fm) (lines:Int),C.c f [.agg x.cells,I lines] (.agg (CZ x lines).cells) none
end
section
variable{P:Program} (hm:P.follows .mixedOrders=true) {f:Nat}
include hm
theorem zK.ok(D:bF P f=some pE):zK.Spec (Pure P) f:=by
 intro s L;refine aq hm D [] rfl ?_;try simp only[I,B,RX,↓KW,seval,pE,Z.H]
 unfold Wb
 refine bg (λh=>?_) (λh=>?_)<;>try simp only[RX,↓KW,seval,h]
 all_goals simp[]
theorem p9.ok{L:Nat} (M:bF P f=some (tI L)) (D:zK.Spec (Pure P) L):p9.Spec (Pure P) f:=by
 intro x;refine aq hm M [] rfl ?_;try simp only[I,B,RX,↓KW,seval,tI,Z.H,Fm.cells]
 unfold pG;generalize decide (((x.samples.getD []).length:Int)<=16)=b0
 repeat' (first|((first|refine af (D x.push 255) ?_|refine af (D x.jB 255) ?_|refine af (D x.ask 15) ?_|refine af (D x.lines 15) ?_);try simp only[B,RX,seval])|(((first|refine bg ?_ ?_|refine az ?_ ?_|refine bz ?_ ?_)<;>intro h)<;>try simp only[B,RX,↓KW,seval,pA,pc,h]))
 all_goals simp[*]
theorem kH.ok{M:Nat} (R:bF P f=some (pz M)) (V:p9.Spec (Pure P) M):kH.Spec (Pure P) f:=by
 intro x lines
 have L:aB x.cells 0 (some 6)=some (.agg x.cells):=rfl
 have D:=V x
 unfold CZ;cases O:pG x
 all_goals
  rw[O]at D;refine aq hm R [] rfl ?_;try simp only[I,RX,↓KW,seval,pz,Z.H,L]
  refine af D ?_;try simp only[B,RX,↓KW,seval,L,Fm.len]
  try rfl
end
structure Mn where
 last:List Int
 ticks:List Int
 deriving Inhabited,DecidableEq
def Mn.cells(m:Mn):List AV:=m.last.map I++m.ticks.map I
structure Mn.Ok (m:Mn):Prop where
 last:m.last.length=8
 ticks:m.ticks.length=8
def nj(l:List Int) (p:Nat):Int:=l.getD p 0
section
variable {l:List Int} {m:Mn} {p:Nat}
theorem YL(h:l.length=8) (D:p<8):(l.map I)[p]? =some (I (nj l p)):=by
 have:p<l.length:=aaN
 simp[nj,this]
theorem Mn.len(h:m.Ok):m.cells.length=16:=by simp[Mn.cells,h.last,h.ticks]
theorem Mn.whole(h:m.Ok):aB m.cells 0 (some 16)=some (.agg m.cells):=by
 have:=Mn.len h
 simp[aB,this];rw[<-this,kf]
theorem Mn.at(h:m.Ok) (L:p<8):m.cells[p]? =some (I (nj m.last p))/\m.cells[8+p]? =some (I (nj m.ticks p)):=by
 have D:=h.last;have M:=h.ticks
 refine⟨?_,?_⟩
 ·rw[Mn.cells,kp (by simp[D,L])];exact YL D L
 ·rw[Mn.cells,kt (by simp[D]),show 8+p-(m.last.map I).length=p by simp[D]];exact YL M L
theorem B8(h:l.length=8):aB (l.map I) 0 (some 8)=some (.agg (l.map I)):=by
 have:(l.map I).length=8:=by simp[h]
 simp[aB,h]
 rw[jp (by simp[h])]
def ud(t:Tb) (m:Mn) (l:List Int):List AV:=t.cells++(m.cells++l.map I)
structure yo (t:Tb) (m:Mn) (l:List Int):Prop where
 t:t.Ln
 m:m.Ok
 l:l.length=8
end
section
variable{t:Tb} {m:Mn} {l:List Int} (h:yo t m l)
include h
theorem adI:(ud t m l).length=155:=by simp[ud,h.t.len,Mn.len h.m,h.l]
theorem kI:aB (ud t m l) 0 (some 155)=some (.agg (ud t m l)):=by
 have:=adI h
 simp[aB,this];rw[<-this,kf]
theorem aif{j:Nat} (D:j<131):(ud t m l)[j]? =t.cells[j]?:=by
 have:=h.t.len
 rw[ud,kp aaN]
theorem aih{j:Nat} (D:j<16):(ud t m l)[131+j]? =m.cells[j]?:=by
 have:=h.t.len
 have:=Mn.len h.m
 rw[ud,kt aaN,kp aaN]
 congr 1;omega
theorem B9{p:Nat} (D:p<8):(ud t m l)[105+p]? =some (I (gm t p))/\(ud t m l)[131+p]? =some (I (nj m.last p))/\(ud t m l)[139+p]? =some (I (nj m.ticks p))/\(ud t m l)[147+p]? =some (I (nj l p))/\(ud t m l)[p*13+6]? =some (I (aV t p).dQ):=by
 have O:=h.t.len
 have hm:=Mn.len h.m
 obtain⟨M,L⟩:=Mn.at h.m D
 refine⟨by rw[aif h aaN];exact h.t.Na D,by rw[aih h aaN];exact M,?_,?_,?_⟩
 ·rw[show 139+p=131+(8+p)by omega,aih h aaN];exact L
 ·rw[ud,kt aaN,kt aaN,show 147+p-t.cells.length-m.cells.length=p by omega];exact YL h.l D
 ·rw[aif h aaN];exact(Tb.A8 (h.t.vh D)).2.2.2.2.2.2.1
theorem adJ:aB (ud t m l) 0 (some 104)=some (.agg (t.phases.flatMap Ph.cells)):=by
 have e:(t.phases.flatMap Ph.cells).length=104:=by rw[aL Ph.len,h.t.phases]
 have:=eS (pre:=[]) (mid:=t.phases.flatMap Ph.cells) (post:=t.rest++(m.cells++l.map I)) (off:=0) (z:=104) rfl e
 rw[ml]at this;rw[ud]
 have D:t.cells=t.phases.flatMap Ph.cells++t.rest:=rfl
 rw[D,List.append_assoc];exact this
end
section
variable (t:Tb) (C:aQ) (m:Mn) (l:List Int) (p:Nat) {a:Nat} {cs:List AV} {j:Nat} {v:AV} (f q:Nat) (x:Int)
theorem adK{t:Tb} (h:t.Ln) {p:Nat} (D:p<8):aB (t.phases.flatMap Ph.cells) (p*13) (some 13)=some (.agg (aV t p).cells):=by
 rw[iP (h.vh D)]
 exact eS (by rw[aL Ph.len,iQ (h.vh D)]) rfl
theorem zL(h:cs[a+j]? =some v):((cs.drop a).drop j)[0]? =some v:=by rw[te,lw];exact h
theorem Ul{b:Nat} (h:cs[a+b+j]? =some v):(((cs.drop a).drop b).drop j)[0]? =some v:=by rw[te,te,lw,<-h];congr 1;omega
def YM(n:Nat):Int:=[0,1,1,2,1,2,2,3].getD n 0
def EU.Spec:Prop:=∀n:Nat,n<8->C.c f [.int .u64 n] (I (YM n)) none
def Um.Spec:Prop:=∀n:Nat,n<8->C.c f [.int .u64 n] (I (YM n)) none
theorem akp:∃n:Nat,n<8/\dL .i64 x 7=n:=by
 have e:dL .i64 x 7=IntKind.i64.wrap ((bv x&&&7#64).toNat:Int):=rfl
 have h:(bv x&&&7#64).toNat<8:=by
  rw[BitVec.toNat_and]
  exact Nat.lt_of_le_of_lt Nat.and_le_right aaO
 exact⟨(bv x&&&7#64).toNat,h,by rw[e,aY aaN aaN]⟩
def Un:Int:=YM (dL .i64 x 7).toNat
def I7:Bool:=dL .i64 x 6 !=0
def Hl.Spec:Prop:=∀(t:Tb) (m:Mn) (l:List Int) (p:Nat),yo t m l->p<8->C.c f [.agg (ud t m l),I p] (I (Un (nj l p))) none
def wH.Spec:Prop:=∀(t:Tb) (m:Mn) (l:List Int) (p:Nat),yo t m l->p<8->C.c f [.agg (ud t m l),I p] (B (I7 (nj l p))) none
def lY(y:Int):Bool:=dL .i64 (nj m.last p) 7==x&&dL .i64 (nj l p) 7==y
def qZ.Spec:Prop:=∀(t:Tb) (m:Mn) (l:List Int) (p:Nat) (x y:Int),yo t m l->p<8->C.c f [.agg (ud t m l),I p,I x,I y] (B (lY m l p x y)) none
def ox:Bool:=lY m l p 4 1||lY m l p 1 2||lY m l p 2 4
def rj.Spec:Prop:=∀(t:Tb) (m:Mn) (l:List Int) (p:Nat),yo t m l->p<8->C.c f [.agg (ud t m l),I p] (B (ox m l p)) none
def ue(D:Nat->Bool):Bool:=(List.range 8).any λp=>(aV t p).on&&D p
def Ho.Spec:Prop:=∀(t:Tb) (m:Mn) (l:List Int) (g:Nat) (L cs:List AV) (D:Nat->Bool),yo t m l->(∀p:Nat,p<8->C.c g (L++[I p]++cs) (B (D p)) none)->C.c f [.agg (ud t m l),.fn (.func g) L cs] (B (ue t D)) none
def I8:Bool:=eK (gm t p) q||eK (gm t q) p
def yp:Bool:=(((q:Int) !=(p:Int))&&I8 t p q)&&I7 (nj l q)
def Lh.Spec:Prop:=∀(t:Tb) (m:Mn) (l:List Int) (p q:Nat),yo t m l->p<8->q<8->C.c f [I q,.ref [I p],.ref (ud t m l)] (B (yp t l p q)) none
def Uo:Bool:=ue t (yp t l p)
def Q3.Spec:Prop:=∀(t:Tb) (m:Mn) (l:List Int) (p:Nat),yo t m l->p<8->C.c f [.agg (ud t m l),I p] (B (Uo t l p)) none
def is1:Bool:=Un (nj l p)==0
def is2:Bool:=decide (1<Un (nj l p))
def is3:Bool:=I7 (nj l p)&&Uo t l p
def is4:Bool:=(dL .i64 (nj l p) 8 !=0)&&Uo t l p
def is6:Bool:=lY m l p 2 1&&decide (nj m.ticks p<(aV t p).dQ)
def Up.Spec:Prop:=∀(t:Tb) (m:Mn) (l:List Int) (p:Nat),yo t m l->p<8->C.c f [I p,.ref (ud t m l)] (B (is1 l p)) none
def Ur.Spec:Prop:=∀(t:Tb) (m:Mn) (l:List Int) (p:Nat),yo t m l->p<8->C.c f [I p,.ref (ud t m l)] (B (is2 l p)) none
def Us.Spec:Prop:=∀(t:Tb) (m:Mn) (l:List Int) (p:Nat),yo t m l->p<8->C.c f [I p,.ref (ud t m l)] (B (is3 t l p)) none
def Ut.Spec:Prop:=∀(t:Tb) (m:Mn) (l:List Int) (p:Nat),yo t m l->p<8->C.c f [I p,.ref (ud t m l)] (B (is4 t l p)) none
def Uu.Spec:Prop:=∀(t:Tb) (m:Mn) (l:List Int) (p:Nat),yo t m l->p<8->C.c f [I p,.ref (ud t m l)] (B (is6 t m l p)) none
def iY:Int:=
 if ue t (is1 l)then 1 else if ue t (is2 l)then 2 else if ue t (is3 t l)then 3 else if ue t (is4 t l)then 4 else if ue t (ox m l)then 5 else if ue t (is6 t m l)then 6 else 0
def zM.Spec:Prop:=∀(t:Tb) (m:Mn) (l:List Int),yo t m l->C.c f [.agg (ud t m l)] (I (iY t m l)) none
end
section
variable{P:Program} (hm:P.follows .mixedOrders=true) {f:Nat}
include hm
section
variable {L O:Nat}
theorem EU.ok(D:bF P f=some jx):EU.Spec (Pure P) f:=by
 intro n L
 have:n=0\/n=1\/n=2\/n=3\/n=4\/n=5\/n=6\/n=7:=aaN
 rcases this with rfl|rfl|rfl|rfl|rfl|rfl|rfl|rfl
 all_goals
  refine aq hm D [] rfl ?_;try simp only[I,RX,↓KW,Nat.reduceBEq,Nat.reduceAdd,Int.reduceLE,Int.reduceToNat,jx,Z.H]
  refine rh (AV.int .i64) ?_;decide+kernel
theorem Um.ok{D:Nat} (O:bF P f=some (gY L D)) (M:EU.Spec (Pure P) D):Um.Spec (Pure P) f:=by
 intro n R;refine aq hm O [] rfl ?_;try simp only[I,RX,↓KW,Nat.reduceBEq,Nat.reduceAdd,gY,Z.H]
 refine af (M n R) ?_;try simp only[I,RX,↓KW,Nat.reduceBEq,Nat.reduceAdd]
theorem Hl.ok{D:Nat} (hc:bF P f=some (mh D)) (V:Um.Spec (Pure P) D):Hl.Spec (Pure P) f:=by
 intro t m l p h O;obtain⟨_,_,_,M,_⟩:=B9 h O
 have hx:0<=(p:Int)/\(p:Int)<(8:Nat):=aaN
 obtain⟨n,hn,e⟩:=akp (nj l p)
 have L:IntKind.u64.wrap (n:Int)=n:=wrap_u64 aaN
 have R:Un (nj l p)=YM n:=by rw[Un,e];simp
 refine aq hm hc [] rfl ?_;try simp only[I,RX,↓KW,Nat.reduceBEq,Nat.reduceAdd,mh,Z.H,hx,M,e,L]
 refine af (V n hn) ?_;try simp only[I,RX,↓KW,Nat.reduceBEq,Nat.reduceAdd]
 rw[R]
theorem wH.ok(M:bF P f=some kC):wH.Spec (Pure P) f:=by
 intro t m l p h D;obtain⟨_,_,_,L,_⟩:=B9 h D
 have O:0<=(p:Int)/\(p:Int)<(8:Nat):=aaN
 refine aq hm M [] rfl ?_;try simp only[I,B,RX,↓KW,Nat.reduceBEq,Nat.reduceAdd,kC,Z.H,O,L]
 rfl
theorem qZ.ok(V:bF P f=some jX):qZ.Spec (Pure P) f:=by
 intro t m l p x y h M;obtain⟨_,R,_,O,_⟩:=B9 h M
 have L:0<=(p:Int)/\(p:Int)<(8:Nat):=aaN
 refine aq hm V [] rfl ?_;try simp only[I,B,RX,↓KW,Nat.reduceBEq,Nat.reduceAdd,jX,Z.H,L,R]
 cases D:dL .i64 (nj m.last p) 7==x
 ·try simp only[RX,↓KW,Nat.reduceBEq,Nat.reduceAdd]
  simp[lY,D]
 ·try simp only[I,RX,↓KW,Nat.reduceBEq,Nat.reduceAdd,L,O]
  simp[lY,D]
theorem rj.ok(V:bF P f=some (jv O)) (hT:qZ.Spec (Pure P) O):rj.Spec (Pure P) f:=by
 intro t m l p h L
 have D:=kI h
 refine aq hm V [] rfl ?_;try simp only[I,B,RX,↓KW,Nat.reduceBEq,Nat.reduceAdd,jv,Z.H,D]
 refine af (hT t m l p 4 1 h L) ?_;cases M:lY m l p 4 1
 ·try simp only[B,RX,↓KW,Nat.reduceBEq,Nat.reduceAdd,D]
  refine af (hT t m l p 1 2 h L) ?_;cases R:lY m l p 1 2
  ·try simp only[B,RX,↓KW,Nat.reduceBEq,Nat.reduceAdd,D]
   refine af (hT t m l p 2 4 h L) ?_;try simp only[B,RX,↓KW,Nat.reduceBEq,Nat.reduceAdd]
   simp[ox,M,R]
  ·try simp only[B,RX,↓KW,Nat.reduceBEq,Nat.reduceAdd]
   simp[ox,M,R]
 ·try simp only[B,RX,↓KW,Nat.reduceBEq,Nat.reduceAdd]
  simp[ox,M]
theorem Ho.ok(hc:bF P f=some mg):Ho.Spec (Pure P) f:=by
 intro t m l g fs cs L h hg
 have R:=adJ h
 refine aq hm hc [] rfl ?_;try simp only[B,RY,↓KW,Nat.reduceBEq,Nat.reduceAdd,mg,Z.H,R]
 refine aK (λk:Nat=>(⟨[(10,.dat (I k) none),(9,.dat (.agg (t.phases.flatMap Ph.cells)) none),(1,.dat (.fn (.func g) fs cs) none)],[],[],400⟩:S)) (λk=>8-k) (λk=>k<=8/\((List.range k).any λp=>(aV t p).on&&L p)=false) ?_ 0 ⟨aaN,rfl⟩ ?_
 ·rintro k ⟨hk,D⟩ A back
  have aa:=aD (k:=k) aaN
  try simp only[I,RY,↓KW,Nat.reduceBEq,Nat.reduceAdd]
  refine az (λh2=>?_) (λh2=>?_)<;>try simp only[RY,↓KW,Nat.reduceBEq,Nat.reduceAdd,h2]
  ·have h8:k<8:=by have:=dT h2;omega
   have hx:0<=(k:Int)/\(k:Int)<(8:Nat):=aaN
   have ac:=adK h.t h8
   have hz:setCells gz 0 (aV t k).cells=(aV t k).cells:=bp rfl
   have ae:gz.length=13:=rfl
   have p0:(aV t k).cells[0]? =some (AV.bool (aV t k).on):=rfl
   have ad:=hg k h8
   have hn:((List.range (k+1)).any λp=>(aV t p).on&&L p)=((aV t k).on&&L k):=by
    rw[lL,List.any_append,D];simp
   have ab:((aV t k).on&&L k)=true->ue t L=true:=λhh=>List.any_eq_true.2 ⟨k,j9.2 h8,hh⟩
   have O:=dC hx (dC ac (dC hz (dC ae (dC Ph.len (p0)))))
   try simp only[RY,↓KW,Nat.reduceBEq,Nat.reduceAdd,O]
   cases M:(aV t k).on
   ·try simp only[RY,↓KW,Nat.reduceBEq,Nat.reduceAdd,O]
    refine back (k+1) _ ⟨aaN,by rw[hn,M];rfl⟩ aaN ?_
    refine ai aaO ?_ ?_ ?_ ?_<;>simp[LX,I,aa]
   ·try simp only[RY,↓KW,Nat.reduceBEq,Nat.reduceAdd,O]
    refine af ad ?_;cases V:L k
    ·try simp only[B,RY,↓KW,Nat.reduceBEq,Nat.reduceAdd]
     refine back (k+1) _ ⟨aaN,by rw[hn,M,V];rfl⟩ aaN ?_
     refine ai aaO ?_ ?_ ?_ ?_<;>simp[LX,I,aa]
    ·try simp only[B,RY,↓KW,Nat.reduceBEq,Nat.reduceAdd]
     rw[ab (by rw[M,V];rfl)]
  ·have:k=8:=by have:=dE h2;omega
   subst this
   have:ue t L=false:=D
   try simp only[this]
 ·refine ai aaO ?_ ?_ ?_ ?_<;>simp[LX,I]
theorem Lh.ok{V R:Nat} (hc:bF P f=some (iX V R)) (hH:lD.Spec (Pure P) V) (hM:wH.Spec (Pure P) R):Lh.Spec (Pure P) f:=by
 intro t m l p q h hp M
 have hw:=kI h
 have w1:=zL (B9 h hp).1
 have w2:=zL (B9 h M).1
 have hx:0<=(p:Int)/\(p:Int)<(8:Nat):=aaN
 have hy:0<=(q:Int)/\(q:Int)<(8:Nat):=aaN
 have D:=dC hw (dC w1 (dC w2 (dC hx (hy))))
 refine aq hm hc [] rfl ?_;try simp only[I,B,RX,↓KW,Nat.reduceBEq,Nat.reduceAdd,iX,Z.H]
 cases L:(q:Int) !=p
 ·try simp only[RX,↓KW,Nat.reduceBEq,Nat.reduceAdd]
  simp[yp,L]
 ·try simp only[I,RX,↓KW,Nat.reduceBEq,Nat.reduceAdd,D]
  refine af (hH _ _) ?_;cases O:eK (gm t p) q
  ·try simp only[I,B,RX,↓KW,Nat.reduceBEq,Nat.reduceAdd,D]
   refine af (hH _ _) ?_;cases h3:eK (gm t q) p
   ·try simp only[B,RX,↓KW,Nat.reduceBEq,Nat.reduceAdd]
    simp[yp,I8,L,O,h3]
   ·try simp only[B,RX,↓KW,Nat.reduceBEq,Nat.reduceAdd,D]
    refine af (hM t m l q h M) ?_;try simp only[B,RX,↓KW,Nat.reduceBEq,Nat.reduceAdd]
    simp[yp,I8,L,O,h3]
  ·try simp only[B,RX,↓KW,Nat.reduceBEq,Nat.reduceAdd,D]
   refine af (hM t m l q h M) ?_;try simp only[B,RX,↓KW,Nat.reduceBEq,Nat.reduceAdd]
   simp[yp,I8,L,O]
theorem Q3.ok{D:Nat} (hc:bF P f=some (jt D L)) (V:Lh.Spec (Pure P) D) (hA:Ho.Spec (Pure P) L):Q3.Spec (Pure P) f:=by
 intro t m l p h O
 have M:=kI h
 refine aq hm hc [] rfl ?_;try simp only[I,B,RX,↓KW,Nat.reduceBEq,Nat.reduceAdd,Nat.reduceLeDiff,jt,Z.H,M]
 refine⟨rfl,?_⟩
 refine af (hA t m l D [] [.ref [I p],.ref (ud t m l)] (yp t l p) h λq R=>V t m l p q h O R) ?_
 try simp only[B,RX,↓KW,Nat.reduceBEq,Nat.reduceAdd]
 rfl
theorem Up.ok{D:Nat} (M:bF P f=some (jq D)) (hL:Hl.Spec (Pure P) D):Up.Spec (Pure P) f:=by
 intro t m l p h O
 have L:=kI h
 refine aq hm M [] rfl ?_;try simp only[I,B,RX,↓KW,Nat.reduceBEq,Nat.reduceAdd,jq,Z.H,L]
 refine af (hL t m l p h O) ?_;try simp only[I,RX,↓KW,Nat.reduceBEq,Nat.reduceAdd]
 rfl
theorem Ur.ok{D:Nat} (M:bF P f=some (jr D)) (hL:Hl.Spec (Pure P) D):Ur.Spec (Pure P) f:=by
 intro t m l p h O
 have L:=kI h
 refine aq hm M [] rfl ?_;try simp only[I,B,RX,↓KW,Nat.reduceBEq,Nat.reduceAdd,jr,Z.H,L]
 refine af (hL t m l p h O) ?_;try simp only[I,RX,↓KW,Nat.reduceBEq,Nat.reduceAdd]
 rfl
theorem Us.ok(hc:bF P f=some (js L O)) (V:wH.Spec (Pure P) L) (hA:Q3.Spec (Pure P) O):Us.Spec (Pure P) f:=by
 intro t m l p h M
 have D:=kI h
 refine aq hm hc [] rfl ?_;try simp only[I,B,RX,↓KW,Nat.reduceBEq,Nat.reduceAdd,js,Z.H,D]
 refine af (V t m l p h M) ?_;cases R:I7 (nj l p)
 ·try simp only[B,RX,↓KW,Nat.reduceBEq,Nat.reduceAdd]
  simp[is3,R]
 ·try simp only[B,RX,↓KW,Nat.reduceBEq,Nat.reduceAdd,D]
  refine af (hA t m l p h M) ?_;try simp only[B,RX,↓KW,Nat.reduceBEq,Nat.reduceAdd]
  simp[is3,R]
theorem Ut.ok{M:Nat} (hc:bF P f=some (ju M)) (hA:Q3.Spec (Pure P) M):Ut.Spec (Pure P) f:=by
 intro t m l p h L
 have R:=kI h
 have V:=(B9 h L).2.2.2.1
 have D:=zL V
 have hx:0<=(p:Int)/\(p:Int)<(8:Nat):=aaN
 refine aq hm hc [] rfl ?_;try simp only[I,B,RX,↓KW,Nat.reduceBEq,Nat.reduceAdd,ju,Z.H,hx,D]
 cases O:dL .i64 (nj l p) 8 !=0
 ·try simp only[RX,↓KW,Nat.reduceBEq,Nat.reduceAdd]
  simp[is4,O]
 ·try simp only[RX,↓KW,Nat.reduceBEq,Nat.reduceAdd,R]
  refine af (hA t m l p h L) ?_;try simp only[B,RX,↓KW,Nat.reduceBEq,Nat.reduceAdd]
  simp[is4,O]
theorem Uu.ok(hc:bF P f=some (jw L)) (hT:qZ.Spec (Pure P) L):Uu.Spec (Pure P) f:=by
 intro t m l p h D
 have O:=kI h
 have R:=Ul (a:=131) (b:=8) (B9 h D).2.2.1
 have V:=zL (B9 h D).2.2.2.2
 have hx:0<=(p:Int)/\(p:Int)<(8:Nat):=aaN
 refine aq hm hc [] rfl ?_;try simp only[I,B,RX,↓KW,Nat.reduceBEq,Nat.reduceAdd,jw,Z.H,O]
 refine af (hT t m l p 2 1 h D) ?_;cases M:lY m l p 2 1
 ·try simp only[B,RX,↓KW,Nat.reduceBEq,Nat.reduceAdd]
  simp[is6,M]
 ·try simp only[I,B,RX,↓KW,Nat.reduceBEq,Nat.reduceAdd,hx,R,V]
  simp[is6,M]
theorem zM.ok{f1 fA f2 f3 f4 fS f5:Nat} (hc:bF P f=some (kB f1 fA f2 f3 f4 fS f5)) (h1:Up.Spec (Pure P) f1) (hA:Ho.Spec (Pure P) fA) (h2:Ur.Spec (Pure P) f2) (h3:Us.Spec (Pure P) f3) (h4:Ut.Spec (Pure P) f4) (hS:rj.Spec (Pure P) fS) (h5:Uu.Spec (Pure P) f5):zM.Spec (Pure P) f:=by
 intro t m l h
 have O:=kI h
 have a1:=hA t m l f1 [] [.ref (ud t m l)] (is1 l) h λq D=>h1 t m l q h D
 have a2:=hA t m l f2 [] [.ref (ud t m l)] (is2 l) h λq D=>h2 t m l q h D
 have a3:=hA t m l f3 [] [.ref (ud t m l)] (is3 t l) h λq D=>h3 t m l q h D
 have a4:=hA t m l f4 [] [.ref (ud t m l)] (is4 t l) h λq D=>h4 t m l q h D
 have a5:=hA t m l fS [.agg (ud t m l)] [] (ox m l) h λq D=>hS t m l q h D
 have a6:=hA t m l f5 [] [.ref (ud t m l)] (is6 t m l) h λq D=>h5 t m l q h D
 refine aq hm hc [] rfl ?_;try simp only[I,RX,↓KW,Nat.reduceBEq,Nat.reduceAdd,kB,Z.H,O]
 refine⟨rfl,?_⟩;refine af a1 ?_;cases L:ue t (is1 l)
 ·try simp only[B,RX,↓KW,Nat.reduceBEq,Nat.reduceAdd,O]
  refine⟨rfl,?_⟩;refine af a2 ?_;cases M:ue t (is2 l)
  ·try simp only[B,RX,↓KW,Nat.reduceBEq,Nat.reduceAdd,O]
   refine⟨rfl,?_⟩;refine af a3 ?_;cases R:ue t (is3 t l)
   ·try simp only[B,RX,↓KW,Nat.reduceBEq,Nat.reduceAdd,O]
    refine⟨rfl,?_⟩;refine af a4 ?_;cases V:ue t (is4 t l)
    ·try simp only[B,RX,↓KW,Nat.reduceBEq,Nat.reduceAdd,O]
     refine⟨rfl,?_⟩;refine af a5 ?_;cases e5:ue t (ox m l)
     ·try simp only[B,RX,↓KW,Nat.reduceBEq,Nat.reduceAdd,O]
      refine⟨rfl,?_⟩;refine af a6 ?_;cases e6:ue t (is6 t m l)
      ·try simp only[B,RX,↓KW,Nat.reduceBEq,Nat.reduceAdd]
       simp[iY,L,M,R,V,e5,e6]
      ·try simp only[B,RX,↓KW,Nat.reduceBEq,Nat.reduceAdd]
       simp[iY,L,M,R,V,e5,e6]
     ·try simp only[B,RX,↓KW,Nat.reduceBEq,Nat.reduceAdd]
      simp[iY,L,M,R,V,e5]
    ·try simp only[B,RX,↓KW,Nat.reduceBEq,Nat.reduceAdd]
     simp[iY,L,M,R,V]
   ·try simp only[B,RX,↓KW,Nat.reduceBEq,Nat.reduceAdd]
    simp[iY,L,M,R]
  ·try simp only[B,RX,↓KW,Nat.reduceBEq,Nat.reduceAdd]
   simp[iY,L,M]
 ·try simp only[B,RX,↓KW,Nat.reduceBEq,Nat.reduceAdd]
  simp[iY,L]
end
end
end Go.Eng
