/- The engine and the library,part 12 of 20: what the proofs of this seat need of them. -/
import Derived.Test.YtkckiembbiiliaaGreatPk11
set_option linter.unnecessarySimpa false
set_option linter.unusedSimpArgs false
set_option linter.unusedVariables false
set_option linter.defProp false
set_option maxRecDepth 10000
set_option maxHeartbeats 4000000
namespace Go.Eng
open Go
open Go.RowKit (Below)
section
variable{C:bz} {Q:Exit->S->Prop} {K:SV->S->Prop} {J:S->Prop} {X:AV->S->Prop}
variable(sl:List (Nat×SV)) (bx:List (Nat×cg)) (lv:List (Nat×Nat)) (nx:Nat)
theorem Qs(b i:Nat):eJ C b i [] J X ⟨sl,bx,lv,nx⟩=J ⟨sl,bx,lv,nx⟩:=rfl
theorem UO(b i:Nat) (d:Option Nat) (o:D7) (r:List XO):eJ C b i (⟨d,o,none⟩::r) J X ⟨sl,bx,lv,nx⟩=bI C (b+i) o (fun v s'=>eJ C b (i+1) r J X (s'.put d v)) X ⟨sl,bx,lv,nx⟩:=rfl
theorem Qt(b i t:Nat) (w:Bool) (d:Option Nat) (o:D7) (r:List XO):eJ C b i (⟨d,o,some (t,w)⟩::r) J X ⟨sl,bx,lv,nx⟩=
  lT w (bI C (b+i) o (fun v s'=>eJ C b (i+1) r J X (s'.put d v)) X ⟨sl,bx,lv,nx⟩) (eJ C b (i+1) r J X (S.put ⟨sl,bx,lv,nx⟩ d .undef)) (lk t sl):=by
 simp only[eJ,ee,lT]
 cases lk t sl with
 |none=>rfl
 |some v=>cases v with
  |dat a q=>cases a<;>rfl
  |_=>rfl
theorem X7(id:Nat) (c:bT):bI C id (.o c) K X ⟨sl,bx,lv,nx⟩=bJ C id c K ⟨sl,bx,lv,nx⟩:=rfl
def FL(k:Exit->S->Prop) (n:Nat):AV->S->Prop:=fun p s=>k (.panic (dS p)) {s with nx:=n}
theorem UP(ops:List XO):aw C (.aO ops) Q ⟨sl,bx,lv,nx⟩=eJ C nx 0 ops (Aq (Q .normal) (nx+ops.length)) (FL Q (nx+ops.length)) ⟨sl,bx,lv,nx⟩:=rfl
theorem Qu(k:Exit->S->Prop) (n:Nat) (p:AV):FL k n p ⟨sl,bx,lv,nx⟩=k (.panic (dS p)) ⟨sl,bx,lv,n⟩:=rfl
class KX where
 run:SV->List (Nat×cg)->List (Nat×Nat)->Prop
 rx:AV->List (Nat×cg)->Prop
def zo(C:bz) (f:Nat) (as:List AV) (id:Nat) (bx:List (Nat×cg)) (lv:List (Nat×Nat)) (k:SV->List (Nat×cg)->List (Nat×Nat)->Prop) (x:AV->List (Nat×cg)->Prop):Prop:=
 xj C f as id lv (fun v l=>k v bx l)\/(∃cs,C.n f as cs/\k (.ptr id 0) ((id,⟨cs,[]⟩)::bx) lv)\/∃p,C.q f [] (as.map some) p []/\x p bx
def WT(C:bz) (f:Nat) (as:List AV) (id:Nat) (bx:List (Nat×cg)) (lv:List (Nat×Nat)) [k:KX]:Prop:=zo C f as id bx lv k.run k.rx
theorem UQ(f:Nat) (as:List AV) (id:Nat) (bx:List (Nat×cg)) (lv:List (Nat×Nat)) (k:SV->List (Nat×cg)->List (Nat×Nat)->Prop) (x:AV->List (Nat×cg)->Prop):zo C f as id bx lv k x=@WT C f as id bx lv ⟨k,x⟩:=rfl
@[congr] theorem UR (f:Nat) {as as':List AV} (id:Nat) (bx:List (Nat×cg)) (lv:List (Nat×Nat)) (k:SV->List (Nat×cg)->List (Nat×Nat)->Prop) (x:AV->List (Nat×cg)->Prop) (h:as=as'):zo C f as id bx lv k x=zo C f as' id bx lv k x:=by rw[h]
theorem kq{f:Nat} {as:List AV} {id:Nat} {bx:List (Nat×cg)} {lv:List (Nat×Nat)} {k:SV->List (Nat×cg)->List (Nat×Nat)->Prop} {x:AV->List (Nat×cg)->Prop} {r:AV} (h:C.c f as r none) (hk:k (.dat r none) bx lv):@WT C f as id bx lv ⟨k,x⟩:=.inl ⟨r,none,h,hk⟩
theorem jT{f:Nat} {as:List AV} {id:Nat} {bx:List (Nat×cg)} {lv:List (Nat×Nat)} {k:SV->List (Nat×cg)->List (Nat×Nat)->Prop} {x:AV->List (Nat×cg)->Prop} {cs:List AV} (h:C.n f as cs) (hk:k (.ptr id 0) ((id,⟨cs,[]⟩)::bx) lv):@WT C f as id bx lv ⟨k,x⟩:=.inr (.inl ⟨cs,h,hk⟩)
theorem Qv(id f:Nat) (args:List bD):bI C id (.call f args) K X ⟨sl,bx,lv,nx⟩=aj (dA ⟨sl,bx,lv,nx⟩ args) fun as=>zo C f as id bx lv (fun v b l=>K v ⟨sl,b,l,nx⟩) (fun p b=>X p ⟨sl,b,lv,nx⟩):=by
 simp only[bI,bJ]
 cases dA ⟨sl,bx,lv,nx⟩ args with
 |none=>simp
 |some as=>rfl
def sF(C:bz) (f:Nat) (css:List (List AV)) (as:List (Option AV)) (ids:List Nat) (id:Nat) (bx:List (Nat×cg)) (lv:List (Nat×Nat)) (k:SV->List (Nat×cg)->List (Nat×Nat)->Prop) (x:AV->List (Nat×cg)->Prop):Prop:=
 yY C f css as ids id bx lv k\/(∃v css',C.q f css as v css'/\x v (dc ids css' bx))\/E9 C f css as ids id bx lv k
def Qw(C:bz) (f:Nat) (css:List (List AV)) (as:List (Option AV)) (ids:List Nat) (id:Nat) (bx:List (Nat×cg)) (lv:List (Nat×Nat)) [k:KX]:Prop:=sF C f css as ids id bx lv k.run k.rx
theorem Qx(f:Nat) (css:List (List AV)) (as:List (Option AV)) (ids:List Nat) (id:Nat) (bx:List (Nat×cg)) (lv:List (Nat×Nat)) (k:SV->List (Nat×cg)->List (Nat×Nat)->Prop) (x:AV->List (Nat×cg)->Prop):sF C f css as ids id bx lv k x=@Qw C f css as ids id bx lv ⟨k,x⟩:=rfl
@[congr] theorem R7 (f:Nat) {css css':List (List AV)} {as as':List (Option AV)} {ids ids':List Nat} (id:Nat) (bx:List (Nat×cg)) (lv:List (Nat×Nat)) (k:SV->List (Nat×cg)->List (Nat×Nat)->Prop) (x:AV->List (Nat×cg)->Prop) (h1:css=css') (h2:as=as') (h3:ids=ids'):sF C f css as ids id bx lv k x=sF C f css' as' ids' id bx lv k x:=by rw[h1,h2,h3]
theorem az{f:Nat} {css:List (List AV)} {as:List (Option AV)} {ids:List Nat} {id:Nat} {bx:List (Nat×cg)} {lv:List (Nat×Nat)} {k:SV->List (Nat×cg)->List (Nat×Nat)->Prop} {x:AV->List (Nat×cg)->Prop} {r:AV} {css':List (List AV)} (h:C.p f css as r none css') (hk:k (.dat r none) (dc ids css' bx) lv):@Qw C f css as ids id bx lv ⟨k,x⟩:=.inl ⟨r,none,css',h,hk⟩
theorem aH{f:Nat} {css:List (List AV)} {as:List (Option AV)} {ids:List Nat} {id:Nat} {bx:List (Nat×cg)} {lv:List (Nat×Nat)} {k:SV->List (Nat×cg)->List (Nat×Nat)->Prop} {x:AV->List (Nat×cg)->Prop} {p:AV} {css':List (List AV)} (h:C.q f css as p css') (hk:x p (dc ids css' bx)):@Qw C f css as ids id bx lv ⟨k,x⟩:=.inr (.inl ⟨p,css',h,hk⟩)
def vq(C:bz) (f id:Nat) (bx:List (Nat×cg)) (lv:List (Nat×Nat)) (as':List (Option AV)) (bs:List Nat) (k:SV->List (Nat×cg)->List (Nat×Nat)->Prop) (x:AV->List (Nat×cg)->Prop) (p:List (Option AV)×List Nat):Prop:=
 cU (p.2++bs)=true/\aj (bh bx (p.2++bs)) fun css=>sF C f css (p.1++as') (p.2++bs) id bx lv k x
theorem Jp(f id:Nat) (as as':List (Option AV)) (ids bs:List Nat) (k:SV->List (Nat×cg)->List (Nat×Nat)->Prop) (x:AV->List (Nat×cg)->Prop):vq C f id bx lv as' bs k x (as,ids)=(cU (ids++bs)=true/\aj (bh bx (ids++bs)) fun css=>sF C f css (as++as') (ids++bs) id bx lv k x):=rfl
theorem M1(id f:Nat) (args:List bD):bI C id (.aB f args) K X ⟨sl,bx,lv,nx⟩=aj (de true ⟨sl,bx,lv,nx⟩ args) (vq C f id bx lv [] [] (fun v b l=>K v ⟨sl,b,l,nx⟩) (fun p b=>X p ⟨sl,b,lv,nx⟩)):=by
 simp only[bI,bJ]
 cases de true ⟨sl,bx,lv,nx⟩ args with
 |none=>simp
 |some p=>
  simp only[aE,vq,List.append_nil]
  cases bh bx p.2 with
  |none=>simp
  |some css=>
   exact(propext and_or_left).symm
def sG(C:bz) (id:Nat) (b:Bool) (g:bD) (args:List bD) (K:SV->S->Prop) (X:AV->S->Prop) (s:S):Option SV->Prop
 |some (.ot f as bs)=>aj (de true s args) (vq C f id s.boxes s.live as bs (fun v b l=>K v ⟨s.slots,b,l,s.nx⟩) (fun p b=>X p ⟨s.slots,b,s.live,s.nx⟩))
 |_=>bJ C id (if b then .gN g args else .eS g args) K s
theorem M3(id:Nat) (b:Bool) (g:bD) (args:List bD):bI C id (.eS b g args) K X ⟨sl,bx,lv,nx⟩=sG C id b g args K X ⟨sl,bx,lv,nx⟩ (bQ ⟨sl,bx,lv,nx⟩ g):=by
 simp only[bI]
 cases bQ ⟨sl,bx,lv,nx⟩ g with
 |none=>rfl
 |some v=>cases v<;>rfl
@[congr] theorem R8 (id:Nat) (b:Bool) (g:bD) (args:List bD) (K:SV->S->Prop) (X:AV->S->Prop) (s:S) {v v':Option SV} (h:v=v'):sG C id b g args K X s v=sG C id b g args K X s v':=by rw[h]
theorem Jq(id:Nat) (b:Bool) (g:bD) (args:List bD) (f:Nat) (as:List (Option AV)) (bs:List Nat):sG C id b g args K X ⟨sl,bx,lv,nx⟩ (some (.ot f as bs))=aj (de true ⟨sl,bx,lv,nx⟩ args) (vq C f id bx lv as bs (fun v b l=>K v ⟨sl,b,l,nx⟩) (fun p b=>X p ⟨sl,b,lv,nx⟩)):=rfl
theorem Jr(id:Nat) (g:bD) (args:List bD) (s:S) (a:AV) (q:Option Nat):sG C id true g args K X s (some (.dat a q))=bJ C id (.gN g args) K s:=rfl
theorem Js(id:Nat) (g:bD) (args:List bD) (s:S) (a:AV) (q:Option Nat):sG C id false g args K X s (some (.dat a q))=bJ C id (.eS g args) K s:=rfl
def M4(f:Nat) (k:SV->Prop) (p:List (Option AV)×List Nat):Prop:=k (.ot f p.1 p.2)
theorem US(id f:Nat) (caps:List bD):bI C id (.Sg f caps) K X ⟨sl,bx,lv,nx⟩=aj (de false ⟨sl,bx,lv,nx⟩ caps) (M4 f fun v=>K v ⟨sl,bx,lv,nx⟩):=rfl
theorem Qy(f:Nat) (k:SV->Prop) (as:List (Option AV)) (bs:List Nat):M4 f k (as,bs)=k (.ot f as bs):=rfl
theorem UT(id:Nat) (x:bD):bI C id (.Hx x) K X ⟨sl,bx,lv,nx⟩=aj (aR ⟨sl,bx,lv,nx⟩ x) fun a=>jn a=true/\X a ⟨sl,bx,lv,nx⟩:=rfl
theorem UU(id t:Nat) (x:bD):bI C id (.Hy t x) K X ⟨sl,bx,lv,nx⟩=aj (aR ⟨sl,bx,lv,nx⟩ x) fun a=>jD a none=true/\K (.dat (.iface t a) none) ⟨sl,bx,lv,nx⟩:=rfl
theorem UW(id t:Nat) (z:AV) (x:bD):bI C id (.NL t z x) K X ⟨sl,bx,lv,nx⟩=aj (aR ⟨sl,bx,lv,nx⟩ x) fun a=>aj (Ee t z a) fun v=>K (.dat v none) ⟨sl,bx,lv,nx⟩:=rfl
theorem UX(id:Nat) (neg:Bool) (x:bD):bI C id (.RD neg x) K X ⟨sl,bx,lv,nx⟩=aj (aR ⟨sl,bx,lv,nx⟩ x) fun a=>aj (Gg neg a) fun v=>K (.dat (.bool v) none) ⟨sl,bx,lv,nx⟩:=rfl
theorem UY(id:Nat) (neg:Bool) (x:bD):bI C id (.K2 neg x) K X ⟨sl,bx,lv,nx⟩=aj (bQ ⟨sl,bx,lv,nx⟩ x) fun a=>aj (Aj neg a) fun v=>K (.dat (.bool v) none) ⟨sl,bx,lv,nx⟩:=rfl
theorem UZ(id e bytes:Nat) (l c:bD):bI C id (.RE e bytes l c) K X ⟨sl,bx,lv,nx⟩=aj (aR ⟨sl,bx,lv,nx⟩ l) fun a=>aj (idxOf a) fun l=>aj (aR ⟨sl,bx,lv,nx⟩ c) fun b=>aj (idxOf b) fun c=>(0<=l/\l<=c/\c*bytes<=140737488355328)/\K (.raw id l.toNat) ⟨sl,bx,(id,e)::lv,nx⟩:=rfl
def M5(e id:Nat) (s:S) (b:Option AV) (k:SV->S->Prop):SV->Prop
 | .raw q n=>aj b fun b=>aj (rowsOf b) fun ys=>(ys.length=n/\∀r∈ys,r.length=1)/\er q s.live=some e/\k (.dat (.int .i64 n) none) {s with slots:=Ak q n (.sl ys) id s.slots,live:=(id,e)::mq q s.live}
 |_=>False
theorem U0(id e:Nat) (x y:bD):bI C id (.RF e x y) K X ⟨sl,bx,lv,nx⟩=aj (bQ ⟨sl,bx,lv,nx⟩ x) (M5 e id ⟨sl,bx,lv,nx⟩ (aR ⟨sl,bx,lv,nx⟩ y) K):=by
 show aj _ _=aj _ _
 cases bQ ⟨sl,bx,lv,nx⟩ x with
 |none=>rfl
 |some v=>cases v<;>rfl
theorem Qz(id e q n:Nat) (b:Option AV):M5 e id ⟨sl,bx,lv,nx⟩ b K (.raw q n)=aj b fun b=>aj (rowsOf b) fun ys=>(ys.length=n/\∀r∈ys,r.length=1)/\er q lv=some e/\K (.dat (.int .i64 n) none) ⟨Ak q n (.sl ys) id sl,bx,(id,e)::mq q lv,nx⟩:=rfl
@[congr] theorem WU (e id:Nat) (s:S) {b b':Option AV} (k:SV->S->Prop) {v v':SV} (h:b=b') (hv:v=v'):M5 e id s b k v=M5 e id s b' k v':=by rw[h,hv]
theorem M6(q n:Nat) (a:AV) (id:Nat):Ak q n a id []=[]:=rfl
theorem QB(q n:Nat) (a:AV) (id t:Nat) (v:SV) (r:List (Nat×SV)):Ak q n a id ((t,v)::r)=(t,yq q n a id v)::Ak q n a id r:=rfl
theorem QC(q n:Nat) (a:AV) (id:Nat):yq q n a id (.raw q n)=.dat a (some id):=by simp[yq]
theorem QD(q n:Nat) (a b:AV) (id:Nat) (m:Option Nat):yq q n a id (.dat b m)=.dat b m:=rfl
theorem QE(q n:Nat) (a:AV) (id b o:Nat):yq q n a id (.ptr b o)=.ptr b o:=rfl
theorem QF(q n:Nat) (a:AV) (id:Nat) (cs:List AV):yq q n a id (.rp cs)=.rp cs:=rfl
theorem QG(q n:Nat) (a:AV) (id:Nat):yq q n a id .undef=.undef:=rfl
theorem QH(b:Nat) (cs:List AV) (q n:Nat):ov b cs (.raw q n)=.raw q n:=rfl
theorem QI(t:Nat) (z:AV):Ee t z .fq=some (.qb [z,.bool false]):=rfl
theorem QJ(t:Nat) (z a:AV):Ee t z (.iface t a)=some (.qb [a,.bool true]):=by simp[Ee]
theorem QK(neg:Bool):Gg neg .fq=some !neg:=rfl
theorem QL(neg:Bool) (t:Nat) (a:AV):Gg neg (.iface t a)=some neg:=rfl
theorem QM(neg:Bool) (b o:Nat):Aj neg (.ptr b o)=some neg:=rfl
theorem QN(neg:Bool) (cs:List AV):Aj neg (.rp cs)=some neg:=rfl
theorem QO(neg:Bool) (q:Option Nat):Aj neg (.dat .mj q)=some !neg:=rfl
theorem U1(b:Nat) (cs:List AV) (f:Nat) (as:List (Option AV)) (bs:List Nat):ov b cs (.ot f as bs)=.ot f as bs:=rfl
theorem WV(t:Nat) (a:AV) (q:Option Nat):jD (.iface t a) q=true:=rfl
theorem U2(q:Option Nat):jD .fq q=true:=rfl
theorem M7(t:Nat) (a:AV):AV.cells (.iface t a)=[.iface t a]:=rfl
theorem U3(t:Nat) (a:AV):js (.iface t a)=.dat (.iface t a) none:=rfl
theorem QS:js .fq=.dat .fq none:=rfl
def FM(k:SV->Prop):SV->Prop
 | .ptr b o=>k (.pt 0 [(b,o)])
 |_=>False
theorem QT(id:Nat) (x:bD):bI C id (.Ge x) K X ⟨sl,bx,lv,nx⟩=aj (bQ ⟨sl,bx,lv,nx⟩ x) (FM fun v=>K v ⟨sl,bx,lv,nx⟩):=by
 show aj _ _=aj _ _
 cases bQ ⟨sl,bx,lv,nx⟩ x with
 |none=>rfl
 |some v=>cases v<;>rfl
theorem M8(k:SV->Prop) (b o:Nat):FM k (.ptr b o)=k (.pt 0 [(b,o)]):=rfl
def FN(k:SV->Prop):SV->Prop
 | .pt 0 ps=>k (.pt 2 ps)
 |_=>False
theorem QU(id:Nat) (x:bD):bI C id (.tc x) K X ⟨sl,bx,lv,nx⟩=aj (bQ ⟨sl,bx,lv,nx⟩ x) (FN fun v=>K v ⟨sl,bx,lv,nx⟩):=by
 show aj _ _=aj _ _
 cases bQ ⟨sl,bx,lv,nx⟩ x with
 |none=>rfl
 |some v=>cases v with
  |pt k ps=>cases k<;>rfl
  |_=>rfl
theorem M9(k:SV->Prop) (ps:List (Nat×Nat)):FN k (.pt 0 ps)=k (.pt 2 ps):=rfl
def G2(s:S) (k:S->Prop) (b:Nat):SV->Prop
 | .pt 0 ps=>aj (cm b s.boxes) fun y=>(4<=b/\y.cells.length=1/\ps.length=1)/\k {s with slots:=tq b ps s.slots,boxes:=lg b s.boxes}
 |_=>False
def Na(s:S) (k:S->Prop) (v:Option SV):SV->Prop
 | .ptr b 0=>aj v (G2 s k b)
 |_=>False
theorem U4(id:Nat) (x v:bD):bI C id (.RG x v) K X ⟨sl,bx,lv,nx⟩=aj (bQ ⟨sl,bx,lv,nx⟩ x) (Na ⟨sl,bx,lv,nx⟩ (K .undef) (bQ ⟨sl,bx,lv,nx⟩ v)):=by
 show aj _ _=aj _ _
 cases bQ ⟨sl,bx,lv,nx⟩ x with
 |none=>rfl
 |some u=>cases u with
  |ptr b o=>cases o with
   |zero=>
    show aj _ _=aj _ _
    cases bQ ⟨sl,bx,lv,nx⟩ v with
    |none=>rfl
    |some q=>cases q with
     |pt k ps=>cases k<;>rfl
     |_=>rfl
   |succ o=>rfl
  |_=>rfl
theorem QV(s:S) (k:S->Prop) (v:Option SV) (b:Nat):Na s k v (.ptr b 0)=aj v (G2 s k b):=rfl
theorem QW(k:S->Prop) (b:Nat) (p:Nat×Nat):G2 ⟨sl,bx,lv,nx⟩ k b (.pt 0 [p])=aj (cm b bx) fun y=>(4<=b/\y.cells.length=1)/\k ⟨tq b [p] sl,lg b bx,lv,nx⟩:=by
 simp[G2]
theorem Nb(b:Nat) (ps:List (Nat×Nat)):tq b ps []=[]:=rfl
theorem QX(b:Nat) (ps:List (Nat×Nat)) (t:Nat) (v:SV) (r:List (Nat×SV)):tq b ps ((t,v)::r)=(t,tn b ps v)::tq b ps r:=rfl
theorem U5(b:Nat) (ps:List (Nat×Nat)) (b' o:Nat):tn b ps (.ptr b' o)=bif b'==b then .pt 2 (ps.drop o)else .ptr b' o:=rfl
theorem U6(b:Nat) (ps:List (Nat×Nat)) (a:AV) (q:Option Nat):tn b ps (.dat a q)=.dat a q:=rfl
theorem U7(b:Nat) (ps:List (Nat×Nat)) (cs:List AV):tn b ps (.rp cs)=.rp cs:=rfl
theorem U8(b:Nat) (ps:List (Nat×Nat)):tn b ps .undef=.undef:=rfl
theorem U9(b:Nat) (ps:List (Nat×Nat)) (k:Nat) (qs:List (Nat×Nat)):tn b ps (.pt k qs)=.pt k qs:=rfl
theorem Va(b:Nat) (ps:List (Nat×Nat)) (f:Nat) (as:List (Option AV)) (bs:List Nat):tn b ps (.ot f as bs)=.ot f as bs:=rfl
def Jt:Option SV->Option (List (Nat×Nat))->Option (List (Nat×Nat))
 |some (.ptr b o),some ps=>some ((b,o)::ps)
 |_,_=>none
theorem Nc:qA ⟨sl,bx,lv,nx⟩ []=some []:=rfl
theorem QY(x:bD) (r:List bD):qA ⟨sl,bx,lv,nx⟩ (x::r)=Jt (bQ ⟨sl,bx,lv,nx⟩ x) (qA ⟨sl,bx,lv,nx⟩ r):=by
 rw[qA];unfold Jt
 cases bQ ⟨sl,bx,lv,nx⟩ x with
 |none=>rfl
 |some v=>cases qA ⟨sl,bx,lv,nx⟩ r<;>cases v<;>rfl
theorem Nd(b o:Nat) (ps:List (Nat×Nat)):Jt (some (.ptr b o)) (some ps)=some ((b,o)::ps):=rfl
theorem QZ(id:Nat) (xs:List bD):bI C id (.Bq xs) K X ⟨sl,bx,lv,nx⟩=aj (qA ⟨sl,bx,lv,nx⟩ xs) fun ps=>K (.pt 1 ps) ⟨sl,bx,lv,nx⟩:=rfl
def Nf(a:Option AV) (k:SV->Prop):SV->Prop
 | .pt 1 ps=>aj a fun a=>aj (idxOf a) fun i=>(0<=i/\i<ps.length)/\k (.pt 2 (ps.drop i.toNat))
 |_=>False
theorem Vb(id:Nat) (x i:bD):bI C id (.K3 x i) K X ⟨sl,bx,lv,nx⟩=aj (bQ ⟨sl,bx,lv,nx⟩ x) (Nf (aR ⟨sl,bx,lv,nx⟩ i) fun v=>K v ⟨sl,bx,lv,nx⟩):=by
 show aj _ _=aj _ _
 cases bQ ⟨sl,bx,lv,nx⟩ x with
 |none=>rfl
 |some v=>cases v with
  |pt k ps=>match k with
   |0=>rfl
   |1=>rfl
   |k+2=>rfl
  |_=>rfl
theorem Q0(a:Option AV) (k:SV->Prop) (ps:List (Nat×Nat)):Nf a k (.pt 1 ps)=aj a fun a=>aj (idxOf a) fun i=>(0<=i/\i<ps.length)/\k (.pt 2 (ps.drop i.toNat)):=rfl
def Ng(k:SV->Prop):SV->Prop
 | .pt 1 ps=>k (.dat (.int .i64 ps.length) none)
 |_=>False
theorem Vc(id:Nat) (x:bD):bI C id (.K4 x) K X ⟨sl,bx,lv,nx⟩=aj (bQ ⟨sl,bx,lv,nx⟩ x) (Ng fun v=>K v ⟨sl,bx,lv,nx⟩):=by
 show aj _ _=aj _ _
 cases bQ ⟨sl,bx,lv,nx⟩ x with
 |none=>rfl
 |some v=>cases v with
  |pt k ps=>match k with
   |0=>rfl
   |1=>rfl
   |k+2=>rfl
  |_=>rfl
theorem Q1(k:SV->Prop) (ps:List (Nat×Nat)):Ng k (.pt 1 ps)=k (.dat (.int .i64 ps.length) none):=rfl
def zq(C:bz) (f:Nat) (css:List (List AV)) (as:List (Option AV)) (ids:List Nat) (bx:List (Nat×cg)) (k:SV->List (Nat×cg)->Prop):Prop:=∃j o b,C.r f css as j o/\ids[j]? =some b/\k (.ptr b o) (dc ids css bx)
theorem Ju{f:Nat} {css:List (List AV)} {as:List (Option AV)} {ids:List Nat} {bx:List (Nat×cg)} {k:SV->List (Nat×cg)->Prop} {j o b:Nat} (h:C.r f css as j o) (hj:ids[j]? =some b) (hk:k (.ptr b o) (dc ids css bx)):zq C f css as ids bx k:=⟨j,o,b,h,hj,hk⟩
def BX(C:bz) (bx:List (Nat×cg)) (p:List (Option AV)×List Nat) (k:SV->List (Nat×cg)->Prop):AV->Prop
 | .fn (.func f) [] []=>cU p.2=true/\aj (bh bx p.2) fun css=>zq C f css p.1 p.2 bx k
 |_=>False
theorem Nh(id:Nat) (g:bD) (args:List bD):bI C id (.Az g args) K X ⟨sl,bx,lv,nx⟩=aj (aR ⟨sl,bx,lv,nx⟩ g) fun a=>aj (de true ⟨sl,bx,lv,nx⟩ args) fun p=>BX C bx p (fun v b=>K v ⟨sl,b,lv,nx⟩) a:=by
 show aj _ _=aj _ _
 cases aR ⟨sl,bx,lv,nx⟩ g with
 |none=>rfl
 |some a=>
  simp only[aE]
  cases de true ⟨sl,bx,lv,nx⟩ args with
  |none=>cases a<;>(try simp)<;>(rename_i fn first caps;cases fn<;>cases first<;>cases caps<;>simp)
  |some p=>cases a<;>(try rfl)<;>(rename_i fn first caps;cases fn<;>cases first<;>cases caps<;>rfl)
theorem Jv(p:List (Option AV)×List Nat) (k:SV->List (Nat×cg)->Prop) (f:Nat):BX C bx p k (.fn (.func f) [] [])=(cU p.2=true/\aj (bh bx p.2) fun css=>zq C f css p.1 p.2 bx k):=rfl
@[congr] theorem V9 (k:SV->Prop) {v v':SV} (h:v=v'):FM k v=FM k v':=by rw[h]
@[congr] theorem Wa (k:SV->Prop) {v v':SV} (h:v=v'):FN k v=FN k v':=by rw[h]
@[congr] theorem WW (s:S) (k:S->Prop) {u u':Option SV} {v v':SV} (hu:u=u') (h:v=v'):Na s k u v=Na s k u' v':=by rw[h,hu]
@[congr] theorem WX (s:S) (k:S->Prop) (b:Nat) {v v':SV} (h:v=v'):G2 s k b v=G2 s k b v':=by rw[h]
@[congr] theorem WY {a a':Option AV} (k:SV->Prop) {v v':SV} (ha:a=a') (h:v=v'):Nf a k v=Nf a' k v':=by rw[h,ha]
@[congr] theorem WZ (k:SV->Prop) {v v':SV} (h:v=v'):Ng k v=Ng k v':=by rw[h]
@[congr] theorem Vd (f:Nat) {css css':List (List AV)} {as as':List (Option AV)} {ids ids':List Nat} {bx bx':List (Nat×cg)} (k:SV->List (Nat×cg)->Prop) (h1:css=css') (h2:as=as') (h3:ids=ids') (h4:bx=bx'):zq C f css as ids bx k=zq C f css' as' ids' bx' k:=by rw[h1,h2,h3,h4]
@[congr] theorem Ve (p:List (Option AV)×List Nat) (k:SV->List (Nat×cg)->Prop) {v v':AV} (h:v=v'):BX C bx p k v=BX C bx p k v':=by rw[h]
theorem Q2(k:S->Prop) (s:S) (c:List PanicEntry):jZ k Q (.panic c) s=Q (.panic c) s:=rfl
theorem Vf(id:Nat) (s:S) (c:List PanicEntry):gO id Q (.panic c) s=Q (.panic c) s:=rfl
theorem W0(l:Nat) (k:S->Prop) (s:S) (c:List PanicEntry):mM l k Q (.panic c) s=Q (.panic c) s:=rfl
theorem W4(s:S) (c:List PanicEntry):xI Q (.panic c) s=Q (.panic c) s:=rfl
theorem Vg(t:Nat) (k k':IntKind) (x y:Int):jn (.iface t (.agg [.int k x,.int k' y]))=true:=rfl
@[congr] theorem W5 (id:Nat) (o:D7) (s:S):bI C id o K X s=bI C id o K X s:=rfl
@[congr] theorem Wb (b i:Nat) (l:List XO) (s:S):eJ C b i l J X s=eJ C b i l J X s:=rfl
@[congr] theorem Wc (n:Nat) (p:AV) (s:S):FL Q n p s=FL Q n p s:=rfl
@[congr] theorem W6 (f:Nat) (k:SV->Prop) {p p':List (Option AV)×List Nat} (h:p=p'):M4 f k p=M4 f k p':=by rw[h]
end
def aJ:=
 And.intro @Qs (And.intro @UO (And.intro @Qt (And.intro @X7 (And.intro @UP (And.intro @Qu (And.intro @Qv (And.intro @Jp (And.intro @M1 (And.intro @M3 (And.intro @Jq (And.intro @Jr (And.intro @Js (And.intro @US (And.intro @Qy (And.intro @UT (And.intro @UU (And.intro @UW (And.intro @UX (And.intro @UY (And.intro @UZ (And.intro @U0 (And.intro @Qz (And.intro @M6 (And.intro @QB (And.intro @QC (And.intro @QD (And.intro @QE (And.intro @QF (@QG)))))))))))))))))))))))))))))
def aK:=
 And.intro @QH (And.intro @QI (And.intro @QJ (And.intro @QK (And.intro @QL (And.intro @QM (And.intro @QN (And.intro @QO (And.intro @U1 (And.intro @WV (And.intro @U2 (And.intro @M7 (And.intro @U3 (And.intro @QS (And.intro @Q2 (And.intro @Vf (And.intro @W0 (And.intro @W4 (@Vg))))))))))))))))))
def bt:=
 And.intro @QT (And.intro @M8 (And.intro @QU (And.intro @M9 (And.intro @U4 (And.intro @QV (And.intro @QW (And.intro @Nb (And.intro @QX (And.intro @U5 (And.intro @U6 (And.intro @U7 (And.intro @U8 (And.intro @U9 (And.intro @Va (And.intro @Nc (And.intro @QY (And.intro @Nd (And.intro @QZ (And.intro @Vb (And.intro @Q0 (And.intro @Vc (And.intro @Q1 (And.intro @Nh (@Jv))))))))))))))))))))))))
def aL:=And.intro @UQ @Qx
def Ni(p:AV) (css:List (List AV)):Exit->S->Prop
 | .panic c,s=>c=dS p/\gi s.boxes 0 css
 |_,_=>False
theorem Q3(p:AV) (css:List (List AV)) (s:S):Ni p css (.panic (dS p)) s=gi s.boxes 0 css:=by simp[Ni]
def Q4(res:List gb) (cs:List AV):Exit->S->Prop
 | .normal,s| .ret,s=>match res with
  |[.tmp t]=>match lk t s.slots with
   |some (.ptr b 0)=>4<=b/\aj (cm b s.boxes) fun x=>x.cells=cs
   |_=>False
  |_=>False
 |_,_=>False
section
variable{P:Program}
theorem zu{w:World} {π:Nat->Nat->Prop} {Bs:List Nat} {vs:List Value} {css:List (List AV)} {args:List (Option AV)} {nt:Nat} (hn:args.length<=nt) (h4:css.length<=4)
  (hprot:∀b o,π b o->b<w.heap.size) (hnd:Bs.Nodup) (hbx:cz w π css Bs) (hd:eK w π args Bs vs):
  dr P nt (gP.ia w Bs) w π (oC css args) {tmps:=vs.toArray++Array.replicate (nt-vs.toArray.size) undef,defers:=[]} w:=by
 have hlen:=sC hd
 obtain⟨hbl,hbget⟩:=hbx.get
 have hβ:∀(j B:Nat),Bs[j]? =some B->(gP.ia w Bs).β j=B:=fun j B hj=>by simp[gP.ia,hj]
 refine⟨Nat.le_refl 4,(gP.ia w Bs).β,fun _=>undef,π,fun n=>n<4,fun _ h=>h,?_⟩
 have hbox:∀b x,cm b (oC css args).boxes=some x->∃B cs,b<4/\Bs[b]? =some B/\(gP.ia w Bs).β b=B/\x=⟨cs,[]⟩/\o6 (fun _=>undef) w π B ⟨cs,[]⟩:=by
  intro b x hb;obtain⟨cs,_,h2,h3⟩:=t9 hb;simp only[Nat.sub_zero]at h2
  have hlt:b<css.length:=(List.getElem?_eq_some_iff.1 h2).1
  have hB:Bs[b]? =some Bs[b]:=List.getElem?_eq_getElem (by omega)
  exact⟨_,cs,by omega,hB,hβ _ _ hB,h3,hbget b cs _ h2 hB⟩
 refine{size:=?_,slots:=?_,boxes:=?_,inj:=?_,live:=fun q e h=>(by cases h),bR:=fun q q' e e' B h=>(by cases h),cG:=fun q e b x h=>(by cases h),below:=.refl _ _,fo:=Nat.le_refl _,eu:=hprot,dZ:=fun _ _ h=>h,cF:=fun _ _ h=>.inl h,lR:=fun _ _=>rfl,jq:=fun _ h=>h,kept:=fun _ _ _=>rfl}
 ·simp;omega
 ·intro t v hv
  obtain⟨x,_,hx,hor⟩:=oE hd hv;simp only[Nat.sub_zero]at hx
  have htl:t<vs.length:=(List.getElem?_eq_some_iff.1 hx).1
  have hget:(vs.toArray++Array.replicate (nt-vs.toArray.size) undef)[t]? =some x:=by
   simp[Array.getElem?_append,htl]
   simpa using(List.getElem?_eq_some_iff.1 hx).2
  rcases hor with⟨a,rfl,hda⟩|⟨j,B,hB,⟨rfl,rfl⟩|⟨rfl,rfl⟩⟩
  ·exact⟨⟨x,hget,(oD (U:=fun n=>n<4) hda).1⟩,(oD (β:=id) (τ:=fun _=>undef) hda).2⟩
  ·refine⟨⟨_,hget,?_⟩,?_⟩
   ·show Value.pointer (some ⟨B,0,none⟩)=.pointer (some ⟨(gP.ia w Bs).β (0+j),0,none⟩)
    rw[Nat.zero_add,hβ j B hB]
   ·have:j<Bs.length:=(List.getElem?_eq_some_iff.1 hB).1
    show 0+j<4
    omega
  ·have hj:j<Bs.length:=(List.getElem?_eq_some_iff.1 hB).1
   refine⟨⟨_,hget,?_⟩,fun p hp=>?_⟩
   ·show Value.agg #[.pointer (some ⟨B,0,none⟩)]=.agg #[.pointer (some ⟨(gP.ia w Bs).β (0+j),0,none⟩)]
    rw[Nat.zero_add,hβ j B hB]
   ·simp at hp;subst hp
    show j<4
    omega
 ·intro b x hb
  obtain⟨B,cs,h1,h2,h3,rfl,h5⟩:=hbox b x hb
  exact⟨h1,.inr ⟨h1,by rw[h3];exact List.mem_of_getElem? h2⟩,by rw[h3];exact h5,fun o q hq=>by cases hq⟩
 ·intro b b' x x' hb hb' e
  obtain⟨B,_,_,h2,h3,_,_⟩:=hbox b x hb;obtain⟨B',_,_,h2',h3',_,_⟩:=hbox b' x' hb';rw[h3,h3']at e;subst e;exact wj hnd b b' B h2 h2'
theorem jv{nt:Nat} {n0:gP} {w:World} {π:Nat->Nat->Prop} {s:S} {a:Act} {fn:Func} {tm:Array Value} {R:Ending->World->Prop} {u:FrameMode} (hu:u≠.run) {dd:List Deferred}
  (main:∀w',dr P nt n0 w π s a w'->LeavesInM Fence.wide 0 P fn tm R dd u w'):
  ∀(Ds:List Nat) (w':World),Ds.Nodup->(∀D∈Ds,n0.n<=D/\w'.heap[D]? =some (.deferred (some [])))->dr P nt n0 w π s a w'->w.heap.size<=n0.n->LeavesInM Fence.wide 0 P fn tm R (Ds.map HA++dd) u w'
 |[],w',_,_,R',_=>main w' R'
 |D::Ds,w',hnd,hD,R',hn=>by
  obtain⟨h1,h2⟩:=hD D List.mem_cons_self;simp only[List.nodup_cons]at hnd;refine⟨hu,.inl ⟨D,_,rfl,run_takeDeferred h2,?_⟩⟩
  refine jv hu main Ds _ hnd.2 (fun D' hD'=>?_) ((R'.putObj h2 rfl rfl).NV (R'.below.putObj (Nat.le_trans hn h1) h1 _) R'.fo (fun b o hb=>(jR h2 rfl rfl _).trans (R'.kept b o hb))) hn
  obtain⟨g1,g2⟩:=hD D' (List.mem_cons_of_mem _ hD')
  exact⟨g1,(World.putObj_heap_other (fun e=>hnd.1 (by rw[<-e];exact hD'))).trans g2⟩
theorem rD(hm:P.follows .mixedOrders=true) {f:FuncId} {cf:cR} {mo:Bool} (hcf:iC mo P f=some cf) {css css':List (List AV)} {args:List (Option AV)} {p:AV} (hn:args.length<=cf.nt) (hl:css'.length=css.length) (h4:css.length<=4)
  (h:aw (Pure P) cf.code (Ni p css') (oC css args)):HS P f css args p css':=by
 obtain⟨fn,c,cc,hfn,hbody,hrs,hcc,ec,en,hfit,hcall⟩:=qX hcf;rw[ec]at h;rw[en]at hn
 refine⟨hcall,hl,h4,fun w π Bs vs hprot hnd hbx hd=>?_⟩
 have hbl:=hbx.get.1
 have R:=zu (P:=P) hn h4 hprot hnd hbx hd
 refine callsIn_wide.1 (callsIn_of_wp_marks (n:=0) (F:=Fence.wide) hfn hbody trivial (wpIn_mono (nO (oB hm c cc hcc hfit _ (fun _=>False) ⟨#[],[]⟩ (fun _ h=>h.elim) none 0 w _ _ _ _ ⟨R,fun l h=>by(cases h),⟨[],rfl,.nil,by simp⟩,fun _ h=>h.elim⟩ h)) ?_))
 rintro e a' w' ⟨s,hq,R',_,⟨Ds,hm1,hm2,hm3⟩,_⟩
 cases e with
 |panic ch=>
  obtain⟨rfl,hho⟩:=hq
  show LeavesInM _ _ _ _ _ _ a'.defers _ _
  rw[hm1]
  refine jv (by simp) (fun w' R'=>?_) Ds w' hm2 hm3 R' (Nat.le_refl _)
  obtain⟨_,β,τ,π',U,hU,R'⟩:=R'
  have hB:=R'.C2 hbl h4 hl hho
  exact⟨π',rfl,R'.below,R'.dZ,fun b o h=>(R'.cF b o h).imp id (fun k=>k.elim id (fun k=>absurd h (kQ hB b k o))),R'.eu,hB⟩
 |_=>exact hq.elim
def Q5(res:List gb) (css:List (List AV)) (j o:Nat):Exit->S->Prop
 | .normal,s| .ret,s=>match res with
  |[.tmp t]=>lk t s.slots=some (.ptr j o)/\gi s.boxes 0 css
  |_=>False
 |_,_=>False
theorem vr (hm:P.follows .mixedOrders=true) {f:FuncId} {cf:cR} {mo:Bool} (hcf:iC mo P f=some cf) {css:List (List AV)} {args:List (Option AV)} {j o:Nat} (hn:args.length≤cf.nt) (h4:css.length≤4) (hj:j < css.length)
    (h:aw (Pure P) cf.code (Q5 cf.res css j o) (oC css args)):HU P f css args j o:=by
  obtain ⟨fn,c,cc,hfn,hbody,hrs,hcc,ec,en,hfit,hcall⟩:=qX hcf
  rw [ec] at h
  rw [en] at hn
  refine ⟨hcall,h4,fun w π Bs vs hprot hnd hbx hd=>?_⟩
  have hbl:=hbx.get.1
  have R:=zu (P:=P) hn h4 hprot hnd hbx hd
  refine callsIn_wide.1 (callsIn_of_wp_marks (n:=0) (F:=Fence.wide) hfn hbody trivial (wpIn_mono (nO (oB hm c cc hcc hfit _ (fun _=>False) ⟨#[],[]⟩ (fun _ h=>h.elim) none 0 w _ _ _ _ ⟨R,fun l h=>by (cases h),⟨[],rfl,.nil,by simp⟩,fun _ h=>h.elim⟩ h)) ?_))
  have main:∀ (s:S) (a':Act) (w':World),Q5 cf.res css j o .ret s→dr P fn.ntmps (gP.ia w Bs) w π s a' w' →
      ∃ v,(results fn a'.tmps).run P w'=.ok v w'∧∃ B π',Bs[j]? = some B∧Ending.returned v=.returned (.pointer (some ⟨B,o,none⟩))∧th (gP.ia w Bs) w w'∧(∀ b o,π b o→π' b o)∧(∀ b o,π' b o→π b o∨w.heap.size≤b) ∧
        (∀ b o,π' b o→b < w'.heap.size)∧cz w' π' css Bs:=by
    rintro s a' w' hq ⟨_,β,τ,π',U,hU,R'⟩
    simp only [Q5] at hq
    split at hq<;>try (exact hq.elim)
    rename_i t hres
    obtain ⟨hlk,hho⟩:=hq
    obtain ⟨⟨y,hy,hry⟩,_⟩:=R'.slots t _ hlk
    have hry:y=.pointer (some ⟨β j,o,none⟩):=hry
    have hB:=R'.C2 hbl h4 rfl hho
    have hjB:Bs[j]? = some Bs[j]:=List.getElem?_eq_getElem (by omega)
    have hβ:β j=Bs[j]:=by
      rw [R'.lR j (by omega)]
      simp [gP.ia,hjB]
    have hr:fn.results.toList=[.tmp t]:=by
      rw [hres] at hrs
      cases hf:fn.results.toList with
      | nil=>rw [hf] at hrs; simp at hrs
      | cons rv rvs =>
        rw [hf] at hrs
        simp only [List.mapM_cons,Option.bind_eq_bind,Option.bind_eq_some_iff,Option.pure_def,Option.some.injEq] at hrs
        obtain ⟨cr,hcr,crs,hcrs,e⟩:=hrs
        cases e
        cases rvs with
        | nil =>
          cases rv with
          | tmp t'=>cases hcr; rfl
          | cell a t'=>simp only [An,Option.map_eq_some_iff,reduceCtorEq,and_false,exists_false] at hcr
        | cons x xs =>
          simp only [List.mapM_cons,Option.bind_eq_bind,Option.bind_eq_some_iff,Option.pure_def,Option.some.injEq] at hcrs
          obtain ⟨_,_,_,_,h⟩:=hcrs
          cases h
    refine ⟨y,?_,Bs[j],π',hjB,by rw [hry,hβ],R'.below,R'.dZ,fun b o h=>(R'.cF b o h).imp id (fun k=>k.elim id (fun k=>absurd h (kQ hB b k o))),R'.eu,hB⟩
    have e:fn.results=#[.tmp t]:=Array.toList_inj.1 (by simpa using hr)
    rw [pH,e]
    simp [mz,hy]
  rintro e a' w' ⟨s,hq,R',_,⟨Ds,hm1,hm2,hm3⟩,_⟩
  have hm1:a'.defers=Ds.map HA:=by simpa using hm1
  cases e with
  | normal=>show LeavesInM _ _ _ _ _ _ a'.defers _ _; rw [hm1]; exact eZ (main s a' · hq) Ds w' hm2 hm3 R' (Nat.le_refl _)
  | ret=>show LeavesInM _ _ _ _ _ _ a'.defers _ _; rw [hm1]; exact eZ (main s a' · hq) Ds w' hm2 hm3 R' (Nat.le_refl _)
  | _=>exact hq.elim
theorem Jw (hm:P.follows .mixedOrders=true) {f:FuncId} {cf:cR} {mo:Bool} (hcf:iC mo P f=some cf) {args:List AV} {cs:List AV} (hn:args.length≤cf.nt)
    (h:aw (Pure P) cf.code (Q4 cf.res cs) (oC [] (args.map some))):NP P f args cs:=by
  obtain ⟨fn,c,cc,hfn,hbody,hrs,hcc,ec,en,hfit,hcall⟩:=qX hcf
  rw [ec] at h
  rw [en] at hn
  refine ⟨hcall,fun w π vs hprot hd=>?_⟩
  have R:=zu (P:=P) (nt:=fn.ntmps) (css:=[]) (args:=args.map some) (by simpa using hn) (by simp) hprot List.nodup_nil trivial (pF hd)
  refine callsIn_wide.1 (callsIn_of_wp_marks (n:=0) (F:=Fence.wide) hfn hbody trivial (wpIn_mono (nO (oB hm c cc hcc hfit _ (fun _=>False) ⟨#[],[]⟩ (fun _ h=>h.elim) none 0 w _ _ _ _ ⟨R,fun l h=>by (cases h),⟨[],rfl,.nil,by simp⟩,fun _ h=>h.elim⟩ h)) ?_))
  have main:∀ (s:S) (a':Act) (w':World),Q4 cf.res cs .ret s→dr P fn.ntmps (gP.ia w []) w π s a' w' →
      ∃ v,(results fn a'.tmps).run P w'=.ok v w'∧∃ B π',Ending.returned v=.returned (.pointer (some ⟨B,0,none⟩))∧w.heap.size≤B∧Below w.heap.size w w'∧(∀ b o,π b o→π' b o)∧(∀ b o,π' b o→π b o∨w.heap.size≤b) ∧
        (∀ b o,π' b o→b < w'.heap.size)∧o6 (fun _=>undef) w' π' B ⟨cs,[]⟩:=by
    rintro s a' w' hq ⟨_,β,τ,π',U,hU,R'⟩
    simp only [Q4] at hq
    split at hq<;>try (exact hq.elim)
    rename_i t hres
    split at hq<;>try (exact hq.elim)
    rename_i b hlk
    obtain ⟨h4,hq⟩:=hq
    obtain ⟨x,hx,hxc⟩:=af hq
    obtain ⟨⟨y,hy,hry⟩,_⟩:=R'.slots t _ hlk
    have hry:y=.pointer (some ⟨β b,0,none⟩):=hry
    obtain ⟨g1,g2,g3,g4⟩:=R'.boxes b x hx
    have hge:w.heap.size≤β b:=by
      rcases g2 with h|h
      · exact h
      · omega
    have hr:fn.results.toList=[.tmp t]:=by
      rw [hres] at hrs
      cases hf:fn.results.toList with
      | nil=>rw [hf] at hrs; simp at hrs
      | cons rv rvs =>
        rw [hf] at hrs
        simp only [List.mapM_cons,Option.bind_eq_bind,Option.bind_eq_some_iff,Option.pure_def,Option.some.injEq] at hrs
        obtain ⟨cr,hcr,crs,hcrs,e⟩:=hrs
        cases e
        cases rvs with
        | nil =>
          cases rv with
          | tmp t'=>cases hcr; rfl
          | cell a t'=>simp only [An,Option.map_eq_some_iff,reduceCtorEq,and_false,exists_false] at hcr
        | cons x xs =>
          simp only [List.mapM_cons,Option.bind_eq_bind,Option.bind_eq_some_iff,Option.pure_def,Option.some.injEq] at hcrs
          obtain ⟨_,_,_,_,h⟩:=hcrs
          cases h
    refine ⟨y,?_,β b,π',by rw [hry],hge,R'.below.below (fun _ h=>by cases h),R'.dZ,fun b o h=>(R'.cF b o h).imp id (fun k=>k.elim id (fun k=>by cases k)),R'.eu,?_⟩
    · have e:fn.results=#[.tmp t]:=Array.toList_inj.1 (by simpa using hr)
      rw [pH,e]
      simp [mz,hy]
    · have:=g3.tW (τ':=fun _=>undef)
      rwa [hxc] at this
  rintro e a' w' ⟨s,hq,R',_,⟨Ds,hm1,hm2,hm3⟩,_⟩
  have hm1:a'.defers=Ds.map HA:=by simpa using hm1
  cases e with
  | normal=>show LeavesInM _ _ _ _ _ _ a'.defers _ _; rw [hm1]; exact eZ (main s a' · hq) Ds w' hm2 hm3 R' (Nat.le_refl _)
  | ret=>show LeavesInM _ _ _ _ _ _ a'.defers _ _; rw [hm1]; exact eZ (main s a' · hq) Ds w' hm2 hm3 R' (Nat.le_refl _)
  | _=>exact hq.elim
end
open Go.RowKit (Below)
def isRec(o:Oper):Option Nat:=
 match o.op,o.dst,o.guard with
 | .call ⟨.builtin .recover,as,_⟩,some d,none=>if as.isEmpty then some d else none
 |_,_,_=>none
def gD:bp->Bool
 | .skip| .Cv _| .aO _| .qm _ _| .xH _ _ _ _=>true
 | .seq a b| .join a b| .cond _ a b=>gD a&&gD b
 |_=>false
structure G3 where
 nt:Nat
 d:Nat
 ops:List XO
 code:bp
def G4(P:Program) (f:FuncId):Option G3:=
 match P.funcs[f]? with
 |some fn=>match fn.body with
  |some (.seq (.region _ ops false) rest)=>match ops.toList with
   |o::os=>match isRec o,qH P ops os,bN true P rest with
    |some d,some xs,some cc=>if mP fn.ntmps xs&&decide (d<fn.ntmps)&&cc.fits fn.ntmps&&gD cc&&bY P f&&fn.results.isEmpty then some ⟨fn.ntmps,d,xs,cc⟩else none
    |_,_,_=>none
   |[]=>none
  |_=>none
 |none=>none
def G5(css:List (List AV)):Exit->S->Prop
 | .normal,s| .ret,s=>gi s.boxes 0 css
 |_,_=>False
theorem Nj(css:List (List AV)) (s:S):G5 css .normal s=gi s.boxes 0 css:=rfl
theorem Nk(css:List (List AV)) (s:S):G5 css .ret s=gi s.boxes 0 css:=rfl
def Nl(rv:AV):Bool:=match rv with
 | .fq=>true
 |p=>jn p
def R9(rv:AV):Value:=match rv with
 | .fq=>.nilIface
 |p=>Oj p
section
variable{P:Program} {nt:Nat} {n0:gP} {π0:Nat->Nat->Prop}
theorem Q6{w:World} {π:Nat->Nat->Prop} {rv:AV} (h:Nl rv=true):DV w π rv (R9 rv):=by
 cases rv<;>try(simp[Nl,jn]at h;done)
 ·rename_i t a
  exact .iface t a _ (.flat h)
 ·exact .fq
theorem Nm{mo:Bool} {x y:Code} {cc:bp} (hc:bN mo P (.seq x y)=some cc):∃cx cy,bN mo P x=some cx/\bN mo P y=some cy/\(cc=.seq cx cy\/cc=.join cx cy):=by
 simp only[bN]at hc
 split at hc<;>try(cases hc;done)
 rename_i cx cy hcx hcy;cases hc;refine⟨cx,cy,hcx,hcy,?_⟩;split
 ·exact .inl rfl
 ·exact .inr rfl
theorem xy{mo:Bool} (hm:P.follows .mixedOrders=true):∀(c:Code) (cc:bp),bN mo P c=some cc->gD cc=true->cc.fits nt=true->∀(n:Nat) (w0:World) (QA:Exit->S->Prop) (s:S) (a:Act) (w:World),
  dr P nt n0 w0 π0 s a w->aw (Pure P) cc QA s->c.wpIn (FW none) n P (fun e a' w'=>∃s',QA e s'/\dr P nt n0 w0 π0 s' a' w'/\a'.defers=a.defers) a w:=by
 intro c
 induction c with
 |skip=>intro cc hc _ _ n w0 QA s a w R h;cases hc;exact wpIn_skip ⟨s,h,R,rfl⟩
 |region id ops lq=>
  intro cc hc hpl hf n w0 QA s a w R h;obtain⟨h4,β,τ,π,U,hU,R0⟩:=R
  have put:∀{s':S} {a':Act} {w':World},dr P nt n0 w π0 s' a' w'->dr P nt n0 w0 π0 s' a' w':=fun RN=>
   RN.NV (R0.below.trans RN.below) R0.fo (fun b o h=>(RN.kept b o h).trans (R0.kept b o h))
  simp only[bN]at hc;split at hc
  ·rename_i hmo
   simp only[Bool.and_eq_true,Bool.not_eq_true']at hmo;obtain⟨_,rfl⟩:=hmo;simp only[Option.map_eq_some_iff]at hc;obtain⟨cos,hcos,rfl⟩:=hc
   refine tw (w0:=w) hcos hf R0.Lz hU h (T:=fun _=>False) (fun d hd ht=>ht) ?_ ?_
   ·intro s' a' w' β' τ' π' U' hU' hK hp R'
    exact⟨_,hK,put ⟨by show 4<=s.nx+_;omega,β',τ',π',U',hU',R'.nx _⟩,hp.1⟩
   ·intro p s' a' w' β' τ' π' U' hU' hK hp R'
    exact⟨_,hK,put ⟨by show 4<=s.nx+_;omega,β',τ',π',U',hU',R'.nx _⟩,hp.1⟩
  split at hc<;>try(cases hc;done)
  rename_i cos hcos
  have fin:∀(ro:List Nat) (s1:S) (π1:Nat->Nat->Prop),Rel P nt n0 w0 π0 U s1 a w β τ π1->s1.nx=s.nx->(lq=true->∃dQ T,jG dQ ops.toList cos=true/\uG T (nA ro 0 cos) dQ=true/\kX T s1.nx 0 (nA ro 0 cos)=true/\n8 T s1)->gx nt cos=true->
    jg (Pure P) s1.nx 0 (nA ro 0 cos) (fun s'=>QA .normal {s' with nx:=s.nx+cos.length}) s1->(Code.region id ops lq).wpIn (FW none) n P (fun e a' w'=>∃s',QA e s'/\dr P nt n0 w0 π0 s' a' w'/\a'.defers=a.defers) a w:=by
   intro ro s1 π1 R1 hnx hd hf h
   refine uS (w0:=w) hm hcos ro hd hf R1.Lz (by rw[hnx];exact hU) h (T:=fun _=>False) (fun d hd ht=>ht) ?_
   intro s' a' w' β' τ' π' U' hU' hK hp R';rw[hnx]at hU'
   exact⟨_,hK,put ⟨by show 4<=s.nx+_;omega,β',τ',π',U',hU',R'.nx _⟩,hp.1⟩
  split at hc
  ·rename_i hdr
   subst hdr
   have Cv:∀dQ,jG dQ ops.toList cos=true->gx nt cos=true->(∃ids,(cU ids&&jE ids)=true/\aj (bh s.boxes ids) fun css=>Gh (Pure P) cos dQ (fun s'=>QA .normal {s' with nx:=s.nx+cos.length}) (iB ids css s))->(Code.region id ops true).wpIn (FW none) n P (fun e a' w'=>∃s',QA e s'/\dr P nt n0 w0 π0 s' a' w'/\a'.defers=a.defers) a w:=by
    intro dQ hok hf h;obtain⟨ids,hids,h⟩:=h;obtain⟨css,hcss,ro,hdyn,h⟩:=af h;rw[Bool.and_eq_true]at hids
    obtain⟨π1,_,R1,_⟩:=R0.uO (ew hids.1) hids.2 hcss
    simp only[qD,K6,Bool.and_eq_true]at hdyn
    exact fin ro _ π1 R1 xQ (fun _=>⟨_,_,hok,hdyn.2,hdyn.1.2,fun t b ⟨v,hl,hb⟩=>mw hdyn.1.1 t b v hl hb⟩) hf h
   split at hc
   ·split at hc<;>try(cases hc;done)
    rename_i hok;unfold Bw at hc
    split at hc<;>try(cases hc;done)
    rename_i k _
    split at hc<;>try(cases hc;done)
    rename_i d hd;simp only at hc
    split at hc<;>try(cases hc;done)
    rename_i hk;cases hc;simp only[Bool.and_eq_true,decide_eq_true_eq]at hk;obtain⟨⟨⟨h1,h2⟩,h3⟩,h5⟩:=hk
    rcases h with h|h
    ·exact Cv _ hok hf h
    ·refine tA (w0:=w) hm hcos h1 h2 h3 (by simpa using h5) hf R0.Lz hU h (T:=fun _=>False) (fun d hd ht=>ht) ?_
     intro p s' a' w' β' τ' π' U' hU' hK hp R'
     exact⟨_,hK,put ⟨by show 4<=s.nx+_;omega,β',τ',π',U',hU',R'.nx _⟩,hp.1⟩
   ·split at hc
    ·split at hc<;>try(cases hc;done)
     rename_i hok;cases hc
     exact fin [] s π R0 rfl (fun _=>⟨[],[],hok,rfl,qQ,fun _ _ _=>rfl⟩) hf (by rw[oZ];exact h)
    ·split at hc<;>try(cases hc;done)
     rename_i hok;cases hc;rw[Bool.and_eq_true]at hok;exact Cv _ hok.1 hf h
  ·rename_i hdr
   cases hc
   exact fin [] s π R0 rfl (fun e=>absurd e hdr) hf (by rw[oZ];exact h)
 |seq x y ihx ihy=>
  intro cc hc hpl hf n w0 QA s a w R h;obtain⟨cx,cy,hcx,hcy,hor⟩:=Nm hc
  have key:gD cx=true->gD cy=true->cx.fits nt=true->cy.fits nt=true->aw (Pure P) cx (jZ (down (aw (Pure P) cy QA)) QA) s->(Code.seq x y).wpIn (FW none) n P (fun e a' w'=>∃s',QA e s'/\dr P nt n0 w0 π0 s' a' w'/\a'.defers=a.defers) a w:=by
   intro p1 p2 f1 f2 h;refine wpIn_seq (wpIn_mono (ihx cx hcx p1 f1 n w0 _ s a w R h) ?_)
   rintro e a' w' ⟨s',hq,R',hd⟩
   cases e with
   |normal=>
    obtain⟨s2,hF,R2⟩:=R'.down hq;refine wpIn_mono (ihy cy hcy p2 f2 n w0 QA s2 a' w' R2 hF) ?_
    rintro e a2 w2 ⟨s3,h3,R3,hd3⟩
    exact⟨s3,h3,R3,hd3.trans hd⟩
   |_=>exact⟨s',hq,R',hd⟩
  rcases hor with rfl|rfl
  ·simp only[gD,Bool.and_eq_true]at hpl
   simp only[bp.fits,Bool.and_eq_true]at hf
   exact key hpl.1 hpl.2 hf.1 hf.2 (jb (fun e s ha=>iG (fun s h=>gA h) (fun _ _ h=>h) ha) h)
  ·simp only[gD,Bool.and_eq_true]at hpl
   simp only[bp.fits,Bool.and_eq_true]at hf;exact key hpl.1 hpl.2 hf.1 hf.2 h
 |cond cd x y ihx ihy=>
  intro cc hc hpl hf n w0 QA s a w R h;simp only[bN]at hc
  split at hc<;>try(cases hc;done)
  rename_i c' cx cy hcc hcx hcy;cases hc;simp only[gD,Bool.and_eq_true]at hpl;simp only[bp.fits,Bool.and_eq_true]at hf;simp only[aw]at h;obtain⟨v,hv,h⟩:=af h;obtain⟨_,β,τ,π,U,hU,R0⟩:=id R
  have hd:=R0.aR hcc hv
  cases v<;>try(exact h.elim)
  rename_i t
  exact wpIn_cond_split hd.qI (fun e=>ihx cx hcx hpl.1 hf.1 n w0 QA s a w R (h.1 e)) (fun e=>ihy cy hcy hpl.2 hf.2 n w0 QA s a w R (h.2 e))
 |block id c ih=>intro cc hc hpl;simp only[bN,Option.map_eq_some_iff]at hc;obtain⟨c',hc',rfl⟩:=hc;simp[gD]at hpl
 |loop c ih=>intro cc hc hpl;simp only[bN,Option.map_eq_some_iff]at hc;obtain⟨c',hc',rfl⟩:=hc;simp[gD]at hpl
 |exit id=>intro cc hc hpl;cases hc;simp[gD]at hpl
 |ret=>intro cc hc hpl;cases hc;simp[gD]at hpl
 |label l=>intro cc hc hpl;cases hc;simp[gD]at hpl
 |goto l=>intro cc hc hpl;cases hc;simp[gD]at hpl
 |scope c ih=>
  intro cc hc hpl;simp only[bN]at hc
  split at hc<;>try(cases hc;done)
  split at hc<;>try(cases hc;done)
  simp only[Option.map_eq_some_iff]at hc;obtain⟨r,_,rfl⟩:=hc;simp[gD]at hpl
 |rangeFunc g ps as bd ihA ihB=>
  intro cc hc hpl;simp only[bN]at hc
  split at hc<;>try(cases hc;done)
  split at hc<;>try(cases hc;done)
  cases hc;simp[gD]at hpl
 |_=>intro cc hc;cases hc
theorem wu{F:Fence} {n id:Nat} {ops:Array Oper} {o:Oper} {d:Nat} {Q:Exit->Act->List Frame->World->Prop} {a:Act} {cs cs':List Frame} {w:World} {v:Value} (hF:∀f,F.fn f) (hro0:F.round=none)
  (h0:ops[0]? =some o) (hrec:isRec o=some d) (hv:recoverD cs=some (v,cs')\/(recoverD cs=none/\v=.nilIface/\cs'=cs))
  (h:wpOpsIn F n P ops (fun e a' w'=>Q e a' cs' w') (List.range' 1 (ops.size-1)) (a.put (some d) v) w):(Code.region id ops false).wpSIn F n P Q a cs w:=by
 intro b k hb hr hFb hroom;unfold isRec at hrec
 split at hrec<;>try(cases hrec;done)
 rename_i as tys d' hop hdst hguard
 split at hrec<;>try(cases hrec;done)
 rename_i has;cases hrec
 have has:as=#[]:=by simpa[Array.isEmpty_iff]using has
 subst has
 have hw:Region.wanted o (yielded ops a.tmps)=true:=by simp[Region.wanted,hguard]
 have hrun:(execOp a.eval o).run P w=.ok .recover w:=by
  simp[execOp,hop,resolve,invoke,go_sem]
 have hsz:0<ops.size:=(Array.getElem?_eq_some_iff.1 h0).1
 have hrange:List.range ops.size=0::List.range' 1 (ops.size-1):=by
  obtain⟨m,hm⟩:∃m,ops.size=m+1:=⟨ops.size-1,by omega⟩
  rw[hm,List.range_eq_range',List.range'_succ,Nat.add_sub_cancel]
 have hlen:cs'.length=cs.length:=by
  rcases hv with hv|⟨_,_,rfl⟩
  ·exact recoverD_length hv
  ·rfl
 obtain⟨e,a',w',hq,harr⟩:=wp_opsIn (P:=P) (F:=F) (n:=n) (ops:=ops) (List.range' 1 (ops.size-1)) _ w h b k cs' (hr.trans hro0.symm) hFb (hlen▸hroom)
 have h1:(lone (b.atR a (.inRegion ops (0::List.range' 1 (ops.size-1))::k)) cs w).fenced P F:=fenced_oper hFb hroom h0 (fun f _=>hF f)
 have hg:=stepGR_op (P:=P) (b:=b) (k:=k) (cs:=cs) (w:=w) (rest:=List.range' 1 (ops.size-1)) h0 hw
 rw[hr,Oper.semAt_none]at hg
 have hfin:∀v,(b.atR a (.inRegion ops (0::List.range' 1 (ops.size-1))::k)).finish v=b.atR (a.put (some d) v) (.inRegion ops (List.range' 1 (ops.size-1))::k):=by
  intro v;rw[Frame.finish_atR,h0];simp only[Option.bind_some,hdst]
 have hk:(b.atR a (.inRegion ops (0::List.range' 1 (ops.size-1))::k)).kind=.deferred:=hb
 have htr:=tryRecover_deferred hk cs
 have hstep:StepsIn (Machine.fenced P F) P (lone (b.atR a (.inRegion ops (0::List.range' 1 (ops.size-1))::k)) cs w) (lone (b.atR (a.put (some d) v) (.inRegion ops (List.range' 1 (ops.size-1))::k)) cs' w):=by
  refine .one h1 (step_lone_go ?_);rw[hg,<-hfin];simp only[Frame.atR,hr]at htr⊢
  rcases hv with hv|⟨hv,rfl,rfl⟩
  ·simp[stepG.apply,hrun,htr,hv]
  ·simp[stepG.apply,hrun,htr,hv]
 rw[<-hrange]at hstep;exact⟨e,a',cs',w',hlen,hq,.of_steps (.head (fenced_calm hFb hroom rfl) stepR_region hstep) harr⟩
theorem G6{f:FuncId} {cf:G3} (hcf:G4 P f=some cf):∃(fn:Func) (id:Nat) (ops:Array Oper) (rest:Code) (o:Oper) (os:List Oper),P.funcs[f]? =some fn/\fn.body=some (.seq (.region id ops false) rest)/\ops.toList=o::os/\isRec o=some cf.d/\qH P ops os=some cf.ops/\
  bN true P rest=some cf.code/\mP fn.ntmps cf.ops=true/\cf.d<fn.ntmps/\cf.code.fits fn.ntmps=true/\gD cf.code=true/\bY P f=true/\fn.results=#[]/\cf.nt=fn.ntmps:=by
 unfold G4 at hcf
 split at hcf<;>try(cases hcf;done)
 rename_i fn hfn
 split at hcf<;>try(cases hcf;done)
 rename_i id ops rest hbody
 split at hcf<;>try(cases hcf;done)
 rename_i o os hops
 split at hcf<;>try(cases hcf;done)
 rename_i d xs cc h1 h2 h3
 split at hcf<;>try(cases hcf;done)
 rename_i hok;cases hcf;simp only[Bool.and_eq_true,decide_eq_true_eq]at hok;obtain⟨⟨⟨⟨⟨k1,k2⟩,k3⟩,k4⟩,k5⟩,k6⟩:=hok
 exact⟨fn,id,ops,rest,o,os,hfn,hbody,hops,h1,h2,h3,k1,k2,k3,k4,k5,by simpa[Array.isEmpty_iff]using k6,rfl⟩
theorem oL(hm:P.follows .mixedOrders=true) {f:FuncId} {cf:G3} (hcf:G4 P f=some cf) {rv:AV} {css css':List (List AV)} {args:List (Option AV)} (hrv:Nl rv=true) (hn:args.length<=cf.nt) (hl:css'.length=css.length) (h4:css.length<=4)
  (h:eJ (Pure P) 4 1 cf.ops (Aq (aw (Pure P) cf.code (G5 css')) (5+cf.ops.length)) (fun _ _=>False) ((oC css args).put (some cf.d) (.dat rv none))):HT P f rv css args css':=by
 obtain⟨fn,ri,ops,rest,o,os,hfn,hbody,hops,hrec,hxs,hcc,hfit,hd,hfits,hpl,hcall,hres,hnt⟩:=G6 hcf;rw[hnt]at hn
 refine⟨hcall,hl,h4,fun w π Bs vs hprot hnd hbx harg=>?_⟩
 have hbl:=hbx.get.1
 obtain⟨hxl,hxs⟩:=qT hxs
 have hosz:ops.size=os.length+1:=by rw[<-Array.length_toList,hops];rfl
 have h0:ops[0]? =some o:=by rw[<-Array.getElem?_toList,hops];rfl
 refine callsDIn_of_wpSIn hfn hbody trivial fun c₀ cs hmode=>?_
 -- what is recovered
 obtain⟨u',hv,hset⟩:∃u',(recoverD (c₀::cs)=some (R9 rv,{c₀ with mode:=u'}::cs)\/(recoverD (c₀::cs)=none/\R9 rv=.nilIface/\{c₀ with mode:=u'}::cs=c₀::cs))/\settle u'=.returning:=by
  cases rv<;>try(simp[Nl,jn]at hrv;done)
  ·rename_i t a
   refine⟨.panicking [{v:=Oj (.iface t a),recovered:=true}],.inl ?_,rfl⟩
   simp only[yx,dS]at hmode;simp[recoverD,hmode,R9]
  ·refine⟨.returning,.inr ⟨?_,rfl,?_⟩,rfl⟩
   ·simp only[yx]at hmode;simp[recoverD,hmode]
   ·simp only[yx]at hmode
    have:({c₀ with mode:=.returning}:Frame)=c₀:=by rw[<-hmode]
    rw[this]
 refine wpSIn_seq ?_
 refine wu (fun _=>trivial) rfl h0 hrec hv ?_
 obtain⟨_,β,τ,π',U,hU,R⟩:=zu (P:=P) (nt:=fn.ntmps) hn h4 hprot hnd hbx harg
 have R1:=R.put (some cf.d) (v:=.dat rv none) (x:=R9 rv) (fun t ht=>by cases ht;exact hd) ⟨Q6 hrv,fun t ht=>by cases ht⟩ trivial
 have hpos:(os.length+1)-1=cf.ops.length:=by omega
 have post:∀(s:S) (a':Act) (w':World),G5 css' .ret s->dr P fn.ntmps (gP.ia w Bs) w π s a' w'->a'.defers=[]->
   bodyPostS P fn c₀ cs (fun e u' w'=>∃v π',e=.returned v/\settle u'=.returning/\th (gP.ia w Bs) w w'/\(∀b o,π b o->π' b o)/\(∀b o,π' b o->π b o\/w.heap.size<=b)/\(∀b o,π' b o->b<w'.heap.size)/\cz w' π' css' Bs) .ret a' ({c₀ with mode:=u'}::cs) w':=by
  rintro s a' w' hho ⟨_,β,τ,π',U,hU,R'⟩ hdf
  have hB:=R'.C2 hbl h4 hl hho
  refine⟨hdf,u',rfl,.tuple #[],?_,.tuple #[],π',rfl,hset,R'.below,R'.dZ,fun b o h=>(R'.cF b o h).imp id (fun k=>k.elim id (fun k=>absurd h (kQ hB b k o))),R'.eu,hB⟩
  rw[pH,hres];simp
 have hcosl:((⟨some cf.d,.o (.mv (.k .fq)),none⟩:XO)::cf.ops).length=ops.size:=by simp[hosz];omega
 rw[hosz,hpos]
 have:=qU (P:=P) (r:=none) (m:=0) (base:=4) (T:=fun _=>False) (a0:={tmps:=vs.toArray++Array.replicate (fn.ntmps-vs.toArray.size) undef,defers:=[]}) 1 hcosl
  (fun i o' c hi h1 h2=>?_) (fun i c d hi hdd=>?_) (fun _ _ _ _ _ h=>h) (K:=Aq (aw (Pure P) cf.code (G5 css')) (5+cf.ops.length)) (X:=fun _ _=>False)
  (Q:=fun e a' w'=>Exit.thenS (rest.wpSIn Fence.wide 0 P (bodyPostS P fn c₀ cs (fun e u' w'=>∃v π',e=.returned v/\settle u'=.returning/\th (gP.ia w Bs) w w'/\(∀b o,π b o->π' b o)/\(∀b o,π' b o->π b o\/w.heap.size<=b)/\(∀b o,π' b o->b<w'.heap.size)/\cz w' π' css' Bs)))
    (bodyPostS P fn c₀ cs (fun e u' w'=>∃v π',e=.returned v/\settle u'=.returning/\th (gP.ia w Bs) w w'/\(∀b o,π b o->π' b o)/\(∀b o,π' b o->π b o\/w.heap.size<=b)/\(∀b o,π' b o->b<w'.heap.size)/\cz w' π' css' Bs)) e a' ({c₀ with mode:=u'}::cs) w')
  (fun s' a' w' β' τ' π' U' hU' hK hp R'=>?_) (fun _ _ _ _ _ _ _ _ _ h=>h.elim) cf.ops 1 _ (({tmps:=vs.toArray++Array.replicate (fn.ntmps-vs.toArray.size) undef,defers:=[]}:Act).put (some cf.d) (R9 rv)) w β τ π' U (Nat.le_refl _) rfl (by omega) (fun n hn=>by have:=hU n hn;simp only[oC]at this;omega)
  (by exact(oA.refl _ _).put (fun _ _ h=>h) _) R1 h
 ·exact this
 ·cases i with
  |zero=>omega
  |succ i=>
   refine hxs i o' c ?_ (by simpa using h2)
   rw[<-Array.getElem?_toList,hops]at h1
   simpa using h1
 ·cases i with
  |zero=>simp at hi;subst hi;cases hdd;exact hd
  |succ i=>exact n9 hfit i c d (by simpa using hi) hdd
 ·refine wpSIn_of_wpIn rfl ?_
  have RN:dr P fn.ntmps (gP.ia w Bs) w π {s' with nx:=5+cf.ops.length} a' w':=⟨by show 4<=5+_;omega,β',τ',π',U',fun n hn=>by have:=hU' n hn;show n<5+_;omega,R'.nx _⟩
  refine wpIn_mono (nO (xy hm rest cf.code hcc hpl hfits 0 w (G5 css') _ a' w' RN hK)) ?_
  rintro e a2 w2 ⟨s2,hq,R2,hd2⟩
  have hd2:a2.defers=[]:=hd2.trans hp.1
  cases e with
  |normal=>exact post s2 a2 w2 hq R2 hd2
  |ret=>exact post s2 a2 w2 hq R2 hd2
  |_=>exact hq.elim
end
open Go.RowKit (Below)
def Jy:List Oper->Option (Nat×Array Operand×Nat)
 |[m,d]=>match m.op,m.dst,m.guard,d.op,d.dst,d.guard with
  | .makeFunc (.func g) first caps,some t,none,.defer ⟨.value (.tmp t'),as,_⟩,none,none=>if first.isEmpty&&as.isEmpty&&t==t' then some (g,caps,t)else none
  |_,_,_,_,_,_=>none
 |_=>none
structure zw where
 nt:Nat
 res:List gb
 pre:bp
 g:Nat
 caps:List bD
 t:Nat
 code:bp
def G7(P:Program) (f:FuncId):Option zw:=
 match P.funcs[f]? with
 |some fn=>match fn.body with
  |some (.seq a (.seq (.region _ ops false) rest))=>match Jy ops.toList with
   |some (g,caps,t)=>match bN true P a,ga caps,bN true P rest,fn.results.toList.mapM (An P)with
    |some ca,some xs,some cc,some rs=>if ca.fits fn.ntmps&&gD ca&&decide (t<fn.ntmps)&&cc.fits fn.ntmps&& !cc.writes.contains t&&bY P f&&bY P g then some ⟨fn.ntmps,rs,ca,g,xs,t,cc⟩else none
    |_,_,_,_=>none
   |none=>none
  |_=>none
 |none=>none
def EK(C:bz) (res:List gb) (r:AV) (fr:Option Nat) (css:List (List AV)) (t g:Nat) (as:List (Option AV)) (bs:List Nat) (rv:AV) (s:S):Prop:=
 lk t s.slots=some (.ot g as bs)/\cU bs=true/\aj (bh s.boxes bs) fun cs=>∃cs',C.d g rv cs as cs'/\BI res r fr css .ret {s with boxes:=dc bs cs' s.boxes}
def EL(C:bz) (res:List gb) (r:AV) (fr:Option Nat) (css:List (List AV)) (t g:Nat) (as:List (Option AV)) (bs:List Nat):Exit->S->Prop
 | .normal,s| .ret,s=>EK C res r fr css t g as bs .fq s
 | .panic c,s=>∃p,c=dS p/\jn p=true/\EK C res r fr css t g as bs p s
 |_,_=>False
theorem Q7(C:bz) (res:List gb) (r:AV) (fr:Option Nat) (css:List (List AV)) (t g:Nat) (as:List (Option AV)) (bs:List Nat) (s:S):EL C res r fr css t g as bs .normal s=EK C res r fr css t g as bs .fq s:=rfl
theorem Q8(C:bz) (res:List gb) (r:AV) (fr:Option Nat) (css:List (List AV)) (t g:Nat) (as:List (Option AV)) (bs:List Nat) (s:S):EL C res r fr css t g as bs .ret s=EK C res r fr css t g as bs .fq s:=rfl
theorem gE{C:bz} {res:List gb} {r:AV} {fr:Option Nat} {css:List (List AV)} {t g:Nat} {as:List (Option AV)} {bs:List Nat} {s:S} {p:AV} (hp:jn p=true) (h:EK C res r fr css t g as bs p s):EL C res r fr css t g as bs (.panic (dS p)) s:=⟨p,rfl,hp,h⟩
def Wd(C:bz) (cf:zw) (r:AV) (fr:Option Nat) (css:List (List AV)) (s:S):Prop:=
 aw C cf.pre (uH fun s1=>aj (de false s1 cf.caps) fun p=>aw C cf.code (EL C cf.res r fr css cf.t cf.g p.1 p.2) {(s1.put (some cf.t) (.ot cf.g p.1 p.2))with nx:=s1.nx+2}) s
def dK(C:bz) (res:List gb) (r:AV) (fr:Option Nat) (css:List (List AV)) (g:Nat) (caps:List bD) (t:Nat) (code:bp):S->Prop:=fun s1=>aj (de false s1 caps) fun p=>aw C code (EL C res r fr css t g p.1 p.2) {(s1.put (some t) (.ot g p.1 p.2))with nx:=s1.nx+2}
def We(C:bz) (res:List gb) (r:AV) (fr:Option Nat) (css:List (List AV)) (g:Nat) (t:Nat) (code:bp) (s:S) (p:List (Option AV)×List Nat):Prop:=aw C code (EL C res r fr css t g p.1 p.2) {(s.put (some t) (.ot g p.1 p.2))with nx:=s.nx+2}
theorem Vh{C:bz} (nt:Nat) (res:List gb) (pre:bp) (g:Nat) (caps:List bD) (t:Nat) (code:bp) (r:AV) (fr:Option Nat) (css:List (List AV)) (s:S):Wd C ⟨nt,res,pre,g,caps,t,code⟩ r fr css s=aw C pre (uH (dK C res r fr css g caps t code)) s:=rfl
theorem W7{C:bz} (res:List gb) (r:AV) (fr:Option Nat) (css:List (List AV)) (g:Nat) (caps:List bD) (t:Nat) (code:bp) (sl:List (Nat×SV)) (bx:List (Nat×cg)) (lv:List (Nat×Nat)) (nx:Nat):
  dK C res r fr css g caps t code ⟨sl,bx,lv,nx⟩=aj (de false ⟨sl,bx,lv,nx⟩ caps) (We C res r fr css g t code ⟨sl,bx,lv,nx⟩):=rfl
theorem Vi{C:bz} (res:List gb) (r:AV) (fr:Option Nat) (css:List (List AV)) (g:Nat) (t:Nat) (code:bp) (sl:List (Nat×SV)) (bx:List (Nat×cg)) (lv:List (Nat×Nat)) (nx:Nat) (as:List (Option AV)) (bs:List Nat):
  We C res r fr css g t code ⟨sl,bx,lv,nx⟩ (as,bs)=aw C code (EL C res r fr css t g as bs) ⟨(t,.ot g as bs)::sl,bx,lv,nx+2⟩:=rfl
@[congr] theorem X8 {C:bz} (res:List gb) (r:AV) (fr:Option Nat) (css:List (List AV)) (g:Nat) (caps:List bD) (t:Nat) (code:bp) (s:S):dK C res r fr css g caps t code s=dK C res r fr css g caps t code s:=rfl
@[congr] theorem XC {C:bz} (res:List gb) (r:AV) (fr:Option Nat) (css:List (List AV)) (g:Nat) (t:Nat) (code:bp) (s:S) {p p':List (Option AV)×List Nat} (h:p=p'):We C res r fr css g t code s p=We C res r fr css g t code s p':=by rw[h]
theorem iK{C:bz} {cf:zw} {keep:List Nat} {r:AV} {fr:Option Nat} {css:List (List AV)} {s:S} (h:Wd C {cf with code:=(flat keep 0 cf.code).1} r fr css s):Wd C cf r fr css s:=by
 refine jb ?_ h;intro e s ha
 cases e<;>try exact ha
 obtain⟨p,hp,ha⟩:=af ha
 show aj _ _
 rw[hp]
 exact ay (keep:=keep) (i:=0) ha
theorem Nn(nt:Nat) (res:List gb) (pre:bp) (g:Nat) (caps:List bD) (t:Nat) (code:bp) (keep:List Nat):({(⟨nt,res,pre,g,caps,t,code⟩:zw)with code:=(flat keep 0 (⟨nt,res,pre,g,caps,t,code⟩:zw).code).1}:zw)=⟨nt,res,pre,g,caps,t,(flat keep 0 code).1⟩:=rfl
theorem ir{C:bz} {res:List gb} {r:AV} {fr:Option Nat} {css:List (List AV)} {t g:Nat} {as:List (Option AV)} {bs:List Nat} {rv:AV} {sl:List (Nat×SV)} {bx:List (Nat×cg)} {lv:List (Nat×Nat)} {nx:Nat} {cs cs':List (List AV)}
  (hd:C.d g rv cs as cs') (hl:lk t sl=some (.ot g as bs)) (hn:cU bs=true) (hc:bh bx bs=some cs) (hf:BI res r fr css .ret ⟨sl,dc bs cs' bx,lv,nx⟩):EK C res r fr css t g as bs rv ⟨sl,bx,lv,nx⟩:=
 ⟨hl,hn,by show aj (bh bx bs) _;rw[hc];exact⟨cs',hd,hf⟩⟩
section
variable{P:Program}
theorem G8{f:FuncId} {cf:zw} (hcf:G7 P f=some cf):∃(fn:Func) (ri:Nat) (ops:Array Oper) (a rest:Code) (caps:Array Operand),P.funcs[f]? =some fn/\fn.body=some (.seq a (.seq (.region ri ops false) rest))/\Jy ops.toList=some (cf.g,caps,cf.t)/\
  bN true P a=some cf.pre/\ga caps=some cf.caps/\bN true P rest=some cf.code/\fn.results.toList.mapM (An P)=some cf.res/\cf.pre.fits fn.ntmps=true/\gD cf.pre=true/\cf.t<fn.ntmps/\cf.code.fits fn.ntmps=true/\¬cf.t∈cf.code.writes/\bY P f=true/\bY P cf.g=true/\cf.nt=fn.ntmps:=by
 unfold G7 at hcf
 split at hcf<;>try(cases hcf;done)
 rename_i fn hfn
 split at hcf<;>try(cases hcf;done)
 rename_i a ri ops rest hbody
 split at hcf<;>try(cases hcf;done)
 rename_i g caps t hdef
 split at hcf<;>try(cases hcf;done)
 rename_i ca xs cc rs h1 h2 h3 h4
 split at hcf<;>try(cases hcf;done)
 rename_i hok;cases hcf;simp only[Bool.and_eq_true,decide_eq_true_eq,Bool.not_eq_true']at hok;obtain⟨⟨⟨⟨⟨⟨k1,k2⟩,k3⟩,k4⟩,k5⟩,k6⟩,k7⟩:=hok
 exact⟨fn,ri,ops,a,rest,caps,hfn,hbody,hdef,h1,h2,h3,h4,k1,k2,k3,k4,by simpa using k5,k6,k7,rfl⟩
theorem iL(hm:P.follows .mixedOrders=true) {f:FuncId} {cf:zw} (hcf:G7 P f=some cf) {css css':List (List AV)} {args:List (Option AV)} {r:AV} {fr:Option Nat} (hn:args.length<=cf.nt) (hl:css'.length=css.length) (h4:css.length<=4)
  (h:Wd (Pure P) cf r fr css' (oC css args)):yw P f css args r fr css':=by
 obtain⟨fn,ri,ops,a,rest,caps,hfn,hbody,hdef,hca,hcaps,hcc,hrs,hfita,hpl,ht,hfit,hwr,hcall,hcg,hnt⟩:=G8 hcf;rw[hnt]at hn
 refine⟨hcall,hl,h4,fun w π Bs vs hprot hnd hbx hd=>?_⟩
 have hbl:=hbx.get.1
 have R:=zu (P:=P) (nt:=fn.ntmps) hn h4 hprot hnd hbx hd
 refine callsIn_wide.1 (callsIn_of_wp_marks (n:=0) (F:=Fence.wide) hfn hbody trivial (wpIn_seq (wpIn_mono (nO (xy hm a cf.pre hca hpl hfita 0 w _ _ _ _ R h)) ?_)))
 rintro e a1 w1 ⟨s1,hq,R1,hdf⟩
 have hdf:a1.defers=[]:=hdf
 cases e<;>try exact hq.elim
 obtain⟨p,hp,h⟩:=af hq;clear hq;obtain⟨hx4,β,τ,π1,U,hU,R1⟩:=R1
 -- the closure is made and deferred
 obtain⟨as,bs⟩:=p
 have hsv:=(R1.de (by simpa[ga]using hcaps) hp).1
 obtain⟨o0,o1,hops,ho0,hd0,hg0,hty,ho1,hd1,hg1⟩:∃o0 o1,ops=#[o0,o1]/\o0.op=.makeFunc (.func cf.g) #[] caps/\o0.dst=some cf.t/\o0.guard=none/\∃tys,o1.op=.defer ⟨.value (.tmp cf.t),#[],tys⟩/\o1.dst=none/\o1.guard=none:=by
  unfold Jy at hdef
  split at hdef<;>try(cases hdef;done)
  rename_i o0 o1 hops
  split at hdef<;>try(cases hdef;done)
  rename_i g' first caps' t t' as' tys m1 m2 m3 m4 m5 m6
  split at hdef<;>try(cases hdef;done)
  rename_i hok;simp only[Bool.and_eq_true,beq_iff_eq]at hok;simp only[Option.some.injEq,Prod.mk.injEq]at hdef;obtain⟨e1,e2,e3⟩:=hdef
  have f1:first=#[]:=by simpa[Array.isEmpty_iff]using hok.1.1
  have f2:as'=#[]:=by simpa[Array.isEmpty_iff]using hok.1.2
  subst e1 e2 f1 f2;rw[<-hok.2,e3]at m4;rw[e3]at m2
  exact⟨o0,o1,Array.toList_inj.1 (by simpa using hops),m1,m2,m3,tys,m4,m5,m6⟩
 subst hops
 obtain⟨us,hus⟩:∃us,us=caps.map a1.eval:=⟨_,rfl⟩
 have hr0:(execOp a1.eval o0).run P w1=.ok (.value (.func (.func cf.g) #[] us)) w1:=by simp[execOp,ho0,Instr.makeFunc,hus]
 have R2:=R1.put (some cf.t) (v:=.ot cf.g as bs) (x:=.func (.func cf.g) #[] us) (fun t' ht'=>by cases ht';exact ht) ⟨us,rfl,by rw[hus];simpa using hsv⟩ (fun b hb=>by
  obtain⟨t',_,v',hl',hv'⟩:=iE hp b hb
  exact SV.yE hv' (R1.slots t' _ hl').2)
 have hread:(a1.put (some cf.t) (.func (.func cf.g) #[] us)).tmps[cf.t]? =some (.func (.func cf.g) #[] us):=by
  simp only[Act.put]
  rw[Array.getElem?_setIfInBounds_self_of_lt (by rw[R1.size];exact ht)]
 obtain⟨d,hdd⟩:∃d:Deferred,d={target:=.fn (.func cf.g) us,args:=#[]}:=⟨_,rfl⟩
 have hr1:(execOp (a1.put (some cf.t) (.func (.func cf.g) #[] us)).eval o1).run P w1=.ok (.defer d) w1:=by
  have:(a1.put (some cf.t) (.func (.func cf.g) #[] us)).eval (.tmp cf.t)=.func (.func cf.g) #[] us:=by simp[Act.eval,hread]
  simp only[execOp,ho1,resolve,this,Deferred.ofValue,hdd];simp
 refine wpIn_seq (wpIn_region ?_)
 have w0:Region.wanted o0 (yielded #[o0,o1] a1.tmps)=true:=by simp[Region.wanted,hg0]
 show wpOpsIn _ _ _ _ _ [0,1] _ _
 rw[wpOpsIn_cons];unfold wpOpIn;simp only[List.getElem?_toArray,List.getElem?_cons_zero,w0,if_true]
 refine⟨fun _ _=>trivial,?_⟩
 rw[show Fence.wide.round=none from rfl,Oper.semAt_none,hr0,Oper.uponIn_value,hd0,wpOpsIn_cons]
 unfold wpOpIn
 have w1':Region.wanted o1 (yielded #[o0,o1] (a1.put (some cf.t) (.func (.func cf.g) #[] us)).tmps)=true:=by simp[Region.wanted,hg1]
 simp only[List.getElem?_toArray,List.getElem?_cons_succ,List.getElem?_cons_zero,w1',if_true]
 refine⟨fun _ _=>trivial,?_⟩
 rw[show Fence.wide.round=none from rfl,Oper.semAt_none,hr1,Oper.uponIn_defer,hd1]
 obtain⟨a2,ha2⟩:∃a2:Act,a2={a1.put (some cf.t) (.func (.func cf.g) #[] us)with defers:=[d]}:=⟨_,rfl⟩
 have ha2':({a1.put (some cf.t) (.func (.func cf.g) #[] us)with defers:=d::(a1.put (some cf.t) (.func (.func cf.g) #[] us)).defers}:Act).put none undef=a2:=by
  rw[ha2];show({a1.put (some cf.t) _ with defers:=d::(a1.put (some cf.t) _).defers}:Act)=_
  have:(a1.put (some cf.t) (.func (.func cf.g) #[] us)).defers=[]:=hdf
  rw[this]
 rw[ha2']
 show rest.wpIn _ _ _ _ a2 w1
 have hread2:a2.tmps[cf.t]? =some (.func (.func cf.g) #[] us):=by rw[ha2];exact hread
 have RN2:dr P fn.ntmps (gP.ia w Bs) w π {(s1.put (some cf.t) (.ot cf.g as bs))with nx:=s1.nx+2} a2 w1:=by
  refine dr.LA (a:=a1.put (some cf.t) (.func (.func cf.g) #[] us)) ⟨by show 4<=s1.nx+2;omega,β,τ,π1,U,fun n hn=>by have:=hU n hn;show n<s1.nx+2;omega,R2.nx _⟩ (by rw[ha2])
 refine wpIn_mono (nO (oB hm rest cf.code hcc hfit _ (fun t=>t=cf.t) a2 (fun t ht'=>by subst ht';exact hwr) none 0 w _ _ _ _ ⟨RN2,fun l h=>by(cases h),⟨[],by rw[ha2];simp,.nil,by simp⟩,fun _ _=>rfl⟩ h)) ?_
 rintro e a' w' ⟨s,hq,R',_,⟨Ds,hm1,hm2,hm3⟩,hk⟩
 have hk:a'.tmps[cf.t]? =some (.func (.func cf.g) #[] us):=(hk cf.t rfl).trans hread2
 have hm1:a'.defers=Ds.map HA++[d]:=by rw[hm1,ha2]
 -- the closure runs
 have last:∀(rv:AV) (u:FrameMode),u≠.run->yx rv=u->EK (Pure P) cf.res r fr css' cf.t cf.g as bs rv s->∀w',dr P fn.ntmps (gP.ia w Bs) w π s a' w'->
   LeavesInM Fence.wide 0 P fn a'.tmps (fun e w'=>∃v π',e=.returned v/\th (gP.ia w Bs) w w'/\(∀b o,π b o->π' b o)/\(∀b o,π' b o->π b o\/w.heap.size<=b)/\
    (∀b o,π' b o->b<w'.heap.size)/\cz w' π' css' Bs/\DV w' π' r v/\∀t,fr=some t->Bx P w' π' (fun B=>w.heap.size<=B) t v) [d] u w':=by
  rintro rv u hu hmode ⟨hlk,hnb,hq⟩ w' ⟨hx,β',τ',π',U',hU',R'⟩
  obtain⟨cs,hcs,cs',hD,hfin⟩:=af hq
  have hD:HT P cf.g rv cs as cs':=hD
  obtain⟨_,hl1,_,hD⟩:=hD;obtain⟨⟨x,hx',us',hxe,hcap⟩,_⟩:=R'.slots cf.t _ hlk;rw[hk]at hx';cases hx';cases hxe
  have hnb':=ew hnb
  refine⟨hu,.inr ⟨fun h=>by simp[Fence.wide]at h,.func cf.g,us,cf.g,us,by rw[hdd],?_,fun _ _=>trivial,?_⟩⟩
  ·rw[hdd];simp[invoke,eY hcg]
  refine CallsDIn.mono (by have:=hD w' π' (bs.map β') us.toList R'.eu (R'.nodup hnb' hcs) (R'.nN hcs) hcap;rw[hmode]at this;exact this) ?_
  rintro e u' w3 ⟨v,π3,rfl,hset,hbel,hp1,hp2,hp3,hbx3⟩
  obtain⟨τ3,_,R3⟩:=R'.sn (id:=s.nx) (fr:=none) (fun hc=>by have:=hU' _ hc;omega) hnb' hcs hl1 hbel hp1 hp2 hp3 hbx3 DV.fq (fun t ht=>by cases ht)
  show LeavesInM _ _ _ _ _ _ [] (settle u') w3
  rw[hset]
  show LeavesIn _ _ _ _ _ _ [] .returning w3
  obtain⟨⟨av,q⟩,hpq,hav,hfr,hho⟩:=af hfin;simp only at hav hfr hho;subst hav;obtain⟨v',hv',hdv,htq⟩:=t8 R3 hrs hpq
  have hB:=R3.C2 hbl h4 hl hho
  refine⟨v',hv',v',π3,rfl,R3.below,R3.dZ,fun b o h=>(R3.cF b o h).imp id (fun k=>k.elim id (fun k=>absurd h (kQ hB b k o))),R3.eu,hB,hdv,fun t ht=>?_⟩
  subst ht;simp only[D8]at hfr
  cases q with
  |none=>exact hfr.elim
  |some q=>
   rw[htq q rfl];exact R3.yX hbl h4 hl hho hfr
 cases e with
 |normal=>show LeavesInM _ _ _ _ _ _ a'.defers _ _;rw[hm1];exact jv (by simp) (last .fq .returning (by simp) rfl hq) Ds w' hm2 hm3 R' (Nat.le_refl _)
 |ret=>show LeavesInM _ _ _ _ _ _ a'.defers _ _;rw[hm1];exact jv (by simp) (last .fq .returning (by simp) rfl hq) Ds w' hm2 hm3 R' (Nat.le_refl _)
 |panic ch=>
  obtain⟨p,rfl,hra,hq⟩:=hq
  show LeavesInM _ _ _ _ _ _ a'.defers _ _;rw[hm1]
  refine jv (by simp) (last p (.panicking (dS p)) (by simp) ?_ hq) Ds w' hm2 hm3 R' (Nat.le_refl _)
  cases p<;>first|rfl|(simp[jn]at hra;done)
 |_=>exact hq.elim
def aM:=And.intro @Vh (And.intro @W7 (And.intro @Vi (And.intro @Nn (And.intro @Q7 (And.intro @Q8 (And.intro @Q3 (And.intro @Nj @Nk)))))))
theorem EM{f:FuncId} {args:List AV} {r:AV} {fr:Option Nat} (h:yw P f [] (args.map some) r fr []):CF P f args r fr:=by
 obtain⟨h1,_,_,h⟩:=h
 refine⟨h1,fun w π vs hprot hd=>?_⟩
 refine(h w π [] vs hprot List.nodup_nil trivial (pF hd)).mono ?_
 rintro e w' ⟨v,π',rfl,hb,k1,k2,k3,_,k5,k6⟩
 exact⟨v,π',rfl,hb.below (fun _ h=>by cases h),k1,k2,k3,k5,k6⟩
end
section
open Z
def nS (f_law05_awake f_wire_New f_law00_Place f_wire_Reader_Num f_wire_Reader_Fault f_wire_Reader_At f_wire_Reader_Float f_wire_Reader_Bool f_wire_Reader_Left:Nat):cR:=⟨132,[.tmp 8],
  .seq (.aO [
    ⟨(some 8),.o (.mv (.k (.bool false))),none⟩])
  (.join (.seq (.aO [
     ⟨(some 15),.o (.mv (.t 0)),none⟩,
     ⟨(some 16),.o (.nC (.t 15)),none⟩,
     ⟨(some 17),.o (.bin .gtr (.t 16) (.k (.int .i64 60))),none⟩])
   (.cond (.t 17) (.seq (.aO [
      ⟨(some 18),.call f_law05_awake [],none⟩,
      ⟨(some 8),.o (.mv (.t 18)),none⟩])
    (.ret))
    (.skip)))
  (.seq (.aO [
    ⟨(some 19),.o (.mv (.t 0)),none⟩,
    ⟨(some 20),.call f_wire_New [(.t 19)],none⟩,
    ⟨(some 9),.o (.mv (.t 20)),none⟩])
  (.join (.seq (.aO [
     ⟨(some 21),.o (.mv (.t 9)),none⟩,
     ⟨(some 22),.K2 false (.t 21),none⟩])
   (.cond (.t 22) (.seq (.aO [
      ⟨(some 8),.o (.mv (.k (.bool false))),none⟩])
    (.ret))
    (.skip)))
  (.seq (.aO [
    ⟨(some 23),.o (.mv (.t 1)),none⟩,
    ⟨(some 24),.call f_law00_Place [(.t 23),(.k (.int .i64 8))],none⟩,
    ⟨(some 10),.o (.mv (.t 24)),none⟩])
  (.seq (.aO [
    ⟨(some 25),.o (.mv (.t 9)),none⟩,
    ⟨(some 26),.o (.mv (.t 10)),none⟩,
    ⟨(some 27),.o (.mv (.t 2)),none⟩,
    ⟨(some 28),.o (.mv (.t 3)),none⟩,
    ⟨(some 29),.aB f_wire_Reader_Num [(.t 25),(.t 26),(.t 27),(.t 28)],none⟩,
    ⟨(some 11),.o (.mv (.t 29)),none⟩])
  (.seq (.aO [
    ⟨(some 30),.o (.mv (.t 9)),none⟩,
    ⟨(some 31),.aB f_wire_Reader_Fault [(.t 30)],none⟩,
    ⟨(some 12),.o (.alloc [(.int .i64 0),(.int .i64 0)]),none⟩,
    ⟨none,.o (.st (.t 12) (.t 31) 2),none⟩])
  (.join (.seq (.aO [
     ⟨(some 32),.o (.fa (.t 12) 0),none⟩,
     ⟨(some 33),.o (.ld (.t 32) none),none⟩,
     ⟨(some 34),.o (.bin .eql (.t 33) (.k (.int .i64 0))),none⟩])
   (.cond (.t 34) (.seq (.aO [
      ⟨(some 35),.o (.mv (.t 11)),none⟩,
      ⟨(some 36),.o (.mv (.t 2)),none⟩,
      ⟨(some 37),.o (.bin .geq (.t 35) (.t 36)),none⟩,
      ⟨(some 38),.o (.mv (.t 37)),none⟩,
      ⟨(some 39),.o (.mv (.t 11)),(some (38,true))⟩,
      ⟨(some 40),.o (.mv (.t 3)),(some (38,true))⟩,
      ⟨(some 41),.o (.bin .leq (.t 39) (.t 40)),(some (38,true))⟩,
      ⟨(some 42),.o (.pick (.t 38) (.t 41) (.k (.bool false))),none⟩,
      ⟨(some 43),.o (.mv (.t 42)),none⟩,
      ⟨(some 44),.o (.mv (.t 9)),(some (43,true))⟩,
      ⟨(some 45),.aB f_wire_Reader_At [(.t 44)],(some (43,true))⟩,
      ⟨(some 46),.o (.mv (.t 10)),(some (43,true))⟩,
      ⟨(some 47),.o (.bin .eql (.t 45) (.t 46)),(some (43,true))⟩,
      ⟨(some 48),.o (.pick (.t 43) (.t 47) (.k (.bool false))),none⟩,
      ⟨(some 49),.o (.mv (.t 48)),none⟩,
      ⟨(some 50),.o (.mv (.t 0)),(some (49,true))⟩,
      ⟨(some 51),.o (.nC (.t 50)),(some (49,true))⟩,
      ⟨(some 52),.o (.mv (.t 10)),(some (49,true))⟩,
      ⟨(some 53),.o (.bin .geq (.t 51) (.t 52)),(some (49,true))⟩,
      ⟨(some 54),.o (.pick (.t 49) (.t 53) (.k (.bool false))),none⟩,
      ⟨(some 55),.o (.mv (.t 54)),none⟩,
      ⟨(some 56),.call f_law05_awake [],(some (55,true))⟩,
      ⟨(some 57),.o (.pick (.t 55) (.t 56) (.k (.bool false))),none⟩,
      ⟨(some 8),.o (.mv (.t 57)),none⟩])
    (.ret))
    (.skip)))
  (.seq (.aO [
    ⟨(some 58),.o (.fa (.t 12) 0),none⟩,
    ⟨(some 59),.o (.ld (.t 58) none),none⟩,
    ⟨(some 60),.o (.bin .eql (.t 59) (.k (.int .i64 2))),none⟩,
    ⟨(some 61),.o (.mv (.t 60)),none⟩,
    ⟨(some 62),.o (.fa (.t 12) 1),(some (61,true))⟩,
    ⟨(some 63),.o (.ld (.t 62) none),(some (61,true))⟩,
    ⟨(some 64),.o (.mv (.t 0)),(some (61,true))⟩,
    ⟨(some 65),.o (.nC (.t 64)),(some (61,true))⟩,
    ⟨(some 66),.o (.bin .eql (.t 63) (.t 65)),(some (61,true))⟩,
    ⟨(some 67),.o (.pick (.t 61) (.t 66) (.k (.bool false))),none⟩,
    ⟨(some 68),.o (.mv (.t 67)),none⟩,
    ⟨(some 69),.o (.mv (.t 0)),(some (68,true))⟩,
    ⟨(some 70),.o (.nC (.t 69)),(some (68,true))⟩,
    ⟨(some 71),.o (.mv (.t 10)),(some (68,true))⟩,
    ⟨(some 72),.o (.bin .lss (.t 70) (.t 71)),(some (68,true))⟩,
    ⟨(some 73),.o (.pick (.t 68) (.t 72) (.k (.bool false))),none⟩,
    ⟨(some 74),.o (.mv (.t 73)),none⟩,
    ⟨(some 75),.o (.fa (.t 12) 0),(some (74,false))⟩,
    ⟨(some 76),.o (.ld (.t 75) none),(some (74,false))⟩,
    ⟨(some 77),.o (.bin .eql (.t 76) (.k (.int .i64 4))),(some (74,false))⟩,
    ⟨(some 78),.o (.mv (.t 77)),(some (74,false))⟩,
    ⟨(some 79),.o (.fa (.t 12) 1),(some (78,true))⟩,
    ⟨(some 80),.o (.ld (.t 79) none),(some (78,true))⟩,
    ⟨(some 81),.o (.bin .eql (.t 80) (.k (.int .i64 0))),(some (78,true))⟩,
    ⟨(some 82),.o (.pick (.t 78) (.t 81) (.k (.bool false))),(some (74,false))⟩,
    ⟨(some 83),.o (.mv (.t 82)),(some (74,false))⟩,
    ⟨(some 84),.o (.mv (.t 0)),(some (83,true))⟩,
    ⟨(some 85),.o (.nC (.t 84)),(some (83,true))⟩,
    ⟨(some 86),.o (.mv (.t 10)),(some (83,true))⟩,
    ⟨(some 87),.o (.bin .geq (.t 85) (.t 86)),(some (83,true))⟩,
    ⟨(some 88),.o (.pick (.t 83) (.t 87) (.k (.bool false))),(some (74,false))⟩,
    ⟨(some 89),.o (.pick (.t 74) (.k (.bool true)) (.t 88)),none⟩,
    ⟨(some 13),.o (.mv (.t 89)),none⟩])
  (.seq (.aO [
    ⟨(some 90),.o (.mv (.t 11)),none⟩,
    ⟨(some 91),.o (.bin .eql (.t 90) (.k (.int .i64 0))),none⟩,
    ⟨(some 92),.o (.mv (.t 91)),none⟩,
    ⟨(some 93),.o (.mv (.t 9)),(some (92,true))⟩,
    ⟨(some 94),.aB f_wire_Reader_Num [(.t 93),(.k (.int .i64 1)),(.k (.int .i64 0)),(.k (.int .i64 255))],(some (92,true))⟩,
    ⟨(some 95),.o (.bin .eql (.t 94) (.k (.int .i64 0))),(some (92,true))⟩,
    ⟨(some 96),.o (.pick (.t 92) (.t 95) (.k (.bool false))),none⟩,
    ⟨(some 97),.o (.mv (.t 96)),none⟩,
    ⟨(some 98),.o (.mv (.t 9)),(some (97,true))⟩,
    ⟨(some 99),.aB f_wire_Reader_Float [(.t 98)],(some (97,true))⟩,
    ⟨(some 100),.o (.bin .eql (.t 99) (.k (.float .f64 0))),(some (97,true))⟩,
    ⟨(some 101),.o (.pick (.t 97) (.t 100) (.k (.bool false))),none⟩,
    ⟨(some 102),.o (.mv (.t 101)),none⟩,
    ⟨(some 103),.o (.mv (.t 9)),(some (102,true))⟩,
    ⟨(some 104),.aB f_wire_Reader_Bool [(.t 103)],(some (102,true))⟩,
    ⟨(some 105),.o (.un .not (.t 104)),(some (102,true))⟩,
    ⟨(some 106),.o (.pick (.t 102) (.t 105) (.k (.bool false))),none⟩,
    ⟨(some 107),.o (.mv (.t 106)),none⟩,
    ⟨(some 108),.o (.mv (.t 9)),(some (107,true))⟩,
    ⟨(some 109),.aB f_wire_Reader_At [(.t 108)],(some (107,true))⟩,
    ⟨(some 110),.o (.bin .eql (.t 109) (.k (.int .i64 0))),(some (107,true))⟩,
    ⟨(some 111),.o (.pick (.t 107) (.t 110) (.k (.bool false))),none⟩,
    ⟨(some 112),.o (.mv (.t 111)),none⟩,
    ⟨(some 113),.o (.mv (.t 9)),(some (112,true))⟩,
    ⟨(some 114),.aB f_wire_Reader_Left [(.t 113)],(some (112,true))⟩,
    ⟨(some 115),.o (.mv (.t 0)),(some (112,true))⟩,
    ⟨(some 116),.o (.nC (.t 115)),(some (112,true))⟩,
    ⟨(some 117),.o (.bin .eql (.t 114) (.t 116)),(some (112,true))⟩,
    ⟨(some 118),.o (.pick (.t 112) (.t 117) (.k (.bool false))),none⟩,
    ⟨(some 14),.o (.mv (.t 118)),none⟩])
  (.seq (.qm [
    ⟨(some 119),.mv (.t 13),none⟩,
    ⟨(some 120),.mv (.t 119),none⟩,
    ⟨(some 121),.mv (.t 14),(some (120,true))⟩,
    ⟨(some 122),.pick (.t 120) (.t 121) (.k (.bool false)),none⟩,
    ⟨(some 123),.mv (.t 122),none⟩,
    ⟨(some 124),.mv (.t 9),(some (123,true))⟩,
    ⟨(some 125),.aB f_wire_Reader_Fault [(.t 124)],(some (123,true))⟩,
    ⟨(some 126),.ld (.t 12) (some 2),(some (123,true))⟩,
    ⟨(some 127),.eqc [.i,.i] false (.t 125) (.t 126),(some (123,true))⟩,
    ⟨(some 128),.pick (.t 123) (.t 127) (.k (.bool false)),none⟩,
    ⟨(some 129),.mv (.t 128),none⟩,
    ⟨(some 130),.call f_law05_awake [],(some (129,true))⟩,
    ⟨(some 131),.pick (.t 129) (.t 130) (.k (.bool false)),none⟩,
    ⟨(some 8),.mv (.t 131),none⟩] [(6,7)])
  (.ret)))))))))))⟩
def nk (f_law05_awake f_wire_New f_wire_Reader_Num f_ref05_Reader_Num f_wire_Reader_Float f_ref05_Reader_Float f_ref01_Alike f_wire_Reader_Bool f_ref05_Reader_Bool f_wire_Reader_At f_wire_Reader_Left f_wire_Reader_Fault:Nat):cR:=⟨114,[.tmp 4],
  .seq (.aO [
    ⟨(some 4),.o (.mv (.k (.bool false))),none⟩])
  (.join (.seq (.aO [
     ⟨(some 8),.o (.mv (.t 0)),none⟩,
     ⟨(some 9),.o (.nC (.t 8)),none⟩,
     ⟨(some 10),.o (.bin .gtr (.t 9) (.k (.int .i64 200))),none⟩,
     ⟨(some 11),.o (.mv (.t 10)),none⟩,
     ⟨(some 12),.o (.mv (.t 1)),(some (11,false))⟩,
     ⟨(some 13),.o (.nC (.t 12)),(some (11,false))⟩,
     ⟨(some 14),.o (.bin .gtr (.t 13) (.k (.int .i64 40))),(some (11,false))⟩,
     ⟨(some 15),.o (.pick (.t 11) (.k (.bool true)) (.t 14)),none⟩])
   (.cond (.t 15) (.seq (.aO [
      ⟨(some 16),.call f_law05_awake [],none⟩,
      ⟨(some 4),.o (.mv (.t 16)),none⟩])
    (.ret))
    (.skip)))
  (.seq (.aO [
    ⟨(some 17),.o (.mv (.t 0)),none⟩,
    ⟨(some 18),.call f_wire_New [(.t 17)],none⟩,
    ⟨(some 5),.o (.mv (.t 18)),none⟩])
  (.seq (.aO [
    ⟨(some 19),.o (.mv (.t 0)),none⟩,
    ⟨(some 20),.o (.build [.bM,(.int .i64 0),(.int .i64 0),(.int .i64 0)] [(0,1,(.t 19))]),none⟩,
    ⟨(some 21),.o (.box (.t 20)),none⟩,
    ⟨(some 6),.o (.mv (.t 21)),none⟩])
  (.join (.seq (.aO [
     ⟨(some 22),.o (.mv (.t 5)),none⟩,
     ⟨(some 23),.K2 false (.t 22),none⟩])
   (.cond (.t 23) (.seq (.aO [
      ⟨(some 4),.o (.mv (.k (.bool false))),none⟩])
    (.ret))
    (.skip)))
  (.join (.seq (.aO [
     ⟨(some 7),.o (.mv (.k (.int .i64 0))),none⟩])
   (.block 0 (.loop (.join (.seq (.aO [
        ⟨(some 24),.o (.mv (.t 7)),none⟩,
        ⟨(some 25),.o (.mv (.t 1)),none⟩,
        ⟨(some 26),.o (.nC (.t 25)),none⟩,
        ⟨(some 27),.o (.bin .lss (.t 24) (.t 26)),none⟩])
      (.cond (.t 27) (.skip)
       (.exit 0)))
     (.join (.block 1 (.join (.seq (.aO [
          ⟨(some 30),.o (.mv (.t 1)),none⟩,
          ⟨(some 31),.o (.mv (.t 7)),none⟩,
          ⟨(some 32),.o (.Bl (.t 30) (.t 31) 4),none⟩,
          ⟨(some 33),.o (.fa (.t 32) 0),none⟩,
          ⟨(some 34),.o (.ld (.t 33) none),none⟩])
        (.block 2 (.seq (.aO [
           ⟨(some 41),.o (.bin .eql (.t 34) (.k (.int .i64 1))),none⟩,
           ⟨(some 40),.o (.mv (.t 41)),none⟩])
         (.cond (.t 40) (.seq (.qm [
            ⟨(some 42),.mv (.t 5),none⟩,
            ⟨(some 43),.mv (.t 1),none⟩,
            ⟨(some 44),.mv (.t 7),none⟩,
            ⟨(some 45),.Bl (.t 43) (.t 44) 4,none⟩,
            ⟨(some 46),.fa (.t 45) 1,none⟩,
            ⟨(some 47),.ld (.t 46) none,none⟩,
            ⟨(some 48),.mv (.t 1),none⟩,
            ⟨(some 49),.mv (.t 7),none⟩,
            ⟨(some 50),.Bl (.t 48) (.t 49) 4,none⟩,
            ⟨(some 51),.fa (.t 50) 2,none⟩,
            ⟨(some 52),.ld (.t 51) none,none⟩,
            ⟨(some 53),.mv (.t 1),none⟩,
            ⟨(some 54),.mv (.t 7),none⟩,
            ⟨(some 55),.Bl (.t 53) (.t 54) 4,none⟩,
            ⟨(some 56),.fa (.t 55) 3,none⟩,
            ⟨(some 57),.ld (.t 56) none,none⟩,
            ⟨(some 58),.aB f_wire_Reader_Num [(.t 42),(.t 47),(.t 52),(.t 57)],none⟩,
            ⟨(some 59),.mv (.t 6),none⟩,
            ⟨(some 60),.mv (.t 1),none⟩,
            ⟨(some 61),.mv (.t 7),none⟩,
            ⟨(some 62),.Bl (.t 60) (.t 61) 4,none⟩,
            ⟨(some 63),.fa (.t 62) 1,none⟩,
            ⟨(some 64),.ld (.t 63) none,none⟩,
            ⟨(some 65),.mv (.t 1),none⟩,
            ⟨(some 66),.mv (.t 7),none⟩,
            ⟨(some 67),.Bl (.t 65) (.t 66) 4,none⟩,
            ⟨(some 68),.fa (.t 67) 2,none⟩,
            ⟨(some 69),.ld (.t 68) none,none⟩,
            ⟨(some 70),.mv (.t 1),none⟩,
            ⟨(some 71),.mv (.t 7),none⟩,
            ⟨(some 72),.Bl (.t 70) (.t 71) 4,none⟩,
            ⟨(some 73),.fa (.t 72) 3,none⟩,
            ⟨(some 74),.ld (.t 73) none,none⟩,
            ⟨(some 75),.aB f_ref05_Reader_Num [(.t 59),(.t 64),(.t 69),(.t 74)],none⟩,
            ⟨(some 76),.bin .neq (.t 58) (.t 75),none⟩] [(16,22),(16,27),(16,32)])
          (.cond (.t 76) (.seq (.aO [
             ⟨(some 4),.o (.mv (.k (.bool false))),none⟩])
           (.ret))
           (.skip)))
          (.seq (.aO [
            ⟨(some 78),.o (.bin .eql (.t 34) (.k (.int .i64 2))),none⟩,
            ⟨(some 77),.o (.mv (.t 78)),none⟩])
          (.cond (.t 77) (.seq (.aO [
             ⟨(some 79),.o (.mv (.t 5)),none⟩,
             ⟨(some 80),.aB f_wire_Reader_Float [(.t 79)],none⟩,
             ⟨(some 81),.o (.mv (.t 6)),none⟩,
             ⟨(some 82),.aB f_ref05_Reader_Float [(.t 81)],none⟩,
             ⟨(some 83),.call f_ref01_Alike [(.t 80),(.t 82)],none⟩,
             ⟨(some 84),.o (.un .not (.t 83)),none⟩])
           (.cond (.t 84) (.seq (.aO [
              ⟨(some 4),.o (.mv (.k (.bool false))),none⟩])
            (.ret))
            (.skip)))
           (.seq (.aO [
             ⟨(some 35),.o (.mv (.t 5)),none⟩,
             ⟨(some 36),.aB f_wire_Reader_Bool [(.t 35)],none⟩,
             ⟨(some 37),.o (.mv (.t 6)),none⟩,
             ⟨(some 38),.aB f_ref05_Reader_Bool [(.t 37)],none⟩,
             ⟨(some 39),.o (.bb true (.t 36) (.t 38)),none⟩])
           (.cond (.t 39) (.seq (.aO [
              ⟨(some 4),.o (.mv (.k (.bool false))),none⟩])
            (.ret))
            (.skip)))))))))
       (.seq (.qm [
         ⟨(some 85),.mv (.t 5),none⟩,
         ⟨(some 86),.aB f_wire_Reader_At [(.t 85)],none⟩,
         ⟨(some 87),.mv (.t 6),none⟩,
         ⟨(some 88),.nc (.t 87),none⟩,
         ⟨(some 89),.fa (.t 88) 1,none⟩,
         ⟨(some 90),.ld (.t 89) none,none⟩,
         ⟨(some 91),.bin .neq (.t 86) (.t 90),none⟩,
         ⟨(some 92),.mv (.t 91),none⟩,
         ⟨(some 93),.mv (.t 5),(some (92,false))⟩,
         ⟨(some 94),.aB f_wire_Reader_Left [(.t 93)],(some (92,false))⟩,
         ⟨(some 95),.mv (.t 0),(some (92,false))⟩,
         ⟨(some 96),.nC (.t 95),(some (92,false))⟩,
         ⟨(some 97),.mv (.t 6),(some (92,false))⟩,
         ⟨(some 98),.nc (.t 97),(some (92,false))⟩,
         ⟨(some 99),.fa (.t 98) 1,(some (92,false))⟩,
         ⟨(some 100),.ld (.t 99) none,(some (92,false))⟩,
         ⟨(some 101),.bin .sub (.t 96) (.t 100),(some (92,false))⟩,
         ⟨(some 102),.bin .neq (.t 94) (.t 101),(some (92,false))⟩,
         ⟨(some 103),.pick (.t 92) (.k (.bool true)) (.t 102),none⟩,
         ⟨(some 104),.mv (.t 103),none⟩,
         ⟨(some 105),.mv (.t 5),(some (104,false))⟩,
         ⟨(some 106),.aB f_wire_Reader_Fault [(.t 105)],(some (104,false))⟩,
         ⟨(some 107),.mv (.t 6),(some (104,false))⟩,
         ⟨(some 108),.nc (.t 107),(some (104,false))⟩,
         ⟨(some 109),.fa (.t 108) 2,(some (104,false))⟩,
         ⟨(some 110),.ld (.t 109) (some 2),(some (104,false))⟩,
         ⟨(some 111),.eqc [.i,.i] true (.t 106) (.t 110),(some (104,false))⟩,
         ⟨(some 112),.pick (.t 104) (.k (.bool true)) (.t 111),none⟩] [(1,5),(1,21),(1,25),(5,9),(5,21),(9,15),(15,21),(21,25)])
       (.cond (.t 112) (.seq (.aO [
          ⟨(some 4),.o (.mv (.k (.bool false))),none⟩])
        (.ret))
        (.skip)))))
     (.aO [
       ⟨(some 28),.o (.mv (.t 7)),none⟩,
       ⟨(some 29),.o (.bin .add (.t 28) (.k (.int .i64 1))),none⟩,
       ⟨(some 7),.o (.mv (.t 29)),none⟩]))))))
  (.seq (.aO [
    ⟨(some 113),.call f_law05_awake [],none⟩,
    ⟨(some 4),.o (.mv (.t 113)),none⟩])
  (.ret)))))))⟩
def rE(e_uint8 f_wire_New f_wire_Reader_Num f_wire_Reader_At f_wire_Put:Nat):cR:=⟨21,[.tmp 0],
 .seq (.aO [
  ⟨(some 0),.o (.mv (.k (.bool false))),none⟩])
 (.seq (.aO [
  ⟨(some 2),.o (.gw e_uint8 1 [(.k (.int .u8 1)),(.k (.int .u8 2))]),none⟩,
  ⟨(some 3),.call f_wire_New [(.t 2)],none⟩,
  ⟨(some 1),.o (.mv (.t 3)),none⟩])
 (.seq (.aO [
  ⟨(some 4),.o (.mv (.t 1)),none⟩,
  ⟨(some 5),.K2 true (.t 4),none⟩,
  ⟨(some 6),.o (.mv (.t 5)),none⟩,
  ⟨(some 7),.o (.mv (.t 1)),(some (6,true))⟩,
  ⟨(some 8),.aB f_wire_Reader_Num [(.t 7),(.k (.int .i64 2)),(.k (.int .i64 0)),(.k (.int .i64 300))],(some (6,true))⟩,
  ⟨(some 9),.o (.bin .eql (.t 8) (.k (.int .i64 258))),(some (6,true))⟩,
  ⟨(some 10),.o (.pick (.t 6) (.t 9) (.k (.bool false))),none⟩,
  ⟨(some 11),.o (.mv (.t 10)),none⟩,
  ⟨(some 12),.o (.mv (.t 1)),(some (11,true))⟩,
  ⟨(some 13),.aB f_wire_Reader_At [(.t 12)],(some (11,true))⟩,
  ⟨(some 14),.o (.bin .eql (.t 13) (.k (.int .i64 2))),(some (11,true))⟩,
  ⟨(some 15),.o (.pick (.t 11) (.t 14) (.k (.bool false))),none⟩,
  ⟨(some 16),.o (.mv (.t 15)),none⟩,
  ⟨(some 17),.call f_wire_Put [(.k .bM),(.k (.int .i64 2)),(.k (.int .i64 258))],(some (16,true))⟩,
  ⟨(some 18),.o (.nC (.t 17)),(some (16,true))⟩,
  ⟨(some 19),.o (.bin .eql (.t 18) (.k (.int .i64 2))),(some (16,true))⟩,
  ⟨(some 20),.o (.pick (.t 16) (.t 19) (.k (.bool false))),none⟩,
  ⟨(some 0),.o (.mv (.t 20)),none⟩])
 (.ret)))⟩
def rG (e_uint8:Nat):cR:=⟨37,[.tmp 6],
  .seq (.aO [
    ⟨(some 6),.o (.mv (.k .bM)),none⟩])
  (.seq (.aO [
    ⟨(some 9),.o (.mv (.t 1)),none⟩,
    ⟨(some 10),.o (.mm true [(.t 9),(.k (.int .i64 0))]),none⟩,
    ⟨(some 11),.o (.mm false [(.t 10),(.k (.int .i64 8))]),none⟩,
    ⟨(some 1),.o (.mv (.t 11)),none⟩])
  (.seq (.aO [
    ⟨(some 12),.o (.mv (.t 0)),none⟩,
    ⟨(some 13),.o (.nC (.t 12)),none⟩,
    ⟨(some 14),.o (.mv (.t 0)),none⟩,
    ⟨(some 15),.o (.nC (.t 14)),none⟩,
    ⟨(some 16),.o (.mv (.t 1)),none⟩,
    ⟨(some 17),.o (.bin .add (.t 15) (.t 16)),none⟩,
    ⟨(some 18),.RE e_uint8 1 (.t 13) (.t 17),none⟩,
    ⟨(some 7),.o (.mv (.t 18)),none⟩])
  (.seq (.aO [
    ⟨(some 19),.o (.mv (.t 7)),none⟩,
    ⟨(some 20),.o (.mv (.t 0)),none⟩,
    ⟨(some 21),.RF e_uint8 (.t 19) (.t 20),none⟩])
  (.join (.seq (.aO [
     ⟨(some 22),.o (.mv (.t 1)),none⟩,
     ⟨(some 23),.o (.bin .sub (.t 22) (.k (.int .i64 1))),none⟩,
     ⟨(some 8),.o (.mv (.t 23)),none⟩])
   (.block 0 (.loop (.join (.seq (.aO [
        ⟨(some 24),.o (.mv (.t 8)),none⟩,
        ⟨(some 25),.o (.bin .geq (.t 24) (.k (.int .i64 0))),none⟩])
      (.cond (.t 25) (.skip)
       (.exit 0)))
     (.join (.block 1 (.aO [
         ⟨(some 28),.o (.mv (.t 7)),none⟩,
         ⟨(some 29),.o (.mv (.t 2)),none⟩,
         ⟨(some 30),.o (.mv (.t 8)),none⟩,
         ⟨(some 31),.o (.bin .mul (.k (.int .i64 8)) (.t 30)),none⟩,
         ⟨(some 32),.o (.bin .shr (.t 29) (.t 31)),none⟩,
         ⟨(some 33),.o (.kF .u8 (.t 32)),none⟩,
         ⟨(some 34),.o (.gw e_uint8 1 [(.t 33)]),none⟩,
         ⟨(some 35),.o (.app e_uint8 1 1 (.t 28) (.t 34)),none⟩,
         ⟨(some 7),.o (.mv (.t 35)),none⟩]))
     (.aO [
       ⟨(some 26),.o (.mv (.t 8)),none⟩,
       ⟨(some 27),.o (.bin .sub (.t 26) (.k (.int .i64 1))),none⟩,
       ⟨(some 8),.o (.mv (.t 27)),none⟩]))))))
  (.seq (.aO [
    ⟨(some 36),.o (.mv (.t 7)),none⟩,
    ⟨(some 6),.o (.mv (.t 36)),none⟩])
  (.ret))))))⟩
def oM(g0:Nat):cR:=⟨10,[.tmp 4],r [V 4 .bM] (r [M 5 0,M 6 1,o 7 (.xt .Aw (t 6)),o 8 (.kF .i64 (t 7)),o 9 (.call g0 [t 5,k (i 8),t 8]),M 4 9] y)⟩
def pM(g0 g1:Nat):cR:=⟨28,[.tmp 6],r [V 6 .bM] (r [M 9 0,o 10 (.app g0 1 1 (k .bM) (t 9)),M 7 10] (j (r [M 11 1,o 12 (.call g1 [t 11,k (i 0),k (i 8)]),o 13 (bb .sub 12 (i 1)),M 8 13] (u 0 (.loop (j (r [M 14 8,o 15 (bb .geq 14 (i 0))] (c 15 z (.exit 0))) (j (u 1 (R [M 18 7,M 19 2,M 20 8,o 21 (.bin .mul (k (i 8)) (t 20)),o 22 (.kF .u64 (t 21)),o 23 (b .shr 19 22),o 24 (.kF .u8 (t 23)),o 25 (.gw g0 1 [t 24]),o 26 (.app g0 1 1 (t 18) (t 25)),M 7 26])) (R [M 16 8,o 17 (bb .sub 16 (i 1)),M 8 17])))))) (r [M 27 7,M 6 27] y)))⟩
def xz(g0:Nat):cR:=⟨7,[.tmp 2],r [V 2 .mj] (r [M 3 0,o 4 (.call g0 [t 3]),o 5 (.build [.bM,i 0,i 0,i 0] [(0,1,t 4)]),o 6 (w 5),M 2 6] y)⟩
def gR (f_wire_Reader_Num_1 f_wire_Reader_whole f_wire_Reader_fails:Nat):zw:=⟨40,[.cell 8 none],
  .aO [
    ⟨(some 8),.o (.alloc [(.int .i64 0)]),none⟩],f_wire_Reader_Num_1,[(.t 8)],9,
  .seq (.aO [
    ⟨(some 10),.o (.mv (.t 1)),none⟩,
    ⟨(some 11),.o (.mm true [(.t 10),(.k (.int .i64 0))]),none⟩,
    ⟨(some 12),.o (.mm false [(.t 11),(.k (.int .i64 7))]),none⟩,
    ⟨(some 1),.o (.mv (.t 12)),none⟩])
  (.seq (.aO [
    ⟨(some 13),.o (.mv (.t 0)),none⟩,
    ⟨(some 14),.o (.mv (.t 1)),none⟩,
    ⟨(some 15),.aB f_wire_Reader_whole [(.t 13),(.t 14)],none⟩,
    ⟨(some 16),.o (.kF .i64 (.t 15)),none⟩,
    ⟨none,.o (.st (.t 8) (.t 16) 1),none⟩])
  (.join (.seq (.aO [
     ⟨(some 17),.o (.ld (.t 8) none),none⟩,
     ⟨(some 18),.o (.mv (.t 2)),none⟩,
     ⟨(some 19),.o (.bin .lss (.t 17) (.t 18)),none⟩,
     ⟨(some 20),.o (.mv (.t 19)),none⟩,
     ⟨(some 21),.o (.ld (.t 8) none),(some (20,false))⟩,
     ⟨(some 22),.o (.mv (.t 3)),(some (20,false))⟩,
     ⟨(some 23),.o (.bin .gtr (.t 21) (.t 22)),(some (20,false))⟩,
     ⟨(some 24),.o (.pick (.t 20) (.k (.bool true)) (.t 23)),none⟩])
   (.cond (.t 24) (.aO [
      ⟨(some 25),.o (.mv (.t 0)),none⟩,
      ⟨(some 26),.o (.mv (.t 0)),none⟩,
      ⟨(some 27),.o (.nc (.t 26)),none⟩,
      ⟨(some 28),.o (.fa (.t 27) 1),none⟩,
      ⟨(some 29),.o (.ld (.t 28) none),none⟩,
      ⟨(some 30),.aB f_wire_Reader_fails [(.t 25),(.k (.int .i64 4)),(.t 29)],none⟩])
    (.skip)))
  (.seq (.aO [
    ⟨(some 31),.o (.mv (.t 0)),none⟩,
    ⟨(some 32),.o (.nc (.t 31)),none⟩,
    ⟨(some 33),.o (.fa (.t 32) 1),none⟩,
    ⟨(some 34),.o (.ld (.t 33) none),none⟩,
    ⟨(some 35),.o (.mv (.t 1)),none⟩,
    ⟨(some 36),.o (.bin .add (.t 34) (.t 35)),none⟩,
    ⟨(some 37),.o (.nc (.t 31)),none⟩,
    ⟨(some 38),.o (.fa (.t 37) 1),none⟩,
    ⟨none,.o (.st (.t 38) (.t 36) 1),none⟩])
  (.seq (.aO [
    ⟨(some 39),.o (.ld (.t 8) none),none⟩,
    ⟨none,.o (.st (.t 8) (.t 39) 1),none⟩])
  (.ret)))))⟩
def lB:cR:=⟨7,[.cell 2 (some 2)],r [o 2 (.alloc [i 0,i 0])] (r [M 3 0,o 4 (.nc (t 3)),o 5 (f 4 2),o 6 (L 5 2),n (s 2 6 2)] y)⟩
def nU:cR:=⟨7,[.tmp 2],r [V 2 (i 0)] (r [M 3 0,o 4 (.nc (t 3)),o 5 (f 4 1),o 6 (l 5),M 2 6] y)⟩
def iM(f_wire_Reader_Float_1 f_wire_Reader_whole:Nat):zw:=⟨15,[.cell 2 none],
 .aO [
  ⟨(some 2),.o (.alloc [(.float .f64 0)]),none⟩],f_wire_Reader_Float_1,[(.t 2)],3,
 .seq (.aO [
  ⟨(some 4),.o (.mv (.t 0)),none⟩,
  ⟨(some 5),.aB f_wire_Reader_whole [(.t 4),(.k (.int .i64 8))],none⟩,
  ⟨(some 6),.o (.xt .ffrom (.t 5)),none⟩,
  ⟨none,.o (.st (.t 2) (.t 6) 1),none⟩])
 (.seq (.aO [
  ⟨(some 7),.o (.mv (.t 0)),none⟩,
  ⟨(some 8),.o (.nc (.t 7)),none⟩,
  ⟨(some 9),.o (.fa (.t 8) 1),none⟩,
  ⟨(some 10),.o (.ld (.t 9) none),none⟩,
  ⟨(some 11),.o (.bin .add (.t 10) (.k (.int .i64 8))),none⟩,
  ⟨(some 12),.o (.nc (.t 7)),none⟩,
  ⟨(some 13),.o (.fa (.t 12) 1),none⟩,
  ⟨none,.o (.st (.t 13) (.t 11) 1),none⟩])
 (.seq (.aO [
  ⟨(some 14),.o (.ld (.t 2) none),none⟩,
  ⟨none,.o (.st (.t 2) (.t 14) 1),none⟩])
 (.ret)))⟩
def l7(g0:Nat):cR:=⟨6,[.tmp 2],r [V 2 (F)] (r [M 3 0,o 4 (.aB g0 [t 3,k (i 1),k (i 0),k (i 1)]),o 5 (bb .eql 4 (i 1)),M 2 5] y)⟩
def l9:cR:=⟨13,[.tmp 2],r [V 2 (i 0)] (r [M 3 0,o 4 (.nc (t 3)),o 5 (f 4 0),o 6 (l 5),o 7 (h 6),M 8 0,o 9 (.nc (t 8)),o 10 (f 9 1),o 11 (l 10),o 12 (b .sub 7 11),M 2 12] y)⟩
def eV(g0 g1 g2:Nat):cR:=⟨53,[.tmp 8],r [V 8 (i 0)] (j (r [M 11 0,o 12 (.aB g0 [t 11]),o 13 (.un .not (t 12))] (c 13 (r [V 8 (i 0)] y) z)) (r [M 14 1,o 15 (.call g1 [t 14,k (i 0),k (i 7)]),M 9 15] (r [M 16 0,M 17 9,o 18 (.aB g2 [t 16,t 17]),o 19 (.kF .i64 (t 18)),M 10 19] (j (r [M 20 0,o 21 (.aB g0 [t 20]),M 22 21,p 23 (m 10) 22,p 24 (m 2) 22,p 25 (b .lss 23 24) 22,p 26 (m 25) 22,q 27 (m 10) 26,q 28 (m 3) 26,q 29 (b .gtr 27 28) 26,p 30 (Q 26 29) 22,o 31 (P 22 30)] (c 31 (R [M 32 0,M 33 0,o 34 (.nc (t 33)),o 35 (f 34 1),o 36 (l 35),o 37 (.build [i 0,i 0] [(0,1,k (i 4)),(1,1,t 36)]),o 38 (.nc (t 32)),o 39 (f 38 2),n (s 39 37 2)]) z)) (j (r [M 40 0,o 41 (.aB g0 [t 40]),o 42 (.un .not (t 41))] (c 42 (r [V 8 (i 0)] y) z)) (r [M 43 0,M 44 0,o 45 (.nc (t 44)),o 46 (f 45 1),o 47 (l 46),M 48 9,o 49 (b .add 47 48),o 50 (.nc (t 43)),o 51 (f 50 1),n (s 51 49 1)] (r [M 52 10,M 8 52] y)))))))⟩
def fX(g0 g1:Nat):cR:=⟨22,[.tmp 2],r [V 2 (.float .f64 0)] (j (r [M 4 0,o 5 (.aB g0 [t 4]),o 6 (.un .not (t 5))] (c 6 (r [V 2 (.float .f64 0)] y) z)) (r [M 7 0,o 8 (.aB g1 [t 7,k (i 8)]),M 3 8] (j (r [M 9 0,o 10 (.aB g0 [t 9]),o 11 (.un .not (t 10))] (c 11 (r [V 2 (.float .f64 0)] y) z)) (r [M 12 0,M 13 0,o 14 (.nc (t 13)),o 15 (f 14 1),o 16 (l 15),o 17 (bb .add 16 (i 8)),o 18 (.nc (t 12)),o 19 (f 18 1),n (s 19 17 1)] (r [M 20 3,o 21 (.xt .ffrom (t 20)),M 2 21] y)))))⟩
def lC(g0:Nat):cR:=⟨6,[.tmp 2],r [V 2 (F)] (r [M 3 0,o 4 (.aB g0 [t 3,k (i 1),k (i 0),k (i 1)]),o 5 (bb .eql 4 (i 1)),M 2 5] y)⟩
def dX(g0:Nat):cR:=⟨8,[.tmp 2],r [V 2 .bM] (j (r [M 3 0,o 4 (.NK false (t 3))] (c 4 (r [V 2 .bM] y) z)) (r [o 5 (.gw g0 1 []),M 6 0,o 7 (.app g0 1 1 (t 5) (t 6)),M 2 7] y))⟩
def iN (e_api_Fault:Nat):G3:=⟨9,4,[
    ⟨(some 5),.NL e_api_Fault (.agg [(.int .i64 0),(.int .i64 0)]) (.t 4),none⟩,
    ⟨(some 3),.o (.mv (.t 5)),none⟩,
    ⟨(some 6),.o (.ext (.t 3) 0),none⟩,
    ⟨(some 7),.o (.ext (.t 3) 1),none⟩,
    ⟨(some 1),.o (.alloc [(.int .i64 0),(.int .i64 0)]),none⟩,
    ⟨none,.o (.st (.t 1) (.t 6) 2),none⟩,
    ⟨(some 2),.o (.mv (.t 7)),none⟩],
  .seq (.aO [
    ⟨(some 8),.o (.mv (.t 2)),none⟩])
  (.cond (.t 8) (.aO [
     ⟨none,.o (.st (.t 0) (.k (.int .i64 0)) 1),none⟩])
   (.skip))⟩
def iO (f_wire_Reader_next:Nat):cR:=⟨23,[.tmp 4],
  .seq (.aO [
    ⟨(some 4),.o (.mv (.k (.int .u64 0))),none⟩])
  (.seq (.aO [
    ⟨(some 5),.o (.mv (.k (.int .u64 0))),none⟩])
  (.join (.seq (.aO [
     ⟨(some 8),.o (.mv (.t 0)),none⟩,
     ⟨(some 9),.o (.mv (.t 1)),none⟩,
     ⟨(some 10),.aB f_wire_Reader_next [(.t 8),(.t 9)],none⟩,
     ⟨(some 11),.o (.nC (.t 10)),none⟩,
     ⟨(some 12),.o (.mv (.k (.int .i64 0))),none⟩])
   (.block 0 (.loop (.seq (.aO [
       ⟨(some 13),.o (.bin .lss (.t 12) (.t 11)),none⟩])
     (.join (.cond (.t 13) (.skip)
       (.exit 0))
     (.join (.block 1 (.seq (.aO [
         ⟨(some 14),.o (.Bl (.t 10) (.t 12) 1),none⟩,
         ⟨(some 15),.o (.ld (.t 14) none),none⟩,
         ⟨(some 7),.o (.mv (.t 15)),none⟩])
       (.aO [
         ⟨(some 16),.o (.mv (.t 5)),none⟩,
         ⟨(some 17),.o (.bin .shl (.t 16) (.k (.int .u64 8))),none⟩,
         ⟨(some 18),.o (.mv (.t 7)),none⟩,
         ⟨(some 19),.o (.kF .u64 (.t 18)),none⟩,
         ⟨(some 20),.o (.bin .or (.t 17) (.t 19)),none⟩,
         ⟨(some 5),.o (.mv (.t 20)),none⟩])))
     (.aO [
       ⟨(some 21),.o (.bin .add (.t 12) (.k (.int .i64 1))),none⟩,
       ⟨(some 12),.o (.mv (.t 21)),none⟩])))))))
  (.seq (.aO [
    ⟨(some 22),.o (.mv (.t 5)),none⟩,
    ⟨(some 4),.o (.mv (.t 22)),none⟩])
  (.ret))))⟩
def lD (e_api_Fault:Nat):cR:=⟨23,[],
  .join (.seq (.aO [
     ⟨(some 6),.o (.mv (.t 0)),none⟩,
     ⟨(some 7),.o (.nc (.t 6)),none⟩,
     ⟨(some 8),.o (.fa (.t 7) 2),none⟩,
     ⟨(some 9),.o (.fa (.t 8) 0),none⟩,
     ⟨(some 10),.o (.ld (.t 9) none),none⟩,
     ⟨(some 11),.o (.bin .eql (.t 10) (.k (.int .i64 0))),none⟩])
   (.cond (.t 11) (.aO [
      ⟨(some 12),.o (.mv (.t 0)),none⟩,
      ⟨(some 13),.o (.mv (.t 1)),none⟩,
      ⟨(some 14),.o (.mv (.t 2)),none⟩,
      ⟨(some 15),.o (.build [(.int .i64 0),(.int .i64 0)] [(0,1,(.t 13)),(1,1,(.t 14))]),none⟩,
      ⟨(some 16),.o (.nc (.t 12)),none⟩,
      ⟨(some 17),.o (.fa (.t 16) 2),none⟩,
      ⟨none,.o (.st (.t 17) (.t 15) 2),none⟩])
    (.skip)))
  (.aO [
    ⟨(some 18),.o (.mv (.t 0)),none⟩,
    ⟨(some 19),.o (.nc (.t 18)),none⟩,
    ⟨(some 20),.o (.fa (.t 19) 2),none⟩,
    ⟨(some 21),.o (.ld (.t 20) (some 2)),none⟩,
    ⟨(some 22),.Hy e_api_Fault (.t 21),none⟩,
    ⟨none,.Hx (.t 22),none⟩])⟩
def gS (e_api_Fault:Nat):G3:=⟨9,4,[
    ⟨(some 5),.NL e_api_Fault (.agg [(.int .i64 0),(.int .i64 0)]) (.t 4),none⟩,
    ⟨(some 3),.o (.mv (.t 5)),none⟩,
    ⟨(some 6),.o (.ext (.t 3) 0),none⟩,
    ⟨(some 7),.o (.ext (.t 3) 1),none⟩,
    ⟨(some 1),.o (.alloc [(.int .i64 0),(.int .i64 0)]),none⟩,
    ⟨none,.o (.st (.t 1) (.t 6) 2),none⟩,
    ⟨(some 2),.o (.mv (.t 7)),none⟩],
  .seq (.aO [
    ⟨(some 8),.o (.mv (.t 2)),none⟩])
  (.cond (.t 8) (.aO [
     ⟨none,.o (.st (.t 0) (.k (.float .f64 0)) 1),none⟩])
   (.skip))⟩
def nq:cR:=⟨9,[.tmp 2],r [V 2 (F)] (r [M 3 0,o 4 (.nc (t 3)),o 5 (f 4 2),o 6 (f 5 0),o 7 (l 6),o 8 (bb .eql 7 (i 0)),M 2 8] y)⟩
def lE:cR:=⟨50,[.tmp 4],r [V 4 (.int .u64 0)] (j (r [M 7 0,o 8 (.nc (t 7)),o 9 (f 8 0),o 10 (l 9),o 11 (h 10),M 12 0,o 13 (.nc (t 12)),o 14 (f 13 1),o 15 (l 14),o 16 (b .sub 11 15),M 17 1,o 18 (b .lss 16 17)] (c 18 (r [M 19 0,M 20 0,o 21 (.nc (t 20)),o 22 (f 21 0),o 23 (l 22),o 24 (h 23),o 25 (.build [i 0,i 0] [(0,1,k (i 2)),(1,1,t 24)]),o 26 (.nc (t 19)),o 27 (f 26 2),n (s 27 25 2)] (r [V 4 (.int .u64 0)] y)) z)) (r [V 5 (.int .u64 0)] (j (r [V 6 (i 0)] (u 0 (.loop (j (r [M 28 6,M 29 1,o 30 (b .lss 28 29)] (c 30 z (.exit 0))) (j (u 1 (R [M 33 5,o 34 (bb .shl 33 (.int .u64 8)),M 35 0,o 36 (.nc (t 35)),o 37 (f 36 0),o 38 (l 37),M 39 0,o 40 (.nc (t 39)),o 41 (f 40 1),o 42 (l 41),M 43 6,o 44 (b .add 42 43),o 45 (a 38 44 1),o 46 (l 45),o 47 (.kF .u64 (t 46)),o 48 (b .or 34 47),M 5 48])) (R [M 31 6,o 32 (bb .add 31 (i 1)),M 6 32])))))) (r [M 49 5,M 4 49] y))))⟩
def jh (f_wire_Reader_Left f_wire_Reader_fails:Nat):cR:=⟨39,[.tmp 4],
  .seq (.aO [
    ⟨(some 4),.o (.mv (.k .bM)),none⟩])
  (.join (.seq (.aO [
     ⟨(some 5),.o (.mv (.t 0)),none⟩,
     ⟨(some 6),.o (.nc (.t 5)),none⟩,
     ⟨(some 7),.o (.fa (.t 6) 2),none⟩,
     ⟨(some 8),.o (.fa (.t 7) 0),none⟩,
     ⟨(some 9),.o (.ld (.t 8) none),none⟩,
     ⟨(some 10),.o (.bin .neq (.t 9) (.k (.int .i64 0))),none⟩,
     ⟨(some 11),.o (.mv (.t 10)),none⟩,
     ⟨(some 12),.o (.mv (.t 0)),(some (11,false))⟩,
     ⟨(some 13),.aB f_wire_Reader_Left [(.t 12)],(some (11,false))⟩,
     ⟨(some 14),.o (.mv (.t 1)),(some (11,false))⟩,
     ⟨(some 15),.o (.bin .lss (.t 13) (.t 14)),(some (11,false))⟩,
     ⟨(some 16),.o (.pick (.t 11) (.k (.bool true)) (.t 15)),none⟩])
   (.cond (.t 16) (.aO [
      ⟨(some 17),.o (.mv (.t 0)),none⟩,
      ⟨(some 18),.o (.mv (.t 0)),none⟩,
      ⟨(some 19),.o (.nc (.t 18)),none⟩,
      ⟨(some 20),.o (.fa (.t 19) 0),none⟩,
      ⟨(some 21),.o (.ld (.t 20) none),none⟩,
      ⟨(some 22),.o (.nC (.t 21)),none⟩,
      ⟨(some 23),.aB f_wire_Reader_fails [(.t 17),(.k (.int .i64 2)),(.t 22)],none⟩])
    (.skip)))
  (.seq (.Cv [
    ⟨(some 24),.mv (.t 0),none⟩,
    ⟨(some 25),.nc (.t 24),none⟩,
    ⟨(some 26),.fa (.t 25) 0,none⟩,
    ⟨(some 27),.ld (.t 26) none,none⟩,
    ⟨(some 28),.mv (.t 0),none⟩,
    ⟨(some 29),.nc (.t 28),none⟩,
    ⟨(some 30),.fa (.t 29) 1,none⟩,
    ⟨(some 31),.ld (.t 30) none,none⟩,
    ⟨(some 32),.mv (.t 0),none⟩,
    ⟨(some 33),.nc (.t 32),none⟩,
    ⟨(some 34),.fa (.t 33) 1,none⟩,
    ⟨(some 35),.ld (.t 34) none,none⟩,
    ⟨(some 36),.mv (.t 1),none⟩,
    ⟨(some 37),.bin .add (.t 35) (.t 36),none⟩,
    ⟨(some 38),.HD 1 (.t 27) (some (.t 31)) (some (.t 37)),none⟩,
    ⟨(some 4),.mv (.t 38),none⟩])
  (.ret)))⟩
end
end Go.Eng
