/- The engine and the library,part 12 of 21: what the proofs of this seat need of them. -/
import Derived.Test.YtkckiembbiiliaaGreatPk11
set_option linter.unnecessarySimpa false
set_option linter.unusedSimpArgs false
set_option linter.unusedVariables false
set_option linter.defProp false
set_option maxRecDepth 10000
set_option maxHeartbeats 4000000
namespace Go.Eng
open Go
open Go.RowKit (Below)
section
variable{C:bw} {Q:Exit->S->Prop} {K:SV->S->Prop} {J:S->Prop} {X:AV->S->Prop}
variable(sl:List (Nat×SV)) (bx:List (Nat×bY)) (lv:List (Nat×Nat)) (nx:Nat)
theorem Qu(b i:Nat):eU C b i [] J X ⟨sl,bx,lv,nx⟩=J ⟨sl,bx,lv,nx⟩:=rfl
theorem US(b i:Nat) (d:Option Nat) (o:CD) (r:List XO):eU C b i (⟨d,o,none⟩::r) J X ⟨sl,bx,lv,nx⟩=bH C (b+i) o (fun v s'=>eU C b (i+1) r J X (s'.put d v)) X ⟨sl,bx,lv,nx⟩:=rfl
theorem Qv(b i t:Nat) (w:Bool) (d:Option Nat) (o:CD) (r:List XO):eU C b i (⟨d,o,some (t,w)⟩::r) J X ⟨sl,bx,lv,nx⟩=
  lS w (bH C (b+i) o (fun v s'=>eU C b (i+1) r J X (s'.put d v)) X ⟨sl,bx,lv,nx⟩) (eU C b (i+1) r J X (S.put ⟨sl,bx,lv,nx⟩ d .undef)) (lk t sl):=by
 simp only[eU,eA,lS]
 cases lk t sl with
 |none=>rfl
 |some v=>cases v with
  |dat a q=>cases a<;>rfl
  |_=>rfl
theorem Ye(id:Nat) (c:bR):bH C id (.o c) K X ⟨sl,bx,lv,nx⟩=bN C id c K ⟨sl,bx,lv,nx⟩:=rfl
def FO(k:Exit->S->Prop) (n:Nat):AV->S->Prop:=fun p s=>k (.panic (d8 p)) {s with nx:=n}
theorem UT(ops:List XO):aw C (.aT ops) Q ⟨sl,bx,lv,nx⟩=eU C nx 0 ops (Ar (Q .normal) (nx+ops.length)) (FO Q (nx+ops.length)) ⟨sl,bx,lv,nx⟩:=rfl
theorem Qw(k:Exit->S->Prop) (n:Nat) (p:AV):FO k n p ⟨sl,bx,lv,nx⟩=k (.panic (d8 p)) ⟨sl,bx,lv,n⟩:=rfl
class KX where
 run:SV->List (Nat×bY)->List (Nat×Nat)->Prop
 rx:AV->List (Nat×bY)->Prop
def zq(C:bw) (f:Nat) (as:List AV) (id:Nat) (bx:List (Nat×bY)) (lv:List (Nat×Nat)) (k:SV->List (Nat×bY)->List (Nat×Nat)->Prop) (x:AV->List (Nat×bY)->Prop):Prop:=
 xk C f as id lv (fun v l=>k v bx l)\/(∃cs,C.n f as cs/\k (.ptr id 0) ((id,⟨cs,[]⟩)::bx) lv)\/(∃p,C.q f [] (as.map some) p []/\x p bx)\/∃rows e z,C.c f as (.sl rows) (some e)/\uF z rows=true/\k (.vs id 0 rows.length z) ((id,⟨rows.flatten,[]⟩)::bx) lv
def We(C:bw) (f:Nat) (as:List AV) (id:Nat) (bx:List (Nat×bY)) (lv:List (Nat×Nat)) [k:KX]:Prop:=zq C f as id bx lv k.run k.rx
theorem UU(f:Nat) (as:List AV) (id:Nat) (bx:List (Nat×bY)) (lv:List (Nat×Nat)) (k:SV->List (Nat×bY)->List (Nat×Nat)->Prop) (x:AV->List (Nat×bY)->Prop):zq C f as id bx lv k x=@We C f as id bx lv ⟨k,x⟩:=rfl
@[congr] theorem UW (f:Nat) {as as':List AV} (id:Nat) (bx:List (Nat×bY)) (lv:List (Nat×Nat)) (k:SV->List (Nat×bY)->List (Nat×Nat)->Prop) (x:AV->List (Nat×bY)->Prop) (h:as=as'):zq C f as id bx lv k x=zq C f as' id bx lv k x:=by rw[h]
theorem iI{f:Nat} {as:List AV} {id:Nat} {bx:List (Nat×bY)} {lv:List (Nat×Nat)} {k:SV->List (Nat×bY)->List (Nat×Nat)->Prop} {x:AV->List (Nat×bY)->Prop} {r:AV} (h:C.c f as r none) (hk:k (.dat r none) bx lv):@We C f as id bx lv ⟨k,x⟩:=.inl ⟨r,none,h,hk⟩
theorem oL{f:Nat} {as:List AV} {id:Nat} {bx:List (Nat×bY)} {lv:List (Nat×Nat)} {k:SV->List (Nat×bY)->List (Nat×Nat)->Prop} {x:AV->List (Nat×bY)->Prop} {cs:List AV} (h:C.n f as cs) (hk:k (.ptr id 0) ((id,⟨cs,[]⟩)::bx) lv):@We C f as id bx lv ⟨k,x⟩:=.inr (.inl ⟨cs,h,hk⟩)
theorem G0{f:Nat} {as:List AV} {id:Nat} {bx:List (Nat×bY)} {lv:List (Nat×Nat)} {k:SV->List (Nat×bY)->List (Nat×Nat)->Prop} {x:AV->List (Nat×bY)->Prop} {rows:List (List AV)} {e z:Nat} (h:C.c f as (.sl rows) (some e)) (hf:uF z rows=true) (hk:k (.vs id 0 rows.length z) ((id,⟨rows.flatten,[]⟩)::bx) lv):@We C f as id bx lv ⟨k,x⟩:=.inr (.inr (.inr ⟨rows,e,z,h,hf,hk⟩))
theorem Qx(id f:Nat) (args:List bE):bH C id (.call f args) K X ⟨sl,bx,lv,nx⟩=aj (dL ⟨sl,bx,lv,nx⟩ args) fun as=>zq C f as id bx lv (fun v b l=>K v ⟨sl,b,l,nx⟩) (fun p b=>X p ⟨sl,b,lv,nx⟩):=by
 simp only[bH,bN]
 cases dL ⟨sl,bx,lv,nx⟩ args with
 |none=>simp
 |some as=>rfl
def sB(C:bw) (f:Nat) (css:List (List AV)) (as:List (Option AV)) (ids:List Nat) (id:Nat) (bx:List (Nat×bY)) (lv:List (Nat×Nat)) (k:SV->List (Nat×bY)->List (Nat×Nat)->Prop) (x:AV->List (Nat×bY)->Prop):Prop:=
 yZ C f css as ids id bx lv k\/(∃v css',C.q f css as v css'/\x v (dz ids css' bx))\/Fb C f css as ids id bx lv k
def Qy(C:bw) (f:Nat) (css:List (List AV)) (as:List (Option AV)) (ids:List Nat) (id:Nat) (bx:List (Nat×bY)) (lv:List (Nat×Nat)) [k:KX]:Prop:=sB C f css as ids id bx lv k.run k.rx
theorem Qz(f:Nat) (css:List (List AV)) (as:List (Option AV)) (ids:List Nat) (id:Nat) (bx:List (Nat×bY)) (lv:List (Nat×Nat)) (k:SV->List (Nat×bY)->List (Nat×Nat)->Prop) (x:AV->List (Nat×bY)->Prop):sB C f css as ids id bx lv k x=@Qy C f css as ids id bx lv ⟨k,x⟩:=rfl
@[congr] theorem Sc (f:Nat) {css css':List (List AV)} {as as':List (Option AV)} {ids ids':List Nat} (id:Nat) (bx:List (Nat×bY)) (lv:List (Nat×Nat)) (k:SV->List (Nat×bY)->List (Nat×Nat)->Prop) (x:AV->List (Nat×bY)->Prop) (h1:css=css') (h2:as=as') (h3:ids=ids'):sB C f css as ids id bx lv k x=sB C f css' as' ids' id bx lv k x:=by rw[h1,h2,h3]
theorem aC{f:Nat} {css:List (List AV)} {as:List (Option AV)} {ids:List Nat} {id:Nat} {bx:List (Nat×bY)} {lv:List (Nat×Nat)} {k:SV->List (Nat×bY)->List (Nat×Nat)->Prop} {x:AV->List (Nat×bY)->Prop} {r:AV} {css':List (List AV)} (h:C.p f css as r none css') (hk:k (.dat r none) (dz ids css' bx) lv):@Qy C f css as ids id bx lv ⟨k,x⟩:=.inl ⟨r,none,css',h,hk⟩
theorem aI{f:Nat} {css:List (List AV)} {as:List (Option AV)} {ids:List Nat} {id:Nat} {bx:List (Nat×bY)} {lv:List (Nat×Nat)} {k:SV->List (Nat×bY)->List (Nat×Nat)->Prop} {x:AV->List (Nat×bY)->Prop} {p:AV} {css':List (List AV)} (h:C.q f css as p css') (hk:x p (dz ids css' bx)):@Qy C f css as ids id bx lv ⟨k,x⟩:=.inr (.inl ⟨p,css',h,hk⟩)
def vr(C:bw) (f id:Nat) (bx:List (Nat×bY)) (lv:List (Nat×Nat)) (as':List (Option AV)) (bs:List Nat) (k:SV->List (Nat×bY)->List (Nat×Nat)->Prop) (x:AV->List (Nat×bY)->Prop) (p:List (Option AV)×List Nat):Prop:=
 cY (p.2++bs)=true/\aj (bh bx (p.2++bs)) fun css=>sB C f css (p.1++as') (p.2++bs) id bx lv k x
theorem Jp(f id:Nat) (as as':List (Option AV)) (ids bs:List Nat) (k:SV->List (Nat×bY)->List (Nat×Nat)->Prop) (x:AV->List (Nat×bY)->Prop):vr C f id bx lv as' bs k x (as,ids)=(cY (ids++bs)=true/\aj (bh bx (ids++bs)) fun css=>sB C f css (as++as') (ids++bs) id bx lv k x):=rfl
theorem M1(id f:Nat) (args:List bE):bH C id (.aE f args) K X ⟨sl,bx,lv,nx⟩=aj (dB true ⟨sl,bx,lv,nx⟩ args) (vr C f id bx lv [] [] (fun v b l=>K v ⟨sl,b,l,nx⟩) (fun p b=>X p ⟨sl,b,lv,nx⟩)):=by
 simp only[bH,bN]
 cases dB true ⟨sl,bx,lv,nx⟩ args with
 |none=>simp
 |some p=>
  simp only[aG,vr,List.append_nil]
  cases bh bx p.2 with
  |none=>simp
  |some css=>
   exact(propext and_or_left).symm
def sC(C:bw) (id:Nat) (b:Bool) (g:bE) (args:List bE) (K:SV->S->Prop) (X:AV->S->Prop) (s:S):Option SV->Prop
 |some (.nD f as bs)=>aj (dB true s args) (vr C f id s.boxes s.live as bs (fun v b l=>K v ⟨s.slots,b,l,s.nx⟩) (fun p b=>X p ⟨s.slots,b,s.live,s.nx⟩))
 |_=>bN C id (if b then .gL g args else .fc g args) K s
theorem M3(id:Nat) (b:Bool) (g:bE) (args:List bE):bH C id (.fc b g args) K X ⟨sl,bx,lv,nx⟩=sC C id b g args K X ⟨sl,bx,lv,nx⟩ (bM ⟨sl,bx,lv,nx⟩ g):=by
 simp only[bH]
 cases bM ⟨sl,bx,lv,nx⟩ g with
 |none=>rfl
 |some v=>cases v<;>rfl
@[congr] theorem Sd (id:Nat) (b:Bool) (g:bE) (args:List bE) (K:SV->S->Prop) (X:AV->S->Prop) (s:S) {v v':Option SV} (h:v=v'):sC C id b g args K X s v=sC C id b g args K X s v':=by rw[h]
theorem Jq(id:Nat) (b:Bool) (g:bE) (args:List bE) (f:Nat) (as:List (Option AV)) (bs:List Nat):sC C id b g args K X ⟨sl,bx,lv,nx⟩ (some (.nD f as bs))=aj (dB true ⟨sl,bx,lv,nx⟩ args) (vr C f id bx lv as bs (fun v b l=>K v ⟨sl,b,l,nx⟩) (fun p b=>X p ⟨sl,b,lv,nx⟩)):=rfl
theorem Jr(id:Nat) (g:bE) (args:List bE) (s:S) (a:AV) (q:Option Nat):sC C id true g args K X s (some (.dat a q))=bN C id (.gL g args) K s:=rfl
theorem Js(id:Nat) (g:bE) (args:List bE) (s:S) (a:AV) (q:Option Nat):sC C id false g args K X s (some (.dat a q))=bN C id (.fc g args) K s:=rfl
def M4(f:Nat) (k:SV->Prop) (p:List (Option AV)×List Nat):Prop:=k (.nD f p.1 p.2)
theorem UX(id f:Nat) (caps:List bE):bH C id (.Sm f caps) K X ⟨sl,bx,lv,nx⟩=aj (dB false ⟨sl,bx,lv,nx⟩ caps) (M4 f fun v=>K v ⟨sl,bx,lv,nx⟩):=rfl
theorem QB(f:Nat) (k:SV->Prop) (as:List (Option AV)) (bs:List Nat):M4 f k (as,bs)=k (.nD f as bs):=rfl
theorem UY(id:Nat) (x:bE):bH C id (.Hy x) K X ⟨sl,bx,lv,nx⟩=aj (aQ ⟨sl,bx,lv,nx⟩ x) fun a=>jo a=true/\X a ⟨sl,bx,lv,nx⟩:=rfl
theorem UZ(id t:Nat) (x:bE):bH C id (.Hz t x) K X ⟨sl,bx,lv,nx⟩=aj (aQ ⟨sl,bx,lv,nx⟩ x) fun a=>jq a none=true/\K (.dat (.iface t a) none) ⟨sl,bx,lv,nx⟩:=rfl
theorem U0(id t:Nat) (z:AV) (x:bE):bH C id (.NO t z x) K X ⟨sl,bx,lv,nx⟩=aj (aQ ⟨sl,bx,lv,nx⟩ x) fun a=>aj (Ef t z a) fun v=>K (.dat v none) ⟨sl,bx,lv,nx⟩:=rfl
theorem U1(id:Nat) (neg:Bool) (x:bE):bH C id (.RH neg x) K X ⟨sl,bx,lv,nx⟩=aj (aQ ⟨sl,bx,lv,nx⟩ x) fun a=>aj (Ge neg a) fun v=>K (.dat (.bool v) none) ⟨sl,bx,lv,nx⟩:=rfl
theorem U2(id:Nat) (neg:Bool) (x:bE):bH C id (.RI neg x) K X ⟨sl,bx,lv,nx⟩=aj (bM ⟨sl,bx,lv,nx⟩ x) fun a=>aj (An neg a) fun v=>K (.dat (.bool v) none) ⟨sl,bx,lv,nx⟩:=rfl
theorem U3(id e bytes:Nat) (l c:bE):bH C id (.RJ e bytes l c) K X ⟨sl,bx,lv,nx⟩=aj (aQ ⟨sl,bx,lv,nx⟩ l) fun a=>aj (idxOf a) fun l=>aj (aQ ⟨sl,bx,lv,nx⟩ c) fun b=>aj (idxOf b) fun c=>(0<=l/\l<=c/\c*bytes<=140737488355328)/\K (.raw id l.toNat) ⟨sl,bx,(id,e)::lv,nx⟩:=rfl
def M5(e id:Nat) (s:S) (b:Option AV) (k:SV->S->Prop):SV->Prop
 | .raw q n=>aj b fun b=>aj (rowsOf b) fun ys=>(ys.length=n/\∀r∈ys,r.length=1)/\eK q s.live=some e/\k (.dat (.int .i64 n) none) {s with slots:=Ao q n (.sl ys) id s.slots,live:=(id,e)::mj q s.live}
 |_=>False
theorem U4(id e:Nat) (x y:bE):bH C id (.RM e x y) K X ⟨sl,bx,lv,nx⟩=aj (bM ⟨sl,bx,lv,nx⟩ x) (M5 e id ⟨sl,bx,lv,nx⟩ (aQ ⟨sl,bx,lv,nx⟩ y) K):=by
 show aj _ _=aj _ _
 cases bM ⟨sl,bx,lv,nx⟩ x with
 |none=>rfl
 |some v=>cases v<;>rfl
theorem QC(id e q n:Nat) (b:Option AV):M5 e id ⟨sl,bx,lv,nx⟩ b K (.raw q n)=aj b fun b=>aj (rowsOf b) fun ys=>(ys.length=n/\∀r∈ys,r.length=1)/\eK q lv=some e/\K (.dat (.int .i64 n) none) ⟨Ao q n (.sl ys) id sl,bx,(id,e)::mj q lv,nx⟩:=rfl
@[congr] theorem W6 (e id:Nat) (s:S) {b b':Option AV} (k:SV->S->Prop) {v v':SV} (h:b=b') (hv:v=v'):M5 e id s b k v=M5 e id s b' k v':=by rw[h,hv]
theorem M6(q n:Nat) (a:AV) (id:Nat):Ao q n a id []=[]:=rfl
theorem QD(q n:Nat) (a:AV) (id t:Nat) (v:SV) (r:List (Nat×SV)):Ao q n a id ((t,v)::r)=(t,yp q n a id v)::Ao q n a id r:=rfl
theorem QE(q n:Nat) (a:AV) (id:Nat):yp q n a id (.raw q n)=.dat a (some id):=by simp[yp]
theorem QF(q n:Nat) (a b:AV) (id:Nat) (m:Option Nat):yp q n a id (.dat b m)=.dat b m:=rfl
theorem QG(q n:Nat) (a:AV) (id b o:Nat):yp q n a id (.ptr b o)=.ptr b o:=rfl
theorem QH(q n:Nat) (a:AV) (id:Nat) (cs:List AV):yp q n a id (.rp cs)=.rp cs:=rfl
theorem QI(q n:Nat) (a:AV) (id:Nat):yp q n a id .undef=.undef:=rfl
theorem QJ(b:Nat) (cs:List AV) (q n:Nat):jZ b cs (.raw q n)=.raw q n:=rfl
theorem QK(t:Nat) (z:AV):Ef t z .fJ=some (.qf [z,.bool false]):=rfl
theorem QL(t:Nat) (z a:AV):Ef t z (.iface t a)=some (.qf [a,.bool true]):=by simp[Ef]
theorem QM(neg:Bool):Ge neg .fJ=some !neg:=rfl
theorem QN(neg:Bool) (t:Nat) (a:AV):Ge neg (.iface t a)=some neg:=rfl
theorem QO(neg:Bool) (b o:Nat):An neg (.ptr b o)=some neg:=rfl
theorem QS(neg:Bool) (cs:List AV):An neg (.rp cs)=some neg:=rfl
theorem QT(neg:Bool) (q:Option Nat):An neg (.dat .mh q)=some !neg:=rfl
theorem U5(b:Nat) (cs:List AV) (f:Nat) (as:List (Option AV)) (bs:List Nat):jZ b cs (.nD f as bs)=.nD f as bs:=rfl
theorem W7(t:Nat) (a:AV) (q:Option Nat):jq (.iface t a) q=true:=rfl
theorem U6(q:Option Nat):jq .fJ q=true:=rfl
theorem M7(t:Nat) (a:AV):AV.cells (.iface t a)=[.iface t a]:=rfl
theorem U7(t:Nat) (a:AV):jv (.iface t a)=.dat (.iface t a) none:=rfl
theorem QU:jv .fJ=.dat .fJ none:=rfl
def FP(k:SV->Prop):SV->Prop
 | .ptr b o=>k (.pt 0 [(b,o)])
 |_=>False
theorem QV(id:Nat) (x:bE):bH C id (.Gc x) K X ⟨sl,bx,lv,nx⟩=aj (bM ⟨sl,bx,lv,nx⟩ x) (FP fun v=>K v ⟨sl,bx,lv,nx⟩):=by
 show aj _ _=aj _ _
 cases bM ⟨sl,bx,lv,nx⟩ x with
 |none=>rfl
 |some v=>cases v<;>rfl
theorem M8(k:SV->Prop) (b o:Nat):FP k (.ptr b o)=k (.pt 0 [(b,o)]):=rfl
def FQ(k:SV->Prop):SV->Prop
 | .pt 0 ps=>k (.pt 2 ps)
 |_=>False
theorem QW(id:Nat) (x:bE):bH C id (.sU x) K X ⟨sl,bx,lv,nx⟩=aj (bM ⟨sl,bx,lv,nx⟩ x) (FQ fun v=>K v ⟨sl,bx,lv,nx⟩):=by
 show aj _ _=aj _ _
 cases bM ⟨sl,bx,lv,nx⟩ x with
 |none=>rfl
 |some v=>cases v with
  |pt k ps=>cases k<;>rfl
  |_=>rfl
theorem M9(k:SV->Prop) (ps:List (Nat×Nat)):FQ k (.pt 0 ps)=k (.pt 2 ps):=rfl
def G1(s:S) (k:S->Prop) (b:Nat):SV->Prop
 | .pt 0 ps=>aj (ct b s.boxes) fun y=>(4<=b/\y.cells.length=1/\ps.length=1)/\k {s with slots:=s7 b ps s.slots,boxes:=kZ b s.boxes}
 |_=>False
def Na(s:S) (k:S->Prop) (v:Option SV):SV->Prop
 | .ptr b 0=>aj v (G1 s k b)
 |_=>False
theorem U8(id:Nat) (x v:bE):bH C id (.RO x v) K X ⟨sl,bx,lv,nx⟩=aj (bM ⟨sl,bx,lv,nx⟩ x) (Na ⟨sl,bx,lv,nx⟩ (K .undef) (bM ⟨sl,bx,lv,nx⟩ v)):=by
 show aj _ _=aj _ _
 cases bM ⟨sl,bx,lv,nx⟩ x with
 |none=>rfl
 |some u=>cases u with
  |ptr b o=>cases o with
   |zero=>
    show aj _ _=aj _ _
    cases bM ⟨sl,bx,lv,nx⟩ v with
    |none=>rfl
    |some q=>cases q with
     |pt k ps=>cases k<;>rfl
     |_=>rfl
   |succ o=>rfl
  |_=>rfl
theorem QX(s:S) (k:S->Prop) (v:Option SV) (b:Nat):Na s k v (.ptr b 0)=aj v (G1 s k b):=rfl
theorem QY(k:S->Prop) (b:Nat) (p:Nat×Nat):G1 ⟨sl,bx,lv,nx⟩ k b (.pt 0 [p])=aj (ct b bx) fun y=>(4<=b/\y.cells.length=1)/\k ⟨s7 b [p] sl,kZ b bx,lv,nx⟩:=by
 simp[G1]
theorem Nb(b:Nat) (ps:List (Nat×Nat)):s7 b ps []=[]:=rfl
theorem QZ(b:Nat) (ps:List (Nat×Nat)) (t:Nat) (v:SV) (r:List (Nat×SV)):s7 b ps ((t,v)::r)=(t,s6 b ps v)::s7 b ps r:=rfl
theorem U9(b:Nat) (ps:List (Nat×Nat)) (b' o:Nat):s6 b ps (.ptr b' o)=bif b'==b then .pt 2 (ps.drop o)else .ptr b' o:=rfl
theorem Va(b:Nat) (ps:List (Nat×Nat)) (a:AV) (q:Option Nat):s6 b ps (.dat a q)=.dat a q:=rfl
theorem Vb(b:Nat) (ps:List (Nat×Nat)) (cs:List AV):s6 b ps (.rp cs)=.rp cs:=rfl
theorem Vc(b:Nat) (ps:List (Nat×Nat)):s6 b ps .undef=.undef:=rfl
theorem Vd(b:Nat) (ps:List (Nat×Nat)) (k:Nat) (qs:List (Nat×Nat)):s6 b ps (.pt k qs)=.pt k qs:=rfl
theorem Ve(b:Nat) (ps:List (Nat×Nat)) (f:Nat) (as:List (Option AV)) (bs:List Nat):s6 b ps (.nD f as bs)=.nD f as bs:=rfl
def Jt:Option SV->Option (List (Nat×Nat))->Option (List (Nat×Nat))
 |some (.ptr b o),some ps=>some ((b,o)::ps)
 |_,_=>none
theorem Nc:qp ⟨sl,bx,lv,nx⟩ []=some []:=rfl
theorem Q0(x:bE) (r:List bE):qp ⟨sl,bx,lv,nx⟩ (x::r)=Jt (bM ⟨sl,bx,lv,nx⟩ x) (qp ⟨sl,bx,lv,nx⟩ r):=by
 rw[qp];unfold Jt
 cases bM ⟨sl,bx,lv,nx⟩ x with
 |none=>rfl
 |some v=>cases qp ⟨sl,bx,lv,nx⟩ r<;>cases v<;>rfl
theorem Nd(b o:Nat) (ps:List (Nat×Nat)):Jt (some (.ptr b o)) (some ps)=some ((b,o)::ps):=rfl
theorem Q1(id:Nat) (xs:List bE):bH C id (.Bu xs) K X ⟨sl,bx,lv,nx⟩=aj (qp ⟨sl,bx,lv,nx⟩ xs) fun ps=>K (.pt 1 ps) ⟨sl,bx,lv,nx⟩:=rfl
def Nf(a:Option AV) (k:SV->Prop):SV->Prop
 | .pt 1 ps=>aj a fun a=>aj (idxOf a) fun i=>(0<=i/\i<ps.length)/\k (.pt 2 (ps.drop i.toNat))
 |_=>False
theorem Vf(id:Nat) (x i:bE):bH C id (.KZ x i) K X ⟨sl,bx,lv,nx⟩=aj (bM ⟨sl,bx,lv,nx⟩ x) (Nf (aQ ⟨sl,bx,lv,nx⟩ i) fun v=>K v ⟨sl,bx,lv,nx⟩):=by
 show aj _ _=aj _ _
 cases bM ⟨sl,bx,lv,nx⟩ x with
 |none=>rfl
 |some v=>cases v with
  |pt k ps=>match k with
   |0=>rfl
   |1=>rfl
   |k+2=>rfl
  |_=>rfl
theorem Q2(a:Option AV) (k:SV->Prop) (ps:List (Nat×Nat)):Nf a k (.pt 1 ps)=aj a fun a=>aj (idxOf a) fun i=>(0<=i/\i<ps.length)/\k (.pt 2 (ps.drop i.toNat)):=rfl
def Ng(k:SV->Prop):SV->Prop
 | .pt 1 ps=>k (.dat (.int .i64 ps.length) none)
 |_=>False
theorem Vg(id:Nat) (x:bE):bH C id (.K0 x) K X ⟨sl,bx,lv,nx⟩=aj (bM ⟨sl,bx,lv,nx⟩ x) (Ng fun v=>K v ⟨sl,bx,lv,nx⟩):=by
 show aj _ _=aj _ _
 cases bM ⟨sl,bx,lv,nx⟩ x with
 |none=>rfl
 |some v=>cases v with
  |pt k ps=>match k with
   |0=>rfl
   |1=>rfl
   |k+2=>rfl
  |_=>rfl
theorem Q3(k:SV->Prop) (ps:List (Nat×Nat)):Ng k (.pt 1 ps)=k (.dat (.int .i64 ps.length) none):=rfl
def zu(C:bw) (f:Nat) (css:List (List AV)) (as:List (Option AV)) (ids:List Nat) (bx:List (Nat×bY)) (k:SV->List (Nat×bY)->Prop):Prop:=∃j o b,C.r f css as j o/\ids[j]? =some b/\k (.ptr b o) (dz ids css bx)
theorem Ju{f:Nat} {css:List (List AV)} {as:List (Option AV)} {ids:List Nat} {bx:List (Nat×bY)} {k:SV->List (Nat×bY)->Prop} {j o b:Nat} (h:C.r f css as j o) (hj:ids[j]? =some b) (hk:k (.ptr b o) (dz ids css bx)):zu C f css as ids bx k:=⟨j,o,b,h,hj,hk⟩
def B7(C:bw) (bx:List (Nat×bY)) (p:List (Option AV)×List Nat) (k:SV->List (Nat×bY)->Prop):AV->Prop
 | .fn (.func f) [] []=>cY p.2=true/\aj (bh bx p.2) fun css=>zu C f css p.1 p.2 bx k
 |_=>False
theorem Nh(id:Nat) (g:bE) (args:List bE):bH C id (.Ay g args) K X ⟨sl,bx,lv,nx⟩=aj (aQ ⟨sl,bx,lv,nx⟩ g) fun a=>aj (dB true ⟨sl,bx,lv,nx⟩ args) fun p=>B7 C bx p (fun v b=>K v ⟨sl,b,lv,nx⟩) a:=by
 show aj _ _=aj _ _
 cases aQ ⟨sl,bx,lv,nx⟩ g with
 |none=>rfl
 |some a=>
  simp only[aG]
  cases dB true ⟨sl,bx,lv,nx⟩ args with
  |none=>cases a<;>(try simp)<;>(rename_i fn first caps;cases fn<;>cases first<;>cases caps<;>simp)
  |some p=>cases a<;>(try rfl)<;>(rename_i fn first caps;cases fn<;>cases first<;>cases caps<;>rfl)
theorem Jv(p:List (Option AV)×List Nat) (k:SV->List (Nat×bY)->Prop) (f:Nat):B7 C bx p k (.fn (.func f) [] [])=(cY p.2=true/\aj (bh bx p.2) fun css=>zu C f css p.1 p.2 bx k):=rfl
@[congr] theorem Wf (k:SV->Prop) {v v':SV} (h:v=v'):FP k v=FP k v':=by rw[h]
@[congr] theorem Wg (k:SV->Prop) {v v':SV} (h:v=v'):FQ k v=FQ k v':=by rw[h]
@[congr] theorem W8 (s:S) (k:S->Prop) {u u':Option SV} {v v':SV} (hu:u=u') (h:v=v'):Na s k u v=Na s k u' v':=by rw[h,hu]
@[congr] theorem W9 (s:S) (k:S->Prop) (b:Nat) {v v':SV} (h:v=v'):G1 s k b v=G1 s k b v':=by rw[h]
@[congr] theorem Xa {a a':Option AV} (k:SV->Prop) {v v':SV} (ha:a=a') (h:v=v'):Nf a k v=Nf a' k v':=by rw[h,ha]
@[congr] theorem Xb (k:SV->Prop) {v v':SV} (h:v=v'):Ng k v=Ng k v':=by rw[h]
@[congr] theorem Vh (f:Nat) {css css':List (List AV)} {as as':List (Option AV)} {ids ids':List Nat} {bx bx':List (Nat×bY)} (k:SV->List (Nat×bY)->Prop) (h1:css=css') (h2:as=as') (h3:ids=ids') (h4:bx=bx'):zu C f css as ids bx k=zu C f css' as' ids' bx' k:=by rw[h1,h2,h3,h4]
@[congr] theorem Vi (p:List (Option AV)×List Nat) (k:SV->List (Nat×bY)->Prop) {v v':AV} (h:v=v'):B7 C bx p k v=B7 C bx p k v':=by rw[h]
theorem Q4(k:S->Prop) (s:S) (c:List PanicEntry):j5 k Q (.panic c) s=Q (.panic c) s:=rfl
theorem Vj(id:Nat) (s:S) (c:List PanicEntry):gN id Q (.panic c) s=Q (.panic c) s:=rfl
theorem Xc(l:Nat) (k:S->Prop) (s:S) (c:List PanicEntry):mL l k Q (.panic c) s=Q (.panic c) s:=rfl
theorem Xd(s:S) (c:List PanicEntry):xK Q (.panic c) s=Q (.panic c) s:=rfl
theorem Vk(t:Nat) (k k':IntKind) (x y:Int):jo (.iface t (.agg [.int k x,.int k' y]))=true:=rfl
@[congr] theorem Xe (id:Nat) (o:CD) (s:S):bH C id o K X s=bH C id o K X s:=rfl
@[congr] theorem Wh (b i:Nat) (l:List XO) (s:S):eU C b i l J X s=eU C b i l J X s:=rfl
@[congr] theorem Wi (n:Nat) (p:AV) (s:S):FO Q n p s=FO Q n p s:=rfl
@[congr] theorem Xf (f:Nat) (k:SV->Prop) {p p':List (Option AV)×List Nat} (h:p=p'):M4 f k p=M4 f k p':=by rw[h]
end
def aK:=
 And.intro @Qu (And.intro @US (And.intro @Qv (And.intro @Ye (And.intro @UT (And.intro @Qw (And.intro @Qx (And.intro @Jp (And.intro @M1 (And.intro @M3 (And.intro @Jq (And.intro @Jr (And.intro @Js (And.intro @UX (And.intro @QB (And.intro @UY (And.intro @UZ (And.intro @U0 (And.intro @U1 (And.intro @U2 (And.intro @U3 (And.intro @U4 (And.intro @QC (And.intro @M6 (And.intro @QD (And.intro @QE (And.intro @QF (And.intro @QG (And.intro @QH (@QI)))))))))))))))))))))))))))))
def aL:=
 And.intro @QJ (And.intro @QK (And.intro @QL (And.intro @QM (And.intro @QN (And.intro @QO (And.intro @QS (And.intro @QT (And.intro @U5 (And.intro @W7 (And.intro @U6 (And.intro @M7 (And.intro @U7 (And.intro @QU (And.intro @Q4 (And.intro @Vj (And.intro @Xc (And.intro @Xd (@Vk))))))))))))))))))
def bz:=
 And.intro @QV (And.intro @M8 (And.intro @QW (And.intro @M9 (And.intro @U8 (And.intro @QX (And.intro @QY (And.intro @Nb (And.intro @QZ (And.intro @U9 (And.intro @Va (And.intro @Vb (And.intro @Vc (And.intro @Vd (And.intro @Ve (And.intro @Nc (And.intro @Q0 (And.intro @Nd (And.intro @Q1 (And.intro @Vf (And.intro @Q2 (And.intro @Vg (And.intro @Q3 (And.intro @Nh (@Jv))))))))))))))))))))))))
def aM:=And.intro @UU @Qz
def Ni(p:AV) (css:List (List AV)):Exit->S->Prop
 | .panic c,s=>c=d8 p/\gi s.boxes 0 css
 |_,_=>False
theorem Q5(p:AV) (css:List (List AV)) (s:S):Ni p css (.panic (d8 p)) s=gi s.boxes 0 css:=by simp[Ni]
def Q6(res:List gb) (cs:List AV):Exit->S->Prop
 | .normal,s| .ret,s=>match res with
  |[.tmp t]=>match lk t s.slots with
   |some (.ptr b 0)=>4<=b/\aj (ct b s.boxes) fun x=>x.cells=cs
   |_=>False
  |_=>False
 |_,_=>False
section
variable{P:Program}
theorem zw{w:World} {π:Nat->Nat->Prop} {Bs:List Nat} {vs:List Value} {css:List (List AV)} {args:List (Option AV)} {nt:Nat} (hn:args.length<=nt) (h4:css.length<=4)
  (hprot:∀b o,π b o->b<w.heap.size) (hnd:Bs.Nodup) (hbx:cG w π css Bs) (hd:eV w π args Bs vs):
  dJ P nt (gO.gY w Bs) w π (oC css args) {tmps:=vs.toArray++Array.replicate (nt-vs.toArray.size) undef,defers:=[]} w:=by
 have hlen:=sq hd
 obtain⟨hbl,hbget⟩:=hbx.get
 have hβ:∀(j B:Nat),Bs[j]? =some B->(gO.gY w Bs).β j=B:=fun j B hj=>by simp[gO.gY,hj]
 refine⟨Nat.le_refl 4,(gO.gY w Bs).β,fun _=>undef,π,fun n=>n<4,fun _ h=>h,?_⟩
 have hbox:∀b x,ct b (oC css args).boxes=some x->∃B cs,b<4/\Bs[b]? =some B/\(gO.gY w Bs).β b=B/\x=⟨cs,[]⟩/\ou (fun _=>undef) w π B ⟨cs,[]⟩:=by
  intro b x hb;obtain⟨cs,_,h2,h3⟩:=t4 hb;simp only[Nat.sub_zero]at h2
  have hlt:b<css.length:=(List.getElem?_eq_some_iff.1 h2).1
  have hB:Bs[b]? =some Bs[b]:=List.getElem?_eq_getElem (by omega)
  exact⟨_,cs,by omega,hB,hβ _ _ hB,h3,hbget b cs _ h2 hB⟩
 refine{size:=?_,slots:=?_,boxes:=?_,inj:=?_,live:=fun q e h=>(by cases h),bS:=fun q q' e e' B h=>(by cases h),cK:=fun q e b x h=>(by cases h),below:=.refl _ _,fu:=Nat.le_refl _,ej:=hprot,eo:=fun _ _ h=>h,cH:=fun _ _ h=>.inl h,lQ:=fun _ _=>rfl,jt:=fun _ h=>h,kept:=fun _ _ _=>rfl}
 ·simp;omega
 ·intro t v hv
  obtain⟨x,_,hx,hor⟩:=oE hd hv;simp only[Nat.sub_zero]at hx
  have htl:t<vs.length:=(List.getElem?_eq_some_iff.1 hx).1
  have hget:(vs.toArray++Array.replicate (nt-vs.toArray.size) undef)[t]? =some x:=by
   simp[Array.getElem?_append,htl]
   simpa using(List.getElem?_eq_some_iff.1 hx).2
  rcases hor with⟨a,rfl,hda⟩|⟨j,B,hB,⟨rfl,rfl⟩|⟨rfl,rfl⟩⟩
  ·exact⟨⟨x,hget,(oD (U:=fun n=>n<4) hda).1⟩,(oD (β:=id) (τ:=fun _=>undef) hda).2⟩
  ·refine⟨⟨_,hget,?_⟩,?_⟩
   ·show Value.pointer (some ⟨B,0,none⟩)=.pointer (some ⟨(gO.gY w Bs).β (0+j),0,none⟩)
    rw[Nat.zero_add,hβ j B hB]
   ·have:j<Bs.length:=(List.getElem?_eq_some_iff.1 hB).1
    show 0+j<4
    omega
  ·have hj:j<Bs.length:=(List.getElem?_eq_some_iff.1 hB).1
   refine⟨⟨_,hget,?_⟩,fun p hp=>?_⟩
   ·show Value.agg #[.pointer (some ⟨B,0,none⟩)]=.agg #[.pointer (some ⟨(gO.gY w Bs).β (0+j),0,none⟩)]
    rw[Nat.zero_add,hβ j B hB]
   ·simp at hp;subst hp
    show j<4
    omega
 ·intro b x hb
  obtain⟨B,cs,h1,h2,h3,rfl,h5⟩:=hbox b x hb
  exact⟨h1,.inr ⟨h1,by rw[h3];exact List.mem_of_getElem? h2⟩,by rw[h3];exact h5,fun o q hq=>by cases hq⟩
 ·intro b b' x x' hb hb' e
  obtain⟨B,_,_,h2,h3,_,_⟩:=hbox b x hb;obtain⟨B',_,_,h2',h3',_,_⟩:=hbox b' x' hb';rw[h3,h3']at e;subst e;exact wj hnd b b' B h2 h2'
theorem jy{nt:Nat} {n0:gO} {w:World} {π:Nat->Nat->Prop} {s:S} {a:Act} {fn:Func} {tm:Array Value} {R:Ending->World->Prop} {u:FrameMode} (hu:u≠.run) {dd:List Deferred}
  (main:∀w',dJ P nt n0 w π s a w'->LeavesInM Fence.wide 0 P fn tm R dd u w'):
  ∀(Ds:List Nat) (w':World),Ds.Nodup->(∀D∈Ds,n0.n<=D/\w'.heap[D]? =some (.deferred (some [])))->dJ P nt n0 w π s a w'->w.heap.size<=n0.n->LeavesInM Fence.wide 0 P fn tm R (Ds.map HC++dd) u w'
 |[],w',_,_,R',_=>main w' R'
 |D::Ds,w',hnd,hD,R',hn=>by
  obtain⟨h1,h2⟩:=hD D List.mem_cons_self;simp only[List.nodup_cons]at hnd;refine⟨hu,.inl ⟨D,_,rfl,run_takeDeferred h2,?_⟩⟩
  refine jy hu main Ds _ hnd.2 (fun D' hD'=>?_) ((R'.putObj h2 rfl rfl).NX (R'.below.putObj (Nat.le_trans hn h1) h1 _) R'.fu (fun b o hb=>(jT h2 rfl rfl _).trans (R'.kept b o hb))) hn
  obtain⟨g1,g2⟩:=hD D' (List.mem_cons_of_mem _ hD')
  exact⟨g1,(World.putObj_heap_other (fun e=>hnd.1 (by rw[<-e];exact hD'))).trans g2⟩
theorem rq(hm:P.follows .mixedOrders=true) {f:FuncId} {cf:dc} {mo:Bool} (hcf:ji mo P f=some cf) {css css':List (List AV)} {args:List (Option AV)} {p:AV} (hn:args.length<=cf.nt) (hl:css'.length=css.length) (h4:css.length<=4)
  (h:aw (Pure P) cf.code (Ni p css') (oC css args)):HS P f css args p css':=by
 obtain⟨fn,c,cc,hfn,hbody,hrs,hcc,ec,en,hfit,hcall⟩:=qQ hcf;rw[ec]at h;rw[en]at hn
 refine⟨hcall,hl,h4,fun w π Bs vs hprot hnd hbx hd=>?_⟩
 have hbl:=hbx.get.1
 have R:=zw (P:=P) hn h4 hprot hnd hbx hd
 refine callsIn_wide.1 (callsIn_of_wp_marks (n:=0) (F:=Fence.wide) hfn hbody trivial (wpIn_mono (nL (oB hm c cc hcc hfit _ (fun _=>False) ⟨#[],[]⟩ (fun _ h=>h.elim) none 0 w _ _ _ _ ⟨R,fun l h=>by(cases h),⟨[],rfl,.nil,by simp⟩,fun _ h=>h.elim⟩ h)) ?_))
 rintro e a' w' ⟨s,hq,R',_,⟨Ds,hm1,hm2,hm3⟩,_⟩
 cases e with
 |panic ch=>
  obtain⟨rfl,hho⟩:=hq
  show LeavesInM _ _ _ _ _ _ a'.defers _ _
  rw[hm1]
  refine jy (by simp) (fun w' R'=>?_) Ds w' hm2 hm3 R' (Nat.le_refl _)
  obtain⟨_,β,τ,π',U,hU,R'⟩:=R'
  have hB:=R'.C7 hbl h4 hl hho
  exact⟨π',rfl,R'.below,R'.eo,fun b o h=>(R'.cH b o h).imp id (fun k=>k.elim id (fun k=>absurd h (kL hB b k o))),R'.ej,hB⟩
 |_=>exact hq.elim
def Q7(res:List gb) (css:List (List AV)) (j o:Nat):Exit->S->Prop
 | .normal,s| .ret,s=>match res with
  |[.tmp t]=>lk t s.slots=some (.ptr j o)/\gi s.boxes 0 css
  |_=>False
 |_,_=>False
theorem vt(hm:P.follows .mixedOrders=true) {f:FuncId} {cf:dc} {mo:Bool} (hcf:ji mo P f=some cf) {css:List (List AV)} {args:List (Option AV)} {j o:Nat} (hn:args.length<=cf.nt) (h4:css.length<=4) (hj:j<css.length)
  (h:aw (Pure P) cf.code (Q7 cf.res css j o) (oC css args)):HU P f css args j o:=by
 obtain⟨fn,c,cc,hfn,hbody,hrs,hcc,ec,en,hfit,hcall⟩:=qQ hcf;rw[ec]at h;rw[en]at hn
 refine⟨hcall,h4,fun w π Bs vs hprot hnd hbx hd=>?_⟩
 have hbl:=hbx.get.1
 have R:=zw (P:=P) hn h4 hprot hnd hbx hd
 refine callsIn_wide.1 (callsIn_of_wp_marks (n:=0) (F:=Fence.wide) hfn hbody trivial (wpIn_mono (nL (oB hm c cc hcc hfit _ (fun _=>False) ⟨#[],[]⟩ (fun _ h=>h.elim) none 0 w _ _ _ _ ⟨R,fun l h=>by(cases h),⟨[],rfl,.nil,by simp⟩,fun _ h=>h.elim⟩ h)) ?_))
 have main:∀(s:S) (a':Act) (w':World),Q7 cf.res css j o .ret s->dJ P fn.ntmps (gO.gY w Bs) w π s a' w'->
   ∃v,(results fn a'.tmps).run P w'=.ok v w'/\∃B π',Bs[j]? =some B/\Ending.returned v=.returned (.pointer (some ⟨B,o,none⟩))/\sW (gO.gY w Bs) w w'/\(∀b o,π b o->π' b o)/\(∀b o,π' b o->π b o\/w.heap.size<=b)/\
    (∀b o,π' b o->b<w'.heap.size)/\cG w' π' css Bs:=by
  rintro s a' w' hq ⟨_,β,τ,π',U,hU,R'⟩
  simp only[Q7]at hq
  split at hq<;>try(exact hq.elim)
  rename_i t hres;obtain⟨hlk,hho⟩:=hq;obtain⟨⟨y,hy,hry⟩,_⟩:=R'.slots t _ hlk
  have hry:y=.pointer (some ⟨β j,o,none⟩):=hry
  have hB:=R'.C7 hbl h4 rfl hho
  have hjB:Bs[j]? =some Bs[j]:=List.getElem?_eq_getElem (by omega)
  have hβ:β j=Bs[j]:=by
   rw[R'.lQ j (by omega)]
   simp[gO.gY,hjB]
  have hr:fn.results.toList=[.tmp t]:=by
   rw[hres]at hrs
   cases hf:fn.results.toList with
   |nil=>rw[hf]at hrs;simp at hrs
   |cons rv rvs=>
    rw[hf]at hrs;simp only[List.mapM_cons,Option.bind_eq_bind,Option.bind_eq_some_iff,Option.pure_def,Option.some.injEq]at hrs;obtain⟨cr,hcr,crs,hcrs,e⟩:=hrs;cases e
    cases rvs with
    |nil=>
     cases rv with
     |tmp t'=>cases hcr;rfl
     |cell a t'=>simp only[Ap,Option.map_eq_some_iff,reduceCtorEq,and_false,exists_false]at hcr
    |cons x xs=>
     simp only[List.mapM_cons,Option.bind_eq_bind,Option.bind_eq_some_iff,Option.pure_def,Option.some.injEq]at hcrs;obtain⟨_,_,_,_,h⟩:=hcrs;cases h
  refine⟨y,?_,Bs[j],π',hjB,by rw[hry,hβ],R'.below,R'.eo,fun b o h=>(R'.cH b o h).imp id (fun k=>k.elim id (fun k=>absurd h (kL hB b k o))),R'.ej,hB⟩
  have e:fn.results=#[.tmp t]:=Array.toList_inj.1 (by simpa using hr)
  rw[pG,e];simp[mz,hy]
 rintro e a' w' ⟨s,hq,R',_,⟨Ds,hm1,hm2,hm3⟩,_⟩
 have hm1:a'.defers=Ds.map HC:=by simpa using hm1
 cases e with
 |normal=>show LeavesInM _ _ _ _ _ _ a'.defers _ _;rw[hm1];exact fj (main s a' · hq) Ds w' hm2 hm3 R' (Nat.le_refl _)
 |ret=>show LeavesInM _ _ _ _ _ _ a'.defers _ _;rw[hm1];exact fj (main s a' · hq) Ds w' hm2 hm3 R' (Nat.le_refl _)
 |_=>exact hq.elim
theorem Jw(hm:P.follows .mixedOrders=true) {f:FuncId} {cf:dc} {mo:Bool} (hcf:ji mo P f=some cf) {args:List AV} {cs:List AV} (hn:args.length<=cf.nt)
  (h:aw (Pure P) cf.code (Q6 cf.res cs) (oC [] (args.map some))):NS P f args cs:=by
 obtain⟨fn,c,cc,hfn,hbody,hrs,hcc,ec,en,hfit,hcall⟩:=qQ hcf;rw[ec]at h;rw[en]at hn
 refine⟨hcall,fun w π vs hprot hd=>?_⟩
 have R:=zw (P:=P) (nt:=fn.ntmps) (css:=[]) (args:=args.map some) (by simpa using hn) (by simp) hprot List.nodup_nil trivial (pE hd)
 refine callsIn_wide.1 (callsIn_of_wp_marks (n:=0) (F:=Fence.wide) hfn hbody trivial (wpIn_mono (nL (oB hm c cc hcc hfit _ (fun _=>False) ⟨#[],[]⟩ (fun _ h=>h.elim) none 0 w _ _ _ _ ⟨R,fun l h=>by(cases h),⟨[],rfl,.nil,by simp⟩,fun _ h=>h.elim⟩ h)) ?_))
 have main:∀(s:S) (a':Act) (w':World),Q6 cf.res cs .ret s->dJ P fn.ntmps (gO.gY w []) w π s a' w'->
   ∃v,(results fn a'.tmps).run P w'=.ok v w'/\∃B π',Ending.returned v=.returned (.pointer (some ⟨B,0,none⟩))/\w.heap.size<=B/\Below w.heap.size w w'/\(∀b o,π b o->π' b o)/\(∀b o,π' b o->π b o\/w.heap.size<=b)/\
    (∀b o,π' b o->b<w'.heap.size)/\ou (fun _=>undef) w' π' B ⟨cs,[]⟩:=by
  rintro s a' w' hq ⟨_,β,τ,π',U,hU,R'⟩
  simp only[Q6]at hq
  split at hq<;>try(exact hq.elim)
  rename_i t hres
  split at hq<;>try(exact hq.elim)
  rename_i b hlk;obtain⟨h4,hq⟩:=hq;obtain⟨x,hx,hxc⟩:=af hq;obtain⟨⟨y,hy,hry⟩,_⟩:=R'.slots t _ hlk
  have hry:y=.pointer (some ⟨β b,0,none⟩):=hry
  obtain⟨g1,g2,g3,g4⟩:=R'.boxes b x hx
  have hge:w.heap.size<=β b:=by
   rcases g2 with h|h
   ·exact h
   ·omega
  have hr:fn.results.toList=[.tmp t]:=by
   rw[hres]at hrs
   cases hf:fn.results.toList with
   |nil=>rw[hf]at hrs;simp at hrs
   |cons rv rvs=>
    rw[hf]at hrs;simp only[List.mapM_cons,Option.bind_eq_bind,Option.bind_eq_some_iff,Option.pure_def,Option.some.injEq]at hrs;obtain⟨cr,hcr,crs,hcrs,e⟩:=hrs;cases e
    cases rvs with
    |nil=>
     cases rv with
     |tmp t'=>cases hcr;rfl
     |cell a t'=>simp only[Ap,Option.map_eq_some_iff,reduceCtorEq,and_false,exists_false]at hcr
    |cons x xs=>
     simp only[List.mapM_cons,Option.bind_eq_bind,Option.bind_eq_some_iff,Option.pure_def,Option.some.injEq]at hcrs;obtain⟨_,_,_,_,h⟩:=hcrs;cases h
  refine⟨y,?_,β b,π',by rw[hry],hge,R'.below.below (fun _ h=>by cases h),R'.eo,fun b o h=>(R'.cH b o h).imp id (fun k=>k.elim id (fun k=>by cases k)),R'.ej,?_⟩
  ·have e:fn.results=#[.tmp t]:=Array.toList_inj.1 (by simpa using hr)
   rw[pG,e];simp[mz,hy]
  ·have:=g3.tR (τ':=fun _=>undef)
   rwa[hxc]at this
 rintro e a' w' ⟨s,hq,R',_,⟨Ds,hm1,hm2,hm3⟩,_⟩
 have hm1:a'.defers=Ds.map HC:=by simpa using hm1
 cases e with
 |normal=>show LeavesInM _ _ _ _ _ _ a'.defers _ _;rw[hm1];exact fj (main s a' · hq) Ds w' hm2 hm3 R' (Nat.le_refl _)
 |ret=>show LeavesInM _ _ _ _ _ _ a'.defers _ _;rw[hm1];exact fj (main s a' · hq) Ds w' hm2 hm3 R' (Nat.le_refl _)
 |_=>exact hq.elim
end
open Go.RowKit (Below)
def isRec(o:Oper):Option Nat:=
 match o.op,o.dst,o.guard with
 | .call ⟨.builtin .recover,as,_⟩,some d,none=>if as.isEmpty then some d else none
 |_,_,_=>none
def gz:bn->Bool
 | .skip| .Bv _| .aT _| .sV _ _| .xJ _ _ _ _=>true
 | .seq a b| .join a b| .cond _ a b=>gz a&&gz b
 |_=>false
structure G2 where
 nt:Nat
 d:Nat
 ops:List XO
 code:bn
def G3(P:Program) (f:FuncId):Option G2:=
 match P.funcs[f]? with
 |some fn=>match fn.body with
  |some (.seq (.region _ ops false) rest)=>match ops.toList with
   |o::os=>match isRec o,qA P ops os,bP true P rest with
    |some d,some xs,some cc=>if mO fn.ntmps xs&&decide (d<fn.ntmps)&&cc.fits fn.ntmps&&gz cc&&cg P f&&fn.results.isEmpty then some ⟨fn.ntmps,d,xs,cc⟩else none
    |_,_,_=>none
   |[]=>none
  |_=>none
 |none=>none
def G4(css:List (List AV)):Exit->S->Prop
 | .normal,s| .ret,s=>gi s.boxes 0 css
 |_,_=>False
theorem Nj(css:List (List AV)) (s:S):G4 css .normal s=gi s.boxes 0 css:=rfl
theorem Nk(css:List (List AV)) (s:S):G4 css .ret s=gi s.boxes 0 css:=rfl
def Nl(rv:AV):Bool:=match rv with
 | .fJ=>true
 |p=>jo p
def Se(rv:AV):Value:=match rv with
 | .fJ=>.nilIface
 |p=>Oh p
section
variable{P:Program} {nt:Nat} {n0:gO} {π0:Nat->Nat->Prop}
theorem Q8{w:World} {π:Nat->Nat->Prop} {rv:AV} (h:Nl rv=true):DV w π rv (Se rv):=by
 cases rv<;>try(simp[Nl,jo]at h;done)
 ·rename_i t a
  exact .iface t a _ (.flat h)
 ·exact .fJ
theorem Nm{mo:Bool} {x y:Code} {cc:bn} (hc:bP mo P (.seq x y)=some cc):∃cx cy,bP mo P x=some cx/\bP mo P y=some cy/\(cc=.seq cx cy\/cc=.join cx cy):=by
 simp only[bP]at hc
 split at hc<;>try(cases hc;done)
 rename_i cx cy hcx hcy;cases hc;refine⟨cx,cy,hcx,hcy,?_⟩;split
 ·exact .inl rfl
 ·exact .inr rfl
theorem xz{mo:Bool} (hm:P.follows .mixedOrders=true):∀(c:Code) (cc:bn),bP mo P c=some cc->gz cc=true->cc.fits nt=true->∀(n:Nat) (w0:World) (QA:Exit->S->Prop) (s:S) (a:Act) (w:World),
  dJ P nt n0 w0 π0 s a w->aw (Pure P) cc QA s->c.wpIn (FW none) n P (fun e a' w'=>∃s',QA e s'/\dJ P nt n0 w0 π0 s' a' w'/\a'.defers=a.defers) a w:=by
 intro c
 induction c with
 |skip=>intro cc hc _ _ n w0 QA s a w R h;cases hc;exact wpIn_skip ⟨s,h,R,rfl⟩
 |region id ops lg=>
  intro cc hc hpl hf n w0 QA s a w R h;obtain⟨h4,β,τ,π,U,hU,R0⟩:=R
  have put:∀{s':S} {a':Act} {w':World},dJ P nt n0 w π0 s' a' w'->dJ P nt n0 w0 π0 s' a' w':=fun RN=>
   RN.NX (R0.below.trans RN.below) R0.fu (fun b o h=>(RN.kept b o h).trans (R0.kept b o h))
  simp only[bP]at hc;split at hc
  ·rename_i hmo
   simp only[Bool.and_eq_true,Bool.not_eq_true']at hmo;obtain⟨_,rfl⟩:=hmo;simp only[Option.map_eq_some_iff]at hc;obtain⟨cos,hcos,rfl⟩:=hc
   refine th (w0:=w) hcos hf R0.Lx hU h (T:=fun _=>False) (fun d hd ht=>ht) ?_ ?_
   ·intro s' a' w' β' τ' π' U' hU' hK hp R'
    exact⟨_,hK,put ⟨by show 4<=s.nx+_;omega,β',τ',π',U',hU',R'.nx _⟩,hp.1⟩
   ·intro p s' a' w' β' τ' π' U' hU' hK hp R'
    exact⟨_,hK,put ⟨by show 4<=s.nx+_;omega,β',τ',π',U',hU',R'.nx _⟩,hp.1⟩
  split at hc<;>try(cases hc;done)
  rename_i cos hcos
  have fin:∀(ro:List Nat) (s1:S) (π1:Nat->Nat->Prop),Rel P nt n0 w0 π0 U s1 a w β τ π1->s1.nx=s.nx->(lg=true->∃dZ T,jH dZ ops.toList cos=true/\uH T (ny ro 0 cos) dZ=true/\kS T s1.nx 0 (ny ro 0 cos)=true/\nX T s1)->gq nt cos=true->
    jh (Pure P) s1.nx 0 (ny ro 0 cos) (fun s'=>QA .normal {s' with nx:=s.nx+cos.length}) s1->(Code.region id ops lg).wpIn (FW none) n P (fun e a' w'=>∃s',QA e s'/\dJ P nt n0 w0 π0 s' a' w'/\a'.defers=a.defers) a w:=by
   intro ro s1 π1 R1 hnx hd hf h
   refine uR (w0:=w) hm hcos ro hd hf R1.Lx (by rw[hnx];exact hU) h (T:=fun _=>False) (fun d hd ht=>ht) ?_
   intro s' a' w' β' τ' π' U' hU' hK hp R';rw[hnx]at hU'
   exact⟨_,hK,put ⟨by show 4<=s.nx+_;omega,β',τ',π',U',hU',R'.nx _⟩,hp.1⟩
  split at hc
  ·rename_i hdr
   subst hdr
   have Bv:∀dZ,jH dZ ops.toList cos=true->gq nt cos=true->(∃ids,(cY ids&&iz ids)=true/\aj (bh s.boxes ids) fun css=>Gf (Pure P) cos dZ (fun s'=>QA .normal {s' with nx:=s.nx+cos.length}) (gM ids css s))->(Code.region id ops true).wpIn (FW none) n P (fun e a' w'=>∃s',QA e s'/\dJ P nt n0 w0 π0 s' a' w'/\a'.defers=a.defers) a w:=by
    intro dZ hok hf h;obtain⟨ids,hids,h⟩:=h;obtain⟨css,hcss,ro,hdyn,h⟩:=af h;rw[Bool.and_eq_true]at hids
    obtain⟨π1,_,R1,_⟩:=R0.rY (d7 hids.1) hids.2 hcss
    simp only[qw,K2,Bool.and_eq_true]at hdyn
    exact fin ro _ π1 R1 rR (fun _=>⟨_,_,hok,hdyn.2,hdyn.1.2,fun t b ⟨v,hl,hb⟩=>mw hdyn.1.1 t b v hl hb⟩) hf h
   split at hc
   ·split at hc<;>try(cases hc;done)
    rename_i hok;unfold BC at hc
    split at hc<;>try(cases hc;done)
    rename_i k _
    split at hc<;>try(cases hc;done)
    rename_i d hd;simp only at hc
    split at hc<;>try(cases hc;done)
    rename_i hk;cases hc;simp only[Bool.and_eq_true,decide_eq_true_eq]at hk;obtain⟨⟨⟨h1,h2⟩,h3⟩,h5⟩:=hk
    rcases h with h|h
    ·exact Bv _ hok hf h
    ·refine tj (w0:=w) hm hcos h1 h2 h3 (by simpa using h5) hf R0.Lx hU h (T:=fun _=>False) (fun d hd ht=>ht) ?_
     intro p s' a' w' β' τ' π' U' hU' hK hp R'
     exact⟨_,hK,put ⟨by show 4<=s.nx+_;omega,β',τ',π',U',hU',R'.nx _⟩,hp.1⟩
   ·split at hc
    ·split at hc<;>try(cases hc;done)
     rename_i hok;cases hc
     exact fin [] s π R0 rfl (fun _=>⟨[],[],hok,rfl,qJ,fun _ _ _=>rfl⟩) hf (by rw[o3];exact h)
    ·split at hc<;>try(cases hc;done)
     rename_i hok;cases hc;rw[Bool.and_eq_true]at hok;exact Bv _ hok.1 hf h
  ·rename_i hdr
   cases hc
   exact fin [] s π R0 rfl (fun e=>absurd e hdr) hf (by rw[o3];exact h)
 |seq x y ihx ihy=>
  intro cc hc hpl hf n w0 QA s a w R h;obtain⟨cx,cy,hcx,hcy,hor⟩:=Nm hc
  have key:gz cx=true->gz cy=true->cx.fits nt=true->cy.fits nt=true->aw (Pure P) cx (j5 (down (aw (Pure P) cy QA)) QA) s->(Code.seq x y).wpIn (FW none) n P (fun e a' w'=>∃s',QA e s'/\dJ P nt n0 w0 π0 s' a' w'/\a'.defers=a.defers) a w:=by
   intro p1 p2 f1 f2 h;refine wpIn_seq (wpIn_mono (ihx cx hcx p1 f1 n w0 _ s a w R h) ?_)
   rintro e a' w' ⟨s',hq,R',hd⟩
   cases e with
   |normal=>
    obtain⟨s2,hF,R2⟩:=R'.down hq;refine wpIn_mono (ihy cy hcy p2 f2 n w0 QA s2 a' w' R2 hF) ?_
    rintro e a2 w2 ⟨s3,h3,R3,hd3⟩
    exact⟨s3,h3,R3,hd3.trans hd⟩
   |_=>exact⟨s',hq,R',hd⟩
  rcases hor with rfl|rfl
  ·simp only[gz,Bool.and_eq_true]at hpl
   simp only[bn.fits,Bool.and_eq_true]at hf
   exact key hpl.1 hpl.2 hf.1 hf.2 (ij (fun e s ha=>iE (fun s h=>i5 h) (fun _ _ h=>h) ha) h)
  ·simp only[gz,Bool.and_eq_true]at hpl
   simp only[bn.fits,Bool.and_eq_true]at hf;exact key hpl.1 hpl.2 hf.1 hf.2 h
 |cond cd x y ihx ihy=>
  intro cc hc hpl hf n w0 QA s a w R h;simp only[bP]at hc
  split at hc<;>try(cases hc;done)
  rename_i c' cx cy hcc hcx hcy;cases hc;simp only[gz,Bool.and_eq_true]at hpl;simp only[bn.fits,Bool.and_eq_true]at hf;simp only[aw]at h;obtain⟨v,hv,h⟩:=af h;obtain⟨_,β,τ,π,U,hU,R0⟩:=id R
  have hd:=R0.aQ hcc hv
  cases v<;>try(exact h.elim)
  rename_i t
  exact wpIn_cond_split hd.qB (fun e=>ihx cx hcx hpl.1 hf.1 n w0 QA s a w R (h.1 e)) (fun e=>ihy cy hcy hpl.2 hf.2 n w0 QA s a w R (h.2 e))
 |block id c ih=>intro cc hc hpl;simp only[bP,Option.map_eq_some_iff]at hc;obtain⟨c',hc',rfl⟩:=hc;simp[gz]at hpl
 |loop c ih=>intro cc hc hpl;simp only[bP,Option.map_eq_some_iff]at hc;obtain⟨c',hc',rfl⟩:=hc;simp[gz]at hpl
 |exit id=>intro cc hc hpl;cases hc;simp[gz]at hpl
 |ret=>intro cc hc hpl;cases hc;simp[gz]at hpl
 |label l=>intro cc hc hpl;cases hc;simp[gz]at hpl
 |goto l=>intro cc hc hpl;cases hc;simp[gz]at hpl
 |scope c ih=>
  intro cc hc hpl;simp only[bP]at hc
  split at hc<;>try(cases hc;done)
  split at hc<;>try(cases hc;done)
  simp only[Option.map_eq_some_iff]at hc;obtain⟨r,_,rfl⟩:=hc;simp[gz]at hpl
 |rangeFunc g ps as bd ihA ihB=>
  intro cc hc hpl;simp only[bP]at hc
  split at hc<;>try(cases hc;done)
  split at hc<;>try(cases hc;done)
  cases hc;simp[gz]at hpl
 |_=>intro cc hc;cases hc
theorem wq{F:Fence} {n id:Nat} {ops:Array Oper} {o:Oper} {d:Nat} {Q:Exit->Act->List Frame->World->Prop} {a:Act} {cs cs':List Frame} {w:World} {v:Value} (hF:∀f,F.fn f) (hro0:F.round=none)
  (h0:ops[0]? =some o) (hrec:isRec o=some d) (hv:recoverD cs=some (v,cs')\/(recoverD cs=none/\v=.nilIface/\cs'=cs))
  (h:wpOpsIn F n P ops (fun e a' w'=>Q e a' cs' w') (List.range' 1 (ops.size-1)) (a.put (some d) v) w):(Code.region id ops false).wpSIn F n P Q a cs w:=by
 intro b k hb hr hFb hroom;unfold isRec at hrec
 split at hrec<;>try(cases hrec;done)
 rename_i as tys d' hop hdst hguard
 split at hrec<;>try(cases hrec;done)
 rename_i has;cases hrec
 have has:as=#[]:=by simpa[Array.isEmpty_iff]using has
 subst has
 have hw:Region.wanted o (yielded ops a.tmps)=true:=by simp[Region.wanted,hguard]
 have hrun:(execOp a.eval o).run P w=.ok .recover w:=by
  simp[execOp,hop,resolve,invoke,go_sem]
 have hsz:0<ops.size:=(Array.getElem?_eq_some_iff.1 h0).1
 have hrange:List.range ops.size=0::List.range' 1 (ops.size-1):=by
  obtain⟨m,hm⟩:∃m,ops.size=m+1:=⟨ops.size-1,by omega⟩
  rw[hm,List.range_eq_range',List.range'_succ,Nat.add_sub_cancel]
 have hlen:cs'.length=cs.length:=by
  rcases hv with hv|⟨_,_,rfl⟩
  ·exact recoverD_length hv
  ·rfl
 obtain⟨e,a',w',hq,harr⟩:=wp_opsIn (P:=P) (F:=F) (n:=n) (ops:=ops) (List.range' 1 (ops.size-1)) _ w h b k cs' (hr.trans hro0.symm) hFb (hlen▸hroom)
 have h1:(lone (b.atR a (.inRegion ops (0::List.range' 1 (ops.size-1))::k)) cs w).fenced P F:=fenced_oper hFb hroom h0 (fun f _=>hF f)
 have hg:=stepGR_op (P:=P) (b:=b) (k:=k) (cs:=cs) (w:=w) (rest:=List.range' 1 (ops.size-1)) h0 hw
 rw[hr,Oper.semAt_none]at hg
 have hfin:∀v,(b.atR a (.inRegion ops (0::List.range' 1 (ops.size-1))::k)).finish v=b.atR (a.put (some d) v) (.inRegion ops (List.range' 1 (ops.size-1))::k):=by
  intro v;rw[Frame.finish_atR,h0];simp only[Option.bind_some,hdst]
 have hk:(b.atR a (.inRegion ops (0::List.range' 1 (ops.size-1))::k)).kind=.deferred:=hb
 have htr:=tryRecover_deferred hk cs
 have hstep:StepsIn (Machine.fenced P F) P (lone (b.atR a (.inRegion ops (0::List.range' 1 (ops.size-1))::k)) cs w) (lone (b.atR (a.put (some d) v) (.inRegion ops (List.range' 1 (ops.size-1))::k)) cs' w):=by
  refine .one h1 (step_lone_go ?_);rw[hg,<-hfin];simp only[Frame.atR,hr]at htr⊢
  rcases hv with hv|⟨hv,rfl,rfl⟩
  ·simp[stepG.apply,hrun,htr,hv]
  ·simp[stepG.apply,hrun,htr,hv]
 rw[<-hrange]at hstep;exact⟨e,a',cs',w',hlen,hq,.of_steps (.head (fenced_calm hFb hroom rfl) stepR_region hstep) harr⟩
theorem G5{f:FuncId} {cf:G2} (hcf:G3 P f=some cf):∃(fn:Func) (id:Nat) (ops:Array Oper) (rest:Code) (o:Oper) (os:List Oper),P.funcs[f]? =some fn/\fn.body=some (.seq (.region id ops false) rest)/\ops.toList=o::os/\isRec o=some cf.d/\qA P ops os=some cf.ops/\
  bP true P rest=some cf.code/\mO fn.ntmps cf.ops=true/\cf.d<fn.ntmps/\cf.code.fits fn.ntmps=true/\gz cf.code=true/\cg P f=true/\fn.results=#[]/\cf.nt=fn.ntmps:=by
 unfold G3 at hcf
 split at hcf<;>try(cases hcf;done)
 rename_i fn hfn
 split at hcf<;>try(cases hcf;done)
 rename_i id ops rest hbody
 split at hcf<;>try(cases hcf;done)
 rename_i o os hops
 split at hcf<;>try(cases hcf;done)
 rename_i d xs cc h1 h2 h3
 split at hcf<;>try(cases hcf;done)
 rename_i hok;cases hcf;simp only[Bool.and_eq_true,decide_eq_true_eq]at hok;obtain⟨⟨⟨⟨⟨k1,k2⟩,k3⟩,k4⟩,k5⟩,k6⟩:=hok
 exact⟨fn,id,ops,rest,o,os,hfn,hbody,hops,h1,h2,h3,k1,k2,k3,k4,k5,by simpa[Array.isEmpty_iff]using k6,rfl⟩
theorem oM(hm:P.follows .mixedOrders=true) {f:FuncId} {cf:G2} (hcf:G3 P f=some cf) {rv:AV} {css css':List (List AV)} {args:List (Option AV)} (hrv:Nl rv=true) (hn:args.length<=cf.nt) (hl:css'.length=css.length) (h4:css.length<=4)
  (h:eU (Pure P) 4 1 cf.ops (Ar (aw (Pure P) cf.code (G4 css')) (5+cf.ops.length)) (fun _ _=>False) ((oC css args).put (some cf.d) (.dat rv none))):HT P f rv css args css':=by
 obtain⟨fn,ri,ops,rest,o,os,hfn,hbody,hops,hrec,hxs,hcc,hfit,hd,hfits,hpl,hcall,hres,hnt⟩:=G5 hcf;rw[hnt]at hn
 refine⟨hcall,hl,h4,fun w π Bs vs hprot hnd hbx harg=>?_⟩
 have hbl:=hbx.get.1
 obtain⟨hxl,hxs⟩:=qM hxs
 have hosz:ops.size=os.length+1:=by rw[<-Array.length_toList,hops];rfl
 have h0:ops[0]? =some o:=by rw[<-Array.getElem?_toList,hops];rfl
 refine callsDIn_of_wpSIn hfn hbody trivial fun c₀ cs hmode=>?_
 -- what is recovered
 obtain⟨u',hv,hset⟩:∃u',(recoverD (c₀::cs)=some (Se rv,{c₀ with mode:=u'}::cs)\/(recoverD (c₀::cs)=none/\Se rv=.nilIface/\{c₀ with mode:=u'}::cs=c₀::cs))/\settle u'=.returning:=by
  cases rv<;>try(simp[Nl,jo]at hrv;done)
  ·rename_i t a
   refine⟨.panicking [{v:=Oh (.iface t a),recovered:=true}],.inl ?_,rfl⟩
   simp only[yx,d8]at hmode;simp[recoverD,hmode,Se]
  ·refine⟨.returning,.inr ⟨?_,rfl,?_⟩,rfl⟩
   ·simp only[yx]at hmode;simp[recoverD,hmode]
   ·simp only[yx]at hmode
    have:({c₀ with mode:=.returning}:Frame)=c₀:=by rw[<-hmode]
    rw[this]
 refine wpSIn_seq ?_
 refine wq (fun _=>trivial) rfl h0 hrec hv ?_
 obtain⟨_,β,τ,π',U,hU,R⟩:=zw (P:=P) (nt:=fn.ntmps) hn h4 hprot hnd hbx harg
 have R1:=R.put (some cf.d) (v:=.dat rv none) (x:=Se rv) (fun t ht=>by cases ht;exact hd) ⟨Q8 hrv,fun t ht=>by cases ht⟩ trivial
 have hpos:(os.length+1)-1=cf.ops.length:=by omega
 have post:∀(s:S) (a':Act) (w':World),G4 css' .ret s->dJ P fn.ntmps (gO.gY w Bs) w π s a' w'->a'.defers=[]->
   bodyPostS P fn c₀ cs (fun e u' w'=>∃v π',e=.returned v/\settle u'=.returning/\sW (gO.gY w Bs) w w'/\(∀b o,π b o->π' b o)/\(∀b o,π' b o->π b o\/w.heap.size<=b)/\(∀b o,π' b o->b<w'.heap.size)/\cG w' π' css' Bs) .ret a' ({c₀ with mode:=u'}::cs) w':=by
  rintro s a' w' hho ⟨_,β,τ,π',U,hU,R'⟩ hdf
  have hB:=R'.C7 hbl h4 hl hho
  refine⟨hdf,u',rfl,.tuple #[],?_,.tuple #[],π',rfl,hset,R'.below,R'.eo,fun b o h=>(R'.cH b o h).imp id (fun k=>k.elim id (fun k=>absurd h (kL hB b k o))),R'.ej,hB⟩
  rw[pG,hres];simp
 have hcosl:((⟨some cf.d,.o (.mv (.k .fJ)),none⟩:XO)::cf.ops).length=ops.size:=by simp[hosz];omega
 rw[hosz,hpos]
 have:=qN (P:=P) (r:=none) (m:=0) (base:=4) (T:=fun _=>False) (a0:={tmps:=vs.toArray++Array.replicate (fn.ntmps-vs.toArray.size) undef,defers:=[]}) 1 hcosl
  (fun i o' c hi h1 h2=>?_) (fun i c d hi hdd=>?_) (fun _ _ _ _ _ h=>h) (K:=Ar (aw (Pure P) cf.code (G4 css')) (5+cf.ops.length)) (X:=fun _ _=>False)
  (Q:=fun e a' w'=>Exit.thenS (rest.wpSIn Fence.wide 0 P (bodyPostS P fn c₀ cs (fun e u' w'=>∃v π',e=.returned v/\settle u'=.returning/\sW (gO.gY w Bs) w w'/\(∀b o,π b o->π' b o)/\(∀b o,π' b o->π b o\/w.heap.size<=b)/\(∀b o,π' b o->b<w'.heap.size)/\cG w' π' css' Bs)))
    (bodyPostS P fn c₀ cs (fun e u' w'=>∃v π',e=.returned v/\settle u'=.returning/\sW (gO.gY w Bs) w w'/\(∀b o,π b o->π' b o)/\(∀b o,π' b o->π b o\/w.heap.size<=b)/\(∀b o,π' b o->b<w'.heap.size)/\cG w' π' css' Bs)) e a' ({c₀ with mode:=u'}::cs) w')
  (fun s' a' w' β' τ' π' U' hU' hK hp R'=>?_) (fun _ _ _ _ _ _ _ _ _ h=>h.elim) cf.ops 1 _ (({tmps:=vs.toArray++Array.replicate (fn.ntmps-vs.toArray.size) undef,defers:=[]}:Act).put (some cf.d) (Se rv)) w β τ π' U (Nat.le_refl _) rfl (by omega) (fun n hn=>by have:=hU n hn;simp only[oC]at this;omega)
  (by exact(oA.refl _ _).put (fun _ _ h=>h) _) R1 h
 ·exact this
 ·cases i with
  |zero=>omega
  |succ i=>
   refine hxs i o' c ?_ (by simpa using h2)
   rw[<-Array.getElem?_toList,hops]at h1
   simpa using h1
 ·cases i with
  |zero=>simp at hi;subst hi;cases hdd;exact hd
  |succ i=>exact nY hfit i c d (by simpa using hi) hdd
 ·refine wpSIn_of_wpIn rfl ?_
  have RN:dJ P fn.ntmps (gO.gY w Bs) w π {s' with nx:=5+cf.ops.length} a' w':=⟨by show 4<=5+_;omega,β',τ',π',U',fun n hn=>by have:=hU' n hn;show n<5+_;omega,R'.nx _⟩
  refine wpIn_mono (nL (xz hm rest cf.code hcc hpl hfits 0 w (G4 css') _ a' w' RN hK)) ?_
  rintro e a2 w2 ⟨s2,hq,R2,hd2⟩
  have hd2:a2.defers=[]:=hd2.trans hp.1
  cases e with
  |normal=>exact post s2 a2 w2 hq R2 hd2
  |ret=>exact post s2 a2 w2 hq R2 hd2
  |_=>exact hq.elim
end
open Go.RowKit (Below)
def Jy:List Oper->Option (Nat×Array Operand×Nat)
 |[m,d]=>match m.op,m.dst,m.guard,d.op,d.dst,d.guard with
  | .makeFunc (.func g) first caps,some t,none,.defer ⟨.value (.tmp t'),as,_⟩,none,none=>if first.isEmpty&&as.isEmpty&&t==t' then some (g,caps,t)else none
  |_,_,_,_,_,_=>none
 |_=>none
structure zx where
 nt:Nat
 res:List gb
 pre:bn
 g:Nat
 caps:List bE
 t:Nat
 code:bn
def G6(P:Program) (f:FuncId):Option zx:=
 match P.funcs[f]? with
 |some fn=>match fn.body with
  |some (.seq a (.seq (.region _ ops false) rest))=>match Jy ops.toList with
   |some (g,caps,t)=>match bP true P a,ga caps,bP true P rest,fn.results.toList.mapM (Ap P)with
    |some ca,some xs,some cc,some rs=>if ca.fits fn.ntmps&&gz ca&&decide (t<fn.ntmps)&&cc.fits fn.ntmps&& !cc.writes.contains t&&cg P f&&cg P g then some ⟨fn.ntmps,rs,ca,g,xs,t,cc⟩else none
    |_,_,_,_=>none
   |none=>none
  |_=>none
 |none=>none
def EK(C:bw) (res:List gb) (r:AV) (fr:Option Nat) (css:List (List AV)) (t g:Nat) (as:List (Option AV)) (bs:List Nat) (rv:AV) (s:S):Prop:=
 lk t s.slots=some (.nD g as bs)/\cY bs=true/\aj (bh s.boxes bs) fun cs=>∃cs',C.d g rv cs as cs'/\BO res r fr css .ret {s with boxes:=dz bs cs' s.boxes}
def EL(C:bw) (res:List gb) (r:AV) (fr:Option Nat) (css:List (List AV)) (t g:Nat) (as:List (Option AV)) (bs:List Nat):Exit->S->Prop
 | .normal,s| .ret,s=>EK C res r fr css t g as bs .fJ s
 | .panic c,s=>∃p,c=d8 p/\jo p=true/\EK C res r fr css t g as bs p s
 |_,_=>False
theorem Q9(C:bw) (res:List gb) (r:AV) (fr:Option Nat) (css:List (List AV)) (t g:Nat) (as:List (Option AV)) (bs:List Nat) (s:S):EL C res r fr css t g as bs .normal s=EK C res r fr css t g as bs .fJ s:=rfl
theorem Ra(C:bw) (res:List gb) (r:AV) (fr:Option Nat) (css:List (List AV)) (t g:Nat) (as:List (Option AV)) (bs:List Nat) (s:S):EL C res r fr css t g as bs .ret s=EK C res r fr css t g as bs .fJ s:=rfl
theorem gA{C:bw} {res:List gb} {r:AV} {fr:Option Nat} {css:List (List AV)} {t g:Nat} {as:List (Option AV)} {bs:List Nat} {s:S} {p:AV} (hp:jo p=true) (h:EK C res r fr css t g as bs p s):EL C res r fr css t g as bs (.panic (d8 p)) s:=⟨p,rfl,hp,h⟩
def Wj(C:bw) (cf:zx) (r:AV) (fr:Option Nat) (css:List (List AV)) (s:S):Prop:=
 aw C cf.pre (uI fun s1=>aj (dB false s1 cf.caps) fun p=>aw C cf.code (EL C cf.res r fr css cf.t cf.g p.1 p.2) {(s1.put (some cf.t) (.nD cf.g p.1 p.2))with nx:=s1.nx+2}) s
def dK(C:bw) (res:List gb) (r:AV) (fr:Option Nat) (css:List (List AV)) (g:Nat) (caps:List bE) (t:Nat) (code:bn):S->Prop:=fun s1=>aj (dB false s1 caps) fun p=>aw C code (EL C res r fr css t g p.1 p.2) {(s1.put (some t) (.nD g p.1 p.2))with nx:=s1.nx+2}
def Wk(C:bw) (res:List gb) (r:AV) (fr:Option Nat) (css:List (List AV)) (g:Nat) (t:Nat) (code:bn) (s:S) (p:List (Option AV)×List Nat):Prop:=aw C code (EL C res r fr css t g p.1 p.2) {(s.put (some t) (.nD g p.1 p.2))with nx:=s.nx+2}
theorem Vl{C:bw} (nt:Nat) (res:List gb) (pre:bn) (g:Nat) (caps:List bE) (t:Nat) (code:bn) (r:AV) (fr:Option Nat) (css:List (List AV)) (s:S):Wj C ⟨nt,res,pre,g,caps,t,code⟩ r fr css s=aw C pre (uI (dK C res r fr css g caps t code)) s:=rfl
theorem Xg{C:bw} (res:List gb) (r:AV) (fr:Option Nat) (css:List (List AV)) (g:Nat) (caps:List bE) (t:Nat) (code:bn) (sl:List (Nat×SV)) (bx:List (Nat×bY)) (lv:List (Nat×Nat)) (nx:Nat):
  dK C res r fr css g caps t code ⟨sl,bx,lv,nx⟩=aj (dB false ⟨sl,bx,lv,nx⟩ caps) (Wk C res r fr css g t code ⟨sl,bx,lv,nx⟩):=rfl
theorem Vm{C:bw} (res:List gb) (r:AV) (fr:Option Nat) (css:List (List AV)) (g:Nat) (t:Nat) (code:bn) (sl:List (Nat×SV)) (bx:List (Nat×bY)) (lv:List (Nat×Nat)) (nx:Nat) (as:List (Option AV)) (bs:List Nat):
  Wk C res r fr css g t code ⟨sl,bx,lv,nx⟩ (as,bs)=aw C code (EL C res r fr css t g as bs) ⟨(t,.nD g as bs)::sl,bx,lv,nx+2⟩:=rfl
@[congr] theorem Yf {C:bw} (res:List gb) (r:AV) (fr:Option Nat) (css:List (List AV)) (g:Nat) (caps:List bE) (t:Nat) (code:bn) (s:S):dK C res r fr css g caps t code s=dK C res r fr css g caps t code s:=rfl
@[congr] theorem XL {C:bw} (res:List gb) (r:AV) (fr:Option Nat) (css:List (List AV)) (g:Nat) (t:Nat) (code:bn) (s:S) {p p':List (Option AV)×List Nat} (h:p=p'):Wk C res r fr css g t code s p=Wk C res r fr css g t code s p':=by rw[h]
theorem iJ{C:bw} {cf:zx} {keep:List Nat} {r:AV} {fr:Option Nat} {css:List (List AV)} {s:S} (h:Wj C {cf with code:=(flat keep 0 cf.code).1} r fr css s):Wj C cf r fr css s:=by
 refine ij ?_ h;intro e s ha
 cases e<;>try exact ha
 obtain⟨p,hp,ha⟩:=af ha
 show aj _ _
 rw[hp]
 exact ax (keep:=keep) (i:=0) ha
theorem Nn(nt:Nat) (res:List gb) (pre:bn) (g:Nat) (caps:List bE) (t:Nat) (code:bn) (keep:List Nat):({(⟨nt,res,pre,g,caps,t,code⟩:zx)with code:=(flat keep 0 (⟨nt,res,pre,g,caps,t,code⟩:zx).code).1}:zx)=⟨nt,res,pre,g,caps,t,(flat keep 0 code).1⟩:=rfl
theorem ir{C:bw} {res:List gb} {r:AV} {fr:Option Nat} {css:List (List AV)} {t g:Nat} {as:List (Option AV)} {bs:List Nat} {rv:AV} {sl:List (Nat×SV)} {bx:List (Nat×bY)} {lv:List (Nat×Nat)} {nx:Nat} {cs cs':List (List AV)}
  (hd:C.d g rv cs as cs') (hl:lk t sl=some (.nD g as bs)) (hn:cY bs=true) (hc:bh bx bs=some cs) (hf:BO res r fr css .ret ⟨sl,dz bs cs' bx,lv,nx⟩):EK C res r fr css t g as bs rv ⟨sl,bx,lv,nx⟩:=
 ⟨hl,hn,by show aj (bh bx bs) _;rw[hc];exact⟨cs',hd,hf⟩⟩
section
variable{P:Program}
theorem G7{f:FuncId} {cf:zx} (hcf:G6 P f=some cf):∃(fn:Func) (ri:Nat) (ops:Array Oper) (a rest:Code) (caps:Array Operand),P.funcs[f]? =some fn/\fn.body=some (.seq a (.seq (.region ri ops false) rest))/\Jy ops.toList=some (cf.g,caps,cf.t)/\
  bP true P a=some cf.pre/\ga caps=some cf.caps/\bP true P rest=some cf.code/\fn.results.toList.mapM (Ap P)=some cf.res/\cf.pre.fits fn.ntmps=true/\gz cf.pre=true/\cf.t<fn.ntmps/\cf.code.fits fn.ntmps=true/\¬cf.t∈cf.code.writes/\cg P f=true/\cg P cf.g=true/\cf.nt=fn.ntmps:=by
 unfold G6 at hcf
 split at hcf<;>try(cases hcf;done)
 rename_i fn hfn
 split at hcf<;>try(cases hcf;done)
 rename_i a ri ops rest hbody
 split at hcf<;>try(cases hcf;done)
 rename_i g caps t hdef
 split at hcf<;>try(cases hcf;done)
 rename_i ca xs cc rs h1 h2 h3 h4
 split at hcf<;>try(cases hcf;done)
 rename_i hok;cases hcf;simp only[Bool.and_eq_true,decide_eq_true_eq,Bool.not_eq_true']at hok;obtain⟨⟨⟨⟨⟨⟨k1,k2⟩,k3⟩,k4⟩,k5⟩,k6⟩,k7⟩:=hok
 exact⟨fn,ri,ops,a,rest,caps,hfn,hbody,hdef,h1,h2,h3,h4,k1,k2,k3,k4,by simpa using k5,k6,k7,rfl⟩
theorem iK(hm:P.follows .mixedOrders=true) {f:FuncId} {cf:zx} (hcf:G6 P f=some cf) {css css':List (List AV)} {args:List (Option AV)} {r:AV} {fr:Option Nat} (hn:args.length<=cf.nt) (hl:css'.length=css.length) (h4:css.length<=4)
  (h:Wj (Pure P) cf r fr css' (oC css args)):yw P f css args r fr css':=by
 obtain⟨fn,ri,ops,a,rest,caps,hfn,hbody,hdef,hca,hcaps,hcc,hrs,hfita,hpl,ht,hfit,hwr,hcall,hcg,hnt⟩:=G7 hcf;rw[hnt]at hn
 refine⟨hcall,hl,h4,fun w π Bs vs hprot hnd hbx hd=>?_⟩
 have hbl:=hbx.get.1
 have R:=zw (P:=P) (nt:=fn.ntmps) hn h4 hprot hnd hbx hd
 refine callsIn_wide.1 (callsIn_of_wp_marks (n:=0) (F:=Fence.wide) hfn hbody trivial (wpIn_seq (wpIn_mono (nL (xz hm a cf.pre hca hpl hfita 0 w _ _ _ _ R h)) ?_)))
 rintro e a1 w1 ⟨s1,hq,R1,hdf⟩
 have hdf:a1.defers=[]:=hdf
 cases e<;>try exact hq.elim
 obtain⟨p,hp,h⟩:=af hq;clear hq;obtain⟨hx4,β,τ,π1,U,hU,R1⟩:=R1
 -- the closure is made and deferred
 obtain⟨as,bs⟩:=p
 have hsv:=(R1.dB (by simpa[ga]using hcaps) hp).1
 obtain⟨o0,o1,hops,ho0,hd0,hg0,hty,ho1,hd1,hg1⟩:∃o0 o1,ops=#[o0,o1]/\o0.op=.makeFunc (.func cf.g) #[] caps/\o0.dst=some cf.t/\o0.guard=none/\∃tys,o1.op=.defer ⟨.value (.tmp cf.t),#[],tys⟩/\o1.dst=none/\o1.guard=none:=by
  unfold Jy at hdef
  split at hdef<;>try(cases hdef;done)
  rename_i o0 o1 hops
  split at hdef<;>try(cases hdef;done)
  rename_i g' first caps' t t' as' tys m1 m2 m3 m4 m5 m6
  split at hdef<;>try(cases hdef;done)
  rename_i hok;simp only[Bool.and_eq_true,beq_iff_eq]at hok;simp only[Option.some.injEq,Prod.mk.injEq]at hdef;obtain⟨e1,e2,e3⟩:=hdef
  have f1:first=#[]:=by simpa[Array.isEmpty_iff]using hok.1.1
  have f2:as'=#[]:=by simpa[Array.isEmpty_iff]using hok.1.2
  subst e1 e2 f1 f2;rw[<-hok.2,e3]at m4;rw[e3]at m2
  exact⟨o0,o1,Array.toList_inj.1 (by simpa using hops),m1,m2,m3,tys,m4,m5,m6⟩
 subst hops
 obtain⟨us,hus⟩:∃us,us=caps.map a1.eval:=⟨_,rfl⟩
 have hr0:(execOp a1.eval o0).run P w1=.ok (.value (.func (.func cf.g) #[] us)) w1:=by simp[execOp,ho0,Instr.makeFunc,hus]
 have R2:=R1.put (some cf.t) (v:=.nD cf.g as bs) (x:=.func (.func cf.g) #[] us) (fun t' ht'=>by cases ht';exact ht) ⟨us,rfl,by rw[hus];simpa using hsv⟩ (fun b hb=>by
  obtain⟨t',_,v',hl',hv'⟩:=iC hp b hb
  exact SV.yF hv' (R1.slots t' _ hl').2)
 have hread:(a1.put (some cf.t) (.func (.func cf.g) #[] us)).tmps[cf.t]? =some (.func (.func cf.g) #[] us):=by
  simp only[Act.put]
  rw[Array.getElem?_setIfInBounds_self_of_lt (by rw[R1.size];exact ht)]
 obtain⟨d,hdd⟩:∃d:Deferred,d={target:=.fn (.func cf.g) us,args:=#[]}:=⟨_,rfl⟩
 have hr1:(execOp (a1.put (some cf.t) (.func (.func cf.g) #[] us)).eval o1).run P w1=.ok (.defer d) w1:=by
  have:(a1.put (some cf.t) (.func (.func cf.g) #[] us)).eval (.tmp cf.t)=.func (.func cf.g) #[] us:=by simp[Act.eval,hread]
  simp only[execOp,ho1,resolve,this,Deferred.ofValue,hdd];simp
 refine wpIn_seq (wpIn_region ?_)
 have w0:Region.wanted o0 (yielded #[o0,o1] a1.tmps)=true:=by simp[Region.wanted,hg0]
 show wpOpsIn _ _ _ _ _ [0,1] _ _
 rw[wpOpsIn_cons];unfold wpOpIn;simp only[List.getElem?_toArray,List.getElem?_cons_zero,w0,if_true]
 refine⟨fun _ _=>trivial,?_⟩
 rw[show Fence.wide.round=none from rfl,Oper.semAt_none,hr0,Oper.uponIn_value,hd0,wpOpsIn_cons]
 unfold wpOpIn
 have w1':Region.wanted o1 (yielded #[o0,o1] (a1.put (some cf.t) (.func (.func cf.g) #[] us)).tmps)=true:=by simp[Region.wanted,hg1]
 simp only[List.getElem?_toArray,List.getElem?_cons_succ,List.getElem?_cons_zero,w1',if_true]
 refine⟨fun _ _=>trivial,?_⟩
 rw[show Fence.wide.round=none from rfl,Oper.semAt_none,hr1,Oper.uponIn_defer,hd1]
 obtain⟨a2,ha2⟩:∃a2:Act,a2={a1.put (some cf.t) (.func (.func cf.g) #[] us)with defers:=[d]}:=⟨_,rfl⟩
 have ha2':({a1.put (some cf.t) (.func (.func cf.g) #[] us)with defers:=d::(a1.put (some cf.t) (.func (.func cf.g) #[] us)).defers}:Act).put none undef=a2:=by
  rw[ha2];show({a1.put (some cf.t) _ with defers:=d::(a1.put (some cf.t) _).defers}:Act)=_
  have:(a1.put (some cf.t) (.func (.func cf.g) #[] us)).defers=[]:=hdf
  rw[this]
 rw[ha2']
 show rest.wpIn _ _ _ _ a2 w1
 have hread2:a2.tmps[cf.t]? =some (.func (.func cf.g) #[] us):=by rw[ha2];exact hread
 have RN2:dJ P fn.ntmps (gO.gY w Bs) w π {(s1.put (some cf.t) (.nD cf.g as bs))with nx:=s1.nx+2} a2 w1:=by
  refine dJ.Ly (a:=a1.put (some cf.t) (.func (.func cf.g) #[] us)) ⟨by show 4<=s1.nx+2;omega,β,τ,π1,U,fun n hn=>by have:=hU n hn;show n<s1.nx+2;omega,R2.nx _⟩ (by rw[ha2])
 refine wpIn_mono (nL (oB hm rest cf.code hcc hfit _ (fun t=>t=cf.t) a2 (fun t ht'=>by subst ht';exact hwr) none 0 w _ _ _ _ ⟨RN2,fun l h=>by(cases h),⟨[],by rw[ha2];simp,.nil,by simp⟩,fun _ _=>rfl⟩ h)) ?_
 rintro e a' w' ⟨s,hq,R',_,⟨Ds,hm1,hm2,hm3⟩,hk⟩
 have hk:a'.tmps[cf.t]? =some (.func (.func cf.g) #[] us):=(hk cf.t rfl).trans hread2
 have hm1:a'.defers=Ds.map HC++[d]:=by rw[hm1,ha2]
 -- the closure runs
 have last:∀(rv:AV) (u:FrameMode),u≠.run->yx rv=u->EK (Pure P) cf.res r fr css' cf.t cf.g as bs rv s->∀w',dJ P fn.ntmps (gO.gY w Bs) w π s a' w'->
   LeavesInM Fence.wide 0 P fn a'.tmps (fun e w'=>∃v π',e=.returned v/\sW (gO.gY w Bs) w w'/\(∀b o,π b o->π' b o)/\(∀b o,π' b o->π b o\/w.heap.size<=b)/\
    (∀b o,π' b o->b<w'.heap.size)/\cG w' π' css' Bs/\DV w' π' r v/\∀t,fr=some t->AB P w' π' (fun B=>w.heap.size<=B) t v) [d] u w':=by
  rintro rv u hu hmode ⟨hlk,hnb,hq⟩ w' ⟨hx,β',τ',π',U',hU',R'⟩
  obtain⟨cs,hcs,cs',hD,hfin⟩:=af hq
  have hD:HT P cf.g rv cs as cs':=hD
  obtain⟨_,hl1,_,hD⟩:=hD;obtain⟨⟨x,hx',us',hxe,hcap⟩,_⟩:=R'.slots cf.t _ hlk;rw[hk]at hx';cases hx';cases hxe
  have hnb':=d7 hnb
  refine⟨hu,.inr ⟨fun h=>by simp[Fence.wide]at h,.func cf.g,us,cf.g,us,by rw[hdd],?_,fun _ _=>trivial,?_⟩⟩
  ·rw[hdd];simp[invoke,fh hcg]
  refine CallsDIn.mono (by have:=hD w' π' (bs.map β') us.toList R'.ej (R'.nodup hnb' hcs) (R'.nK hcs) hcap;rw[hmode]at this;exact this) ?_
  rintro e u' w3 ⟨v,π3,rfl,hset,hbel,hp1,hp2,hp3,hbx3⟩
  obtain⟨τ3,_,R3⟩:=R'.rX (id:=s.nx) (fr:=none) (fun hc=>by have:=hU' _ hc;omega) hnb' hcs hl1 hbel hp1 hp2 hp3 hbx3 DV.fJ (fun t ht=>by cases ht)
  show LeavesInM _ _ _ _ _ _ [] (settle u') w3
  rw[hset]
  show LeavesIn _ _ _ _ _ _ [] .returning w3
  obtain⟨⟨av,q⟩,hpq,hav,hfr,hho⟩:=af hfin;simp only at hav hfr hho;subst hav;obtain⟨v',hv',hdv,htq⟩:=tZ R3 hrs hpq
  have hB:=R3.C7 hbl h4 hl hho
  refine⟨v',hv',v',π3,rfl,R3.below,R3.eo,fun b o h=>(R3.cH b o h).imp id (fun k=>k.elim id (fun k=>absurd h (kL hB b k o))),R3.ej,hB,hdv,fun t ht=>?_⟩
  subst ht;simp only[D8]at hfr
  cases q with
  |none=>exact hfr.elim
  |some q=>
   rw[htq q rfl];exact R3.yY hbl h4 hl hho hfr
 cases e with
 |normal=>show LeavesInM _ _ _ _ _ _ a'.defers _ _;rw[hm1];exact jy (by simp) (last .fJ .returning (by simp) rfl hq) Ds w' hm2 hm3 R' (Nat.le_refl _)
 |ret=>show LeavesInM _ _ _ _ _ _ a'.defers _ _;rw[hm1];exact jy (by simp) (last .fJ .returning (by simp) rfl hq) Ds w' hm2 hm3 R' (Nat.le_refl _)
 |panic ch=>
  obtain⟨p,rfl,hra,hq⟩:=hq
  show LeavesInM _ _ _ _ _ _ a'.defers _ _;rw[hm1]
  refine jy (by simp) (last p (.panicking (d8 p)) (by simp) ?_ hq) Ds w' hm2 hm3 R' (Nat.le_refl _)
  cases p<;>first|rfl|(simp[jo]at hra;done)
 |_=>exact hq.elim
def aN:=And.intro @Vl (And.intro @Xg (And.intro @Vm (And.intro @Nn (And.intro @Q9 (And.intro @Ra (And.intro @Q5 (And.intro @Nj @Nk)))))))
theorem EM{f:FuncId} {args:List AV} {r:AV} {fr:Option Nat} (h:yw P f [] (args.map some) r fr []):CJ P f args r fr:=by
 obtain⟨h1,_,_,h⟩:=h
 refine⟨h1,fun w π vs hprot hd=>?_⟩
 refine(h w π [] vs hprot List.nodup_nil trivial (pE hd)).mono ?_
 rintro e w' ⟨v,π',rfl,hb,k1,k2,k3,_,k5,k6⟩
 exact⟨v,π',rfl,hb.below (fun _ h=>by cases h),k1,k2,k3,k5,k6⟩
end
section
open Z
def ru(g0:Nat):dc:=⟨37,[.tmp 6],.seq (.aT [⟨(some 6),.o (.mv (.k .bL)),none⟩]) (.seq (.aT [⟨(some 9),.o (.mv (.t 1)),none⟩,⟨(some 10),.o (.mm true [(.t 9),(.k (.int .i64 0))]),none⟩,⟨(some 11),.o (.mm false [(.t 10),(.k (.int .i64 8))]),none⟩,⟨(some 1),.o (.mv (.t 11)),none⟩]) (.seq (.aT [⟨(some 12),.o (.mv (.t 0)),none⟩,⟨(some 13),.o (.uB (.t 12)),none⟩,⟨(some 14),.o (.mv (.t 0)),none⟩,⟨(some 15),.o (.uB (.t 14)),none⟩,⟨(some 16),.o (.mv (.t 1)),none⟩,⟨(some 17),.o (.bin .add (.t 15) (.t 16)),none⟩,⟨(some 18),.RJ g0 1 (.t 13) (.t 17),none⟩,⟨(some 7),.o (.mv (.t 18)),none⟩]) (.seq (.aT [⟨(some 19),.o (.mv (.t 7)),none⟩,⟨(some 20),.o (.mv (.t 0)),none⟩,⟨(some 21),.RM g0 (.t 19) (.t 20),none⟩]) (.join (.seq (.aT [⟨(some 22),.o (.mv (.t 1)),none⟩,⟨(some 23),.o (.bin .sub (.t 22) (.k (.int .i64 1))),none⟩,⟨(some 8),.o (.mv (.t 23)),none⟩]) (.block 0 (.loop (.join (.seq (.aT [⟨(some 24),.o (.mv (.t 8)),none⟩,⟨(some 25),.o (.bin .geq (.t 24) (.k (.int .i64 0))),none⟩]) (.cond (.t 25) .skip (.exit 0))) (.join (.block 1 (.aT [⟨(some 28),.o (.mv (.t 7)),none⟩,⟨(some 29),.o (.mv (.t 2)),none⟩,⟨(some 30),.o (.mv (.t 8)),none⟩,⟨(some 31),.o (.bin .mul (.k (.int .i64 8)) (.t 30)),none⟩,⟨(some 32),.o (.bin .shr (.t 29) (.t 31)),none⟩,⟨(some 33),.o (.j4 .u8 (.t 32)),none⟩,⟨(some 34),.o (.f9 g0 1 [(.t 33)]),none⟩,⟨(some 35),.o (.app g0 1 1 (.t 28) (.t 34)),none⟩,⟨(some 7),.o (.mv (.t 35)),none⟩])) (.aT [⟨(some 26),.o (.mv (.t 8)),none⟩,⟨(some 27),.o (.bin .sub (.t 26) (.k (.int .i64 1))),none⟩,⟨(some 8),.o (.mv (.t 27)),none⟩])))))) (.seq (.aT [⟨(some 36),.o (.mv (.t 7)),none⟩,⟨(some 6),.o (.mv (.t 36)),none⟩]) .ret)))))⟩
def oN(g0:Nat):dc:=⟨10,[.tmp 4],r [V 4 .bL] (r [M 5 0,M 6 1,o 7 (.xt .yf (t 6)),o 8 (.j4 .i64 (t 7)),o 9 (.call g0 [t 5,k (i 8),t 8]),M 4 9] y)⟩
def nj:dc:=⟨26,[.tmp 4],r [V 4 (F)] (j (r [M 6 0,o 7 (h 6),M 8 1,o 9 (h 8),o 10 (b .neq 7 9)] (c 10 (r [V 4 (F)] y) z)) (j (r [V 5 (i 0)] (u 0 (.loop (j (r [M 11 5,M 12 0,o 13 (h 12),o 14 (b .lss 11 13)] (c 14 z (.exit 0))) (j (u 1 (r [M 17 0,M 18 5,o 19 (a 17 18 1),o 20 (l 19),M 21 1,M 22 5,o 23 (a 21 22 1),o 24 (l 23),o 25 (b .neq 20 24)] (c 25 (r [V 4 (F)] y) z))) (R [M 15 5,o 16 (bb .add 15 (i 1)),M 5 16])))))) (r [V 4 (T)] y)))⟩
def kj(g0 g1:Nat):dc:=⟨28,[.tmp 6],r [V 6 .bL] (r [M 9 0,o 10 (.app g0 1 1 (k .bL) (t 9)),M 7 10] (j (r [M 11 1,o 12 (.call g1 [t 11,k (i 0),k (i 8)]),o 13 (bb .sub 12 (i 1)),M 8 13] (u 0 (.loop (j (r [M 14 8,o 15 (bb .geq 14 (i 0))] (c 15 z (.exit 0))) (j (u 1 (R [M 18 7,M 19 2,M 20 8,o 21 (.bin .mul (k (i 8)) (t 20)),o 22 (.j4 .u64 (t 21)),o 23 (b .shr 19 22),o 24 (.j4 .u8 (t 23)),o 25 (.f9 g0 1 [t 24]),o 26 (.app g0 1 1 (t 18) (t 25)),M 7 26])) (R [M 16 8,o 17 (bb .sub 16 (i 1)),M 8 17])))))) (r [M 27 7,M 6 27] y)))⟩
def nP(g0:Nat):dc:=⟨10,[.tmp 4],r [V 4 .bL] (r [M 5 0,M 6 1,o 7 (.xt .yf (t 6)),o 8 (.j4 .i64 (t 7)),o 9 (.call g0 [t 5,k (i 8),t 8]),M 4 9] y)⟩
def xA(g0:Nat):dc:=⟨7,[.tmp 2],r [V 2 .mh] (r [M 3 0,o 4 (.call g0 [t 3]),o 5 (.build [.bL,i 0,i 0,i 0] [(0,1,t 4)]),o 6 (w 5),M 2 6] y)⟩
def gQ(g0 g1 g2:Nat):zx:=⟨40,[.cell 8 none],.aT [⟨(some 8),.o (.alloc [(.int .i64 0)]),none⟩],g0,[(.t 8)],9,.seq (.aT [⟨(some 10),.o (.mv (.t 1)),none⟩,⟨(some 11),.o (.mm true [(.t 10),(.k (.int .i64 0))]),none⟩,⟨(some 12),.o (.mm false [(.t 11),(.k (.int .i64 7))]),none⟩,⟨(some 1),.o (.mv (.t 12)),none⟩]) (.seq (.aT [⟨(some 13),.o (.mv (.t 0)),none⟩,⟨(some 14),.o (.mv (.t 1)),none⟩,⟨(some 15),.aE g1 [(.t 13),(.t 14)],none⟩,⟨(some 16),.o (.j4 .i64 (.t 15)),none⟩,⟨none,.o (.st (.t 8) (.t 16) 1),none⟩]) (.join (.seq (.aT [⟨(some 17),.o (.ld (.t 8) none),none⟩,⟨(some 18),.o (.mv (.t 2)),none⟩,⟨(some 19),.o (.bin .lss (.t 17) (.t 18)),none⟩,⟨(some 20),.o (.mv (.t 19)),none⟩,⟨(some 21),.o (.ld (.t 8) none),(some (20,false))⟩,⟨(some 22),.o (.mv (.t 3)),(some (20,false))⟩,⟨(some 23),.o (.bin .gtr (.t 21) (.t 22)),(some (20,false))⟩,⟨(some 24),.o (.pick (.t 20) (.k (.bool true)) (.t 23)),none⟩]) (.cond (.t 24) (.aT [⟨(some 25),.o (.mv (.t 0)),none⟩,⟨(some 26),.o (.mv (.t 0)),none⟩,⟨(some 27),.o (.nc (.t 26)),none⟩,⟨(some 28),.o (.fa (.t 27) 1),none⟩,⟨(some 29),.o (.ld (.t 28) none),none⟩,⟨(some 30),.aE g2 [(.t 25),(.k (.int .i64 4)),(.t 29)],none⟩]) .skip)) (.seq (.aT [⟨(some 31),.o (.mv (.t 0)),none⟩,⟨(some 32),.o (.nc (.t 31)),none⟩,⟨(some 33),.o (.fa (.t 32) 1),none⟩,⟨(some 34),.o (.ld (.t 33) none),none⟩,⟨(some 35),.o (.mv (.t 1)),none⟩,⟨(some 36),.o (.bin .add (.t 34) (.t 35)),none⟩,⟨(some 37),.o (.nc (.t 31)),none⟩,⟨(some 38),.o (.fa (.t 37) 1),none⟩,⟨none,.o (.st (.t 38) (.t 36) 1),none⟩]) (.seq (.aT [⟨(some 39),.o (.ld (.t 8) none),none⟩,⟨none,.o (.st (.t 8) (.t 39) 1),none⟩]) .ret))))⟩
def lB:dc:=⟨7,[.cell 2 (some 2)],r [o 2 (.alloc [i 0,i 0])] (r [M 3 0,o 4 (.nc (t 3)),o 5 (f 4 2),o 6 (L 5 2),n (s 2 6 2)] y)⟩
def nQ:dc:=⟨7,[.tmp 2],r [V 2 (i 0)] (r [M 3 0,o 4 (.nc (t 3)),o 5 (f 4 1),o 6 (l 5),M 2 6] y)⟩
def iL(g0 g1:Nat):zx:=⟨15,[.cell 2 none],.aT [⟨(some 2),.o (.alloc [(.float .f64 0)]),none⟩],g0,[(.t 2)],3,.seq (.aT [⟨(some 4),.o (.mv (.t 0)),none⟩,⟨(some 5),.aE g1 [(.t 4),(.k (.int .i64 8))],none⟩,⟨(some 6),.o (.xt .ffrom (.t 5)),none⟩,⟨none,.o (.st (.t 2) (.t 6) 1),none⟩]) (.seq (.aT [⟨(some 7),.o (.mv (.t 0)),none⟩,⟨(some 8),.o (.nc (.t 7)),none⟩,⟨(some 9),.o (.fa (.t 8) 1),none⟩,⟨(some 10),.o (.ld (.t 9) none),none⟩,⟨(some 11),.o (.bin .add (.t 10) (.k (.int .i64 8))),none⟩,⟨(some 12),.o (.nc (.t 7)),none⟩,⟨(some 13),.o (.fa (.t 12) 1),none⟩,⟨none,.o (.st (.t 13) (.t 11) 1),none⟩]) (.seq (.aT [⟨(some 14),.o (.ld (.t 2) none),none⟩,⟨none,.o (.st (.t 2) (.t 14) 1),none⟩]) .ret))⟩
def lY(g0:Nat):dc:=⟨6,[.tmp 2],r [V 2 (F)] (r [M 3 0,o 4 (.aE g0 [t 3,k (i 1),k (i 0),k (i 1)]),o 5 (bb .eql 4 (i 1)),M 2 5] y)⟩
def lZ:dc:=⟨13,[.tmp 2],r [V 2 (i 0)] (r [M 3 0,o 4 (.nc (t 3)),o 5 (f 4 0),o 6 (l 5),o 7 (h 6),M 8 0,o 9 (.nc (t 8)),o 10 (f 9 1),o 11 (l 10),o 12 (b .sub 7 11),M 2 12] y)⟩
def ff(g0 g1 g2:Nat):dc:=⟨53,[.tmp 8],r [V 8 (i 0)] (j (r [M 11 0,o 12 (.aE g0 [t 11]),o 13 (.un .not (t 12))] (c 13 (r [V 8 (i 0)] y) z)) (r [M 14 1,o 15 (.call g1 [t 14,k (i 0),k (i 7)]),M 9 15] (r [M 16 0,M 17 9,o 18 (.aE g2 [t 16,t 17]),o 19 (.j4 .i64 (t 18)),M 10 19] (j (r [M 20 0,o 21 (.aE g0 [t 20]),M 22 21,p 23 (m 10) 22,p 24 (m 2) 22,p 25 (b .lss 23 24) 22,p 26 (m 25) 22,q 27 (m 10) 26,q 28 (m 3) 26,q 29 (b .gtr 27 28) 26,p 30 (Q 26 29) 22,o 31 (P 22 30)] (c 31 (R [M 32 0,M 33 0,o 34 (.nc (t 33)),o 35 (f 34 1),o 36 (l 35),o 37 (.build [i 0,i 0] [(0,1,k (i 4)),(1,1,t 36)]),o 38 (.nc (t 32)),o 39 (f 38 2),n (s 39 37 2)]) z)) (j (r [M 40 0,o 41 (.aE g0 [t 40]),o 42 (.un .not (t 41))] (c 42 (r [V 8 (i 0)] y) z)) (r [M 43 0,M 44 0,o 45 (.nc (t 44)),o 46 (f 45 1),o 47 (l 46),M 48 9,o 49 (b .add 47 48),o 50 (.nc (t 43)),o 51 (f 50 1),n (s 51 49 1)] (r [M 52 10,M 8 52] y)))))))⟩
def f7(g0 g1:Nat):dc:=⟨22,[.tmp 2],r [V 2 (.float .f64 0)] (j (r [M 4 0,o 5 (.aE g0 [t 4]),o 6 (.un .not (t 5))] (c 6 (r [V 2 (.float .f64 0)] y) z)) (r [M 7 0,o 8 (.aE g1 [t 7,k (i 8)]),M 3 8] (j (r [M 9 0,o 10 (.aE g0 [t 9]),o 11 (.un .not (t 10))] (c 11 (r [V 2 (.float .f64 0)] y) z)) (r [M 12 0,M 13 0,o 14 (.nc (t 13)),o 15 (f 14 1),o 16 (l 15),o 17 (bb .add 16 (i 8)),o 18 (.nc (t 12)),o 19 (f 18 1),n (s 19 17 1)] (r [M 20 3,o 21 (.xt .ffrom (t 20)),M 2 21] y)))))⟩
def lC(g0:Nat):dc:=⟨6,[.tmp 2],r [V 2 (F)] (r [M 3 0,o 4 (.aE g0 [t 3,k (i 1),k (i 0),k (i 1)]),o 5 (bb .eql 4 (i 1)),M 2 5] y)⟩
def ei(g0:Nat):dc:=⟨8,[.tmp 2],r [V 2 .bL] (j (r [M 3 0,o 4 (.NN false (t 3))] (c 4 (r [V 2 .bL] y) z)) (r [o 5 (.f9 g0 1 []),M 6 0,o 7 (.app g0 1 1 (t 5) (t 6)),M 2 7] y))⟩
def iM(g0:Nat):G2:=⟨9,4,[⟨(some 5),.NO g0 (.agg [(.int .i64 0),(.int .i64 0)]) (.t 4),none⟩,⟨(some 3),.o (.mv (.t 5)),none⟩,⟨(some 6),.o (.ext (.t 3) 0),none⟩,⟨(some 7),.o (.ext (.t 3) 1),none⟩,⟨(some 1),.o (.alloc [(.int .i64 0),(.int .i64 0)]),none⟩,⟨none,.o (.st (.t 1) (.t 6) 2),none⟩,⟨(some 2),.o (.mv (.t 7)),none⟩],.seq (.aT [⟨(some 8),.o (.mv (.t 2)),none⟩]) (.cond (.t 8) (.aT [⟨none,.o (.st (.t 0) (.k (.int .i64 0)) 1),none⟩]) .skip)⟩
def iN(g0:Nat):dc:=⟨23,[.tmp 4],.seq (.aT [⟨(some 4),.o (.mv (.k (.int .u64 0))),none⟩]) (.seq (.aT [⟨(some 5),.o (.mv (.k (.int .u64 0))),none⟩]) (.join (.seq (.aT [⟨(some 8),.o (.mv (.t 0)),none⟩,⟨(some 9),.o (.mv (.t 1)),none⟩,⟨(some 10),.aE g0 [(.t 8),(.t 9)],none⟩,⟨(some 11),.o (.uB (.t 10)),none⟩,⟨(some 12),.o (.mv (.k (.int .i64 0))),none⟩]) (.block 0 (.loop (.seq (.aT [⟨(some 13),.o (.bin .lss (.t 12) (.t 11)),none⟩]) (.join (.cond (.t 13) .skip (.exit 0)) (.join (.block 1 (.seq (.aT [⟨(some 14),.o (.CC (.t 10) (.t 12) 1),none⟩,⟨(some 15),.o (.ld (.t 14) none),none⟩,⟨(some 7),.o (.mv (.t 15)),none⟩]) (.aT [⟨(some 16),.o (.mv (.t 5)),none⟩,⟨(some 17),.o (.bin .shl (.t 16) (.k (.int .u64 8))),none⟩,⟨(some 18),.o (.mv (.t 7)),none⟩,⟨(some 19),.o (.j4 .u64 (.t 18)),none⟩,⟨(some 20),.o (.bin .or (.t 17) (.t 19)),none⟩,⟨(some 5),.o (.mv (.t 20)),none⟩]))) (.aT [⟨(some 21),.o (.bin .add (.t 12) (.k (.int .i64 1))),none⟩,⟨(some 12),.o (.mv (.t 21)),none⟩]))))))) (.seq (.aT [⟨(some 22),.o (.mv (.t 5)),none⟩,⟨(some 4),.o (.mv (.t 22)),none⟩]) .ret)))⟩
def lD(g0:Nat):dc:=⟨23,[],.join (.seq (.aT [⟨(some 6),.o (.mv (.t 0)),none⟩,⟨(some 7),.o (.nc (.t 6)),none⟩,⟨(some 8),.o (.fa (.t 7) 2),none⟩,⟨(some 9),.o (.fa (.t 8) 0),none⟩,⟨(some 10),.o (.ld (.t 9) none),none⟩,⟨(some 11),.o (.bin .eql (.t 10) (.k (.int .i64 0))),none⟩]) (.cond (.t 11) (.aT [⟨(some 12),.o (.mv (.t 0)),none⟩,⟨(some 13),.o (.mv (.t 1)),none⟩,⟨(some 14),.o (.mv (.t 2)),none⟩,⟨(some 15),.o (.build [(.int .i64 0),(.int .i64 0)] [(0,1,(.t 13)),(1,1,(.t 14))]),none⟩,⟨(some 16),.o (.nc (.t 12)),none⟩,⟨(some 17),.o (.fa (.t 16) 2),none⟩,⟨none,.o (.st (.t 17) (.t 15) 2),none⟩]) .skip)) (.aT [⟨(some 18),.o (.mv (.t 0)),none⟩,⟨(some 19),.o (.nc (.t 18)),none⟩,⟨(some 20),.o (.fa (.t 19) 2),none⟩,⟨(some 21),.o (.ld (.t 20) (some 2)),none⟩,⟨(some 22),.Hz g0 (.t 21),none⟩,⟨none,.Hy (.t 22),none⟩])⟩
def gR(g0:Nat):G2:=⟨9,4,[⟨(some 5),.NO g0 (.agg [(.int .i64 0),(.int .i64 0)]) (.t 4),none⟩,⟨(some 3),.o (.mv (.t 5)),none⟩,⟨(some 6),.o (.ext (.t 3) 0),none⟩,⟨(some 7),.o (.ext (.t 3) 1),none⟩,⟨(some 1),.o (.alloc [(.int .i64 0),(.int .i64 0)]),none⟩,⟨none,.o (.st (.t 1) (.t 6) 2),none⟩,⟨(some 2),.o (.mv (.t 7)),none⟩],.seq (.aT [⟨(some 8),.o (.mv (.t 2)),none⟩]) (.cond (.t 8) (.aT [⟨none,.o (.st (.t 0) (.k (.float .f64 0)) 1),none⟩]) .skip)⟩
def nk:dc:=⟨9,[.tmp 2],r [V 2 (F)] (r [M 3 0,o 4 (.nc (t 3)),o 5 (f 4 2),o 6 (f 5 0),o 7 (l 6),o 8 (bb .eql 7 (i 0)),M 2 8] y)⟩
def lE:dc:=⟨50,[.tmp 4],r [V 4 (.int .u64 0)] (j (r [M 7 0,o 8 (.nc (t 7)),o 9 (f 8 0),o 10 (l 9),o 11 (h 10),M 12 0,o 13 (.nc (t 12)),o 14 (f 13 1),o 15 (l 14),o 16 (b .sub 11 15),M 17 1,o 18 (b .lss 16 17)] (c 18 (r [M 19 0,M 20 0,o 21 (.nc (t 20)),o 22 (f 21 0),o 23 (l 22),o 24 (h 23),o 25 (.build [i 0,i 0] [(0,1,k (i 2)),(1,1,t 24)]),o 26 (.nc (t 19)),o 27 (f 26 2),n (s 27 25 2)] (r [V 4 (.int .u64 0)] y)) z)) (r [V 5 (.int .u64 0)] (j (r [V 6 (i 0)] (u 0 (.loop (j (r [M 28 6,M 29 1,o 30 (b .lss 28 29)] (c 30 z (.exit 0))) (j (u 1 (R [M 33 5,o 34 (bb .shl 33 (.int .u64 8)),M 35 0,o 36 (.nc (t 35)),o 37 (f 36 0),o 38 (l 37),M 39 0,o 40 (.nc (t 39)),o 41 (f 40 1),o 42 (l 41),M 43 6,o 44 (b .add 42 43),o 45 (a 38 44 1),o 46 (l 45),o 47 (.j4 .u64 (t 46)),o 48 (b .or 34 47),M 5 48])) (R [M 31 6,o 32 (bb .add 31 (i 1)),M 6 32])))))) (r [M 49 5,M 4 49] y))))⟩
def jj(g0 g1:Nat):dc:=⟨39,[.tmp 4],.seq (.aT [⟨(some 4),.o (.mv (.k .bL)),none⟩]) (.join (.seq (.aT [⟨(some 5),.o (.mv (.t 0)),none⟩,⟨(some 6),.o (.nc (.t 5)),none⟩,⟨(some 7),.o (.fa (.t 6) 2),none⟩,⟨(some 8),.o (.fa (.t 7) 0),none⟩,⟨(some 9),.o (.ld (.t 8) none),none⟩,⟨(some 10),.o (.bin .neq (.t 9) (.k (.int .i64 0))),none⟩,⟨(some 11),.o (.mv (.t 10)),none⟩,⟨(some 12),.o (.mv (.t 0)),(some (11,false))⟩,⟨(some 13),.aE g0 [(.t 12)],(some (11,false))⟩,⟨(some 14),.o (.mv (.t 1)),(some (11,false))⟩,⟨(some 15),.o (.bin .lss (.t 13) (.t 14)),(some (11,false))⟩,⟨(some 16),.o (.pick (.t 11) (.k (.bool true)) (.t 15)),none⟩]) (.cond (.t 16) (.aT [⟨(some 17),.o (.mv (.t 0)),none⟩,⟨(some 18),.o (.mv (.t 0)),none⟩,⟨(some 19),.o (.nc (.t 18)),none⟩,⟨(some 20),.o (.fa (.t 19) 0),none⟩,⟨(some 21),.o (.ld (.t 20) none),none⟩,⟨(some 22),.o (.uB (.t 21)),none⟩,⟨(some 23),.aE g1 [(.t 17),(.k (.int .i64 2)),(.t 22)],none⟩]) .skip)) (.seq (.Bv [⟨(some 24),.mv (.t 0),none⟩,⟨(some 25),.nc (.t 24),none⟩,⟨(some 26),.fa (.t 25) 0,none⟩,⟨(some 27),.ld (.t 26) none,none⟩,⟨(some 28),.mv (.t 0),none⟩,⟨(some 29),.nc (.t 28),none⟩,⟨(some 30),.fa (.t 29) 1,none⟩,⟨(some 31),.ld (.t 30) none,none⟩,⟨(some 32),.mv (.t 0),none⟩,⟨(some 33),.nc (.t 32),none⟩,⟨(some 34),.fa (.t 33) 1,none⟩,⟨(some 35),.ld (.t 34) none,none⟩,⟨(some 36),.mv (.t 1),none⟩,⟨(some 37),.bin .add (.t 35) (.t 36),none⟩,⟨(some 38),.KS 1 (.t 27) (some (.t 31)) (some (.t 37)),none⟩,⟨(some 4),.mv (.t 38),none⟩]) .ret))⟩
end
def dD(n:Int):List AV:=[.int .u8 n]
structure bk where
 b:Option (List Int)
 eM:Int
 code:Int
 EN:Int
def bk.cells(r:bk):List AV:=[aD dD r.b,I r.eM,I r.code,I r.EN]
def bk.len(r:bk):Int:=((r.b.getD []).length:Int)
def bk.Ok(r:bk):Prop:=0<=r.eM/\r.eM<=r.len/\r.len<=1000000
def bk.fault(r:bk):AV:=.agg [I r.code,I r.EN]
def bk.fail(r:bk) (c a:Int):bk:=if r.code=0 then{r with code:=c,EN:=a}else r
def up(e:Nat) (r:bk):AV:=.iface e r.fault
def bk.part(r:bk) (n:Int):List Int:=((r.b.getD []).take (r.eM+n).toNat).drop r.eM.toNat
def jz(v c:Int):Int:=KV .u64 (IntKind.u64.wrap (v*2^min 8 IntKind.u64.bits)) (IntKind.u64.wrap c)
def eZ(l:List Int):Int:=l.foldl jz 0
def gI(r:bk) (size lo hi:Int):Int×bk:=
 let k:=jb size 0 7
 if ¬(r.code=0/\k<=r.len-r.eM)then(0,r.fail 2 r.len)else
 let v:=IntKind.i64.wrap (eZ (r.part k))
 if v<lo\/hi<v then(0,r.fail 4 r.eM)else(v,{r with eM:=r.eM+k})
def gB(r:bk):Nat×bk:=
 if ¬(r.code=0/\8<=r.len-r.eM)then(0,r.fail 2 r.len)else((eZ (r.part 8)).toNat,{r with eM:=r.eM+8})
def Jz(r:bk):Bool×bk:=((gI r 1 0 1).1==1,(gI r 1 0 1).2)
def wz.Spec(C:bw) (e f:Nat):Prop:=∀(r:bk) (c a:Int),C.q f [r.cells] [none,some (I c),some (I a)] (up e (r.fail c a)) [(r.fail c a).cells]
def A3.Spec(C:bw) (f:Nat):Prop:=∀r:bk,r.Ok->C.p f [r.cells] [none] (I (r.len-r.eM)) none [r.cells]
def Sf.Spec(C:bw) (f:Nat):Prop:=∀r:bk,C.p f [r.cells] [none] (I r.eM) none [r.cells]
def zy.Spec(C:bw) (f:Nat):Prop:=∀r:bk,C.p f [r.cells] [none] r.fault none [r.cells]
def Dn.Spec(C:bw) (e f:Nat):Prop:=
 (∀(r:bk) (n:Int),r.Ok->0<=n->n<=8->(r.code=0/\n<=r.len-r.eM)->C.p f [r.cells] [none,some (I n)] (aD dD (r.b.map fun _=>r.part n)) none [r.cells])/\
 ∀(r:bk) (n:Int),r.Ok->¬(r.code=0/\n<=r.len-r.eM)->C.q f [r.cells] [none,some (I n)] (up e (r.fail 2 r.len)) [(r.fail 2 r.len).cells]
def wA.Spec(C:bw) (e f:Nat):Prop:=
 (∀(r:bk) (n:Int),r.Ok->0<=n->n<=8->(r.code=0/\n<=r.len-r.eM)->C.p f [r.cells] [none,some (I n)] (.int .u64 (eZ (r.part n))) none [r.cells])/\
 ∀(r:bk) (n:Int),r.Ok->¬(r.code=0/\n<=r.len-r.eM)->C.q f [r.cells] [none,some (I n)] (up e (r.fail 2 r.len)) [(r.fail 2 r.len).cells]
def Dp.Spec(C:bw) (e f:Nat):Prop:=(∀n:Int,C.d f .fJ [[I n]] [none] [[I n]])/\∀(r:bk) (n:Int),C.d f (up e r) [[I n]] [none] [[I 0]]
def Dq.Spec(C:bw) (e f:Nat):Prop:=(∀n:Nat,C.d f .fJ [[Fl n]] [none] [[Fl n]])/\∀(r:bk) (n:Nat),C.d f (up e r) [[Fl n]] [none] [[Fl 0]]
def G8.Spec(C:bw) (f:Nat):Prop:=∀(r:bk) (size lo hi:Int),r.Ok->C.p f [r.cells] [none,some (I size),some (I lo),some (I hi)] (I (gI r size lo hi).1) none [(gI r size lo hi).2.cells]
def zz.Spec(C:bw) (f:Nat):Prop:=∀r:bk,r.Ok->C.p f [r.cells] [none] (Fl (gB r).1) none [(gB r).2.cells]
def Dr.Spec(C:bw) (f:Nat):Prop:=∀r:bk,r.Ok->C.p f [r.cells] [none] (B (Jz r).1) none [(Jz r).2.cells]
theorem EO(r:bk):((r.b.getD []).length:Int)=r.len:=rfl
theorem eO{n:Int} (h1:-1000000000<=n) (h2:n<=1000000000):IntKind.i64.wrap n=n:=by
 simp only[IntKind.wrap,IntKind.bits,IntKind.signed];simp;omega
theorem Dt{r:bk} {n:Int} (hr:r.Ok) (h0:0<=n) (hn:n<=r.len-r.eM):((r.part n).length:Int)=n:=by
 obtain⟨h1,h2,h3⟩:=hr;simp only[bk.len]at h2 h3 hn;simp[bk.part];omega
theorem A4(l:List Int) (i:Nat) (x:Int) (h:l[i]? =some x):eZ (l.take (i+1))=jz (eZ (l.take i)) x:=by
 rw[List.take_add_one,h];simp[eZ]
section
variable{P:Program} (hm:P.follows .mixedOrders=true) {f:Nat}
include hm
theorem Sf.ok(hc:de P f=some nQ):Sf.Spec (Pure P) f:=by
 intro r
 refine bO hm hc (by show 1<=7;decide) rfl (by simp) (ax (keep:=[]) (i:=0) ?_)
 try simp only[I,B,D,RX,aK,aL,aN,↓KW,↓aM,seval,nQ,Z.H,bk.cells]
theorem zy.ok(hc:de P f=some lB):zy.Spec (Pure P) f:=by
 intro r
 refine bO hm hc (by show 1<=7;decide) rfl (by simp) (ax (keep:=[]) (i:=0) ?_)
 try simp only[I,B,D,RX,aK,aL,aN,↓KW,↓aM,seval,lB,Z.H,bk.cells,bk.fault]
theorem A3.ok(hc:de P f=some lZ):A3.Spec (Pure P) f:=by
 intro r hr;obtain⟨h1,h2,h3⟩:=hr
 refine bO hm hc (by show 1<=13;decide) rfl (by simp) (ax (keep:=[]) (i:=0) ?_)
 try simp only[I,B,D,RX,aK,aL,aN,↓KW,↓aM,seval,lZ,Z.H,bk.cells,EO]
 rw[eO (by omega) (by omega)]
theorem wz.ok{e:Nat} (hc:ji true P f=some (lD e)):wz.Spec (Pure P) e f:=by
 intro r c a
 refine rq hm hc (by show 3<=23;decide) rfl (by simp) (ax (keep:=[]) (i:=0) ?_)
 try simp only[I,B,D,RX,aK,aL,aN,↓KW,↓aM,seval,lD,Z.H,bk.cells]
 refine aq (fun h=>?_) (fun h=>?_)<;>try simp only[I,B,D,RX,aK,aL,aN,↓KW,↓aM,seval,h]
 ·have h:r.code=0:=by simpa using h
  refine⟨?_,?_⟩
  ·simp[up,bk.fail,h,bk.fault]
  ·simp[gi,ct,bk.fail,h]
 ·have h:¬r.code=0:=by simpa using h
  refine⟨?_,?_⟩
  ·simp[up,bk.fail,h,bk.fault]
  ·simp[gi,ct,bk.fail,h]
theorem Dn.ok{e fL fF:Nat} (hc:ji true P f=some (jj fL fF)) (hL:A3.Spec (Pure P) fL) (hF:wz.Spec (Pure P) e fF):Dn.Spec (Pure P) e f:=by
 refine⟨fun r n hr h0 h8 hn=>?_,fun r n hr hn=>?_⟩
 ·obtain⟨hn1,hn2⟩:=hn
  obtain⟨b,q,c,a⟩:=r;simp only at hn1;subst hn1
  have hr':=hr
  obtain⟨h1,h2,h3⟩:=hr';simp only[bk.len]at h1 h2 h3 hn2
  have hw:=eO (n:=q+n) (by omega) (by omega)
  refine bO hm hc (by show 2<=39;decide) rfl (by simp) (ax (keep:=[]) (i:=0) ?_)
  try simp only[I,B,D,RX,aK,aL,aN,↓KW,↓aM,seval,jj,Z.H,bk.cells]
  refine⟨rfl,aC (hL ⟨b,q,0,a⟩ hr) ?_⟩;try simp only[I,B,D,RX,aK,aL,aN,↓KW,↓aM,seval,bk.cells]
  try simp only[I,B,D,RX,aK,aL,aN,↓KW,↓aM,seval,bk.len]
  refine aq (fun h=>?_) (fun h=>?_)<;>try simp only[I,B,D,RX,aK,aL,aN,↓KW,↓aM,seval,h]
  ·exfalso;have:=of_decide_eq_true h;omega
  ·try simp only[I,B,D,RX,aK,aL,aN,↓KW,↓aM,seval,hw]
   refine⟨⟨h1,by omega,by omega⟩,fun _ _=>rfl,?_⟩
   cases b<;>simp[Bz,aD,bk.part,List.map_drop,List.map_take]
 ·have fin:∀{s:S},gi s.boxes 0 [(r.fail 2 r.len).cells]->Ni (up e (r.fail 2 r.len)) [(r.fail 2 r.len).cells] (.panic (d8 (up e (r.fail 2 r.len)))) s:=fun h=>⟨rfl,h⟩
  refine rq hm hc (by show 2<=39;decide) rfl (by simp) (ax (keep:=[]) (i:=0) ?_)
  try simp only[I,B,D,RX,aK,aL,aN,↓KW,↓aM,seval,jj,Z.H,bk.cells]
  refine bJ (fun h=>?_) (fun h=>?_)
  ·try simp only[I,B,D,RX,aK,aL,aN,↓KW,↓aM,seval,h]
   refine⟨rfl,aI (hF r 2 r.len) ?_⟩;try simp only[I,B,D,RX,aK,aL,aN,↓KW,↓aM,seval,bk.cells]
  ·try simp only[I,B,D,RX,aK,aL,aN,↓KW,↓aM,seval,h]
   refine⟨rfl,aC (hL r hr) ?_⟩;try simp only[I,B,D,RX,aK,aL,aN,↓KW,↓aM,seval,bk.cells,h]
   refine aq (fun h2=>?_) (fun h2=>?_)<;>try simp only[I,B,D,RX,aK,aL,aN,↓KW,↓aM,seval,h2]
   ·refine⟨rfl,aI (hF r 2 r.len) ?_⟩
    try simp only[I,B,D,RX,aK,aL,aN,↓KW,↓aM,seval,bk.cells]
   ·exfalso
    simp at h h2;exact hn ⟨h,h2⟩
theorem wA.ok{e fN:Nat} (hc:ji true P f=some (iN fN)) (hN:Dn.Spec (Pure P) e fN):wA.Spec (Pure P) e f:=by
 refine⟨fun r n hr h0 h8 hn=>?_,fun r n hr hn=>?_⟩
 ·have hl:=Dt hr h0 hn.2
  have hbd:(r.b.map fun _=>r.part n).getD []=r.part n:=by unfold bk.part;cases r.b<;>simp
  obtain⟨L,hL⟩:∃L,L=r.part n:=⟨_,rfl⟩
  refine bO hm hc (by show 2<=23;decide) rfl (by simp) (ax (keep:=[]) (i:=0) ?_)
  try simp only[I,B,D,RX,aK,aL,aN,↓KW,↓aM,seval,iN,Z.H,bk.cells]
  refine⟨rfl,aC (hN.1 r n hr h0 h8 hn) ?_⟩;try simp only[I,B,D,RX,aK,aL,aN,↓KW,↓aM,seval,bk.cells]
  obtain⟨O,hO⟩:∃O,O=(r.b.map fun _=>r.part n):=⟨_,rfl⟩
  rw[<-hO]at hbd⊢;rw[<-hL]at hbd hl⊢;try simp only[I,B,D,RX,aK,aL,aN,↓KW,↓aM,seval,hbd]
  refine aH (fun k:Nat=>(⟨[(12,.dat (I k) none),(11,.dat (I L.length) none),(10,.dat (aD dD O) none),(5,.dat (.int .u64 (eZ (L.take k))) none)],[(0,⟨r.cells,[]⟩)],[],400⟩:S)) (fun k=>L.length-k) (fun k=>k<=L.length) ?_ 0 (by omega) ?_
  ·intro k hk A back
   try simp only[I,B,D,RX,aK,aL,aN,↓KW,↓aM,seval,bk.cells]
   refine aq (fun h=>?_) (fun h=>?_)<;>try simp only[I,B,D,RX,aK,aL,aN,↓KW,↓aM,seval,h]
   ·have hk2:k<L.length:=by have:=of_decide_eq_true h;omega
    obtain⟨x,hx⟩:∃x,L[k]? =some x:=⟨L[k],by simp[hk2]⟩
    have hw:=aF (k:=k) (by have:=hr.2.2;omega)
    refine⟨by rw[hbd];omega,?_⟩
    try simp only[I,B,D,RX,aK,aL,aN,↓KW,↓aM,seval,hbd,hx,dD]
    refine back (k+1) _ (by omega) (by omega) (ah (by decide) ?_ ?_ ?_ ?_)<;>simp[LX,I,B,D,hx,A4 L k x hx,hw,bk.cells]
    rfl
   ·have:k=L.length:=by have:=of_decide_eq_false h;omega
    subst this;try simp only[I,B,D,RX,aK,aL,aN,↓KW,↓aM,seval,List.take_length]
  ·refine ah (by decide) ?_ ?_ ?_ ?_<;>simp[LX,I,B,D,bk.cells,eZ]
 ·refine rq hm hc (by show 2<=23;decide) rfl (by simp) (ax (keep:=[]) (i:=0) ?_)
  try simp only[I,B,D,RX,aK,aL,aN,↓KW,↓aM,seval,iN,Z.H,bk.cells]
  refine⟨rfl,aI (hN.2 r n hr hn) ?_⟩;try simp only[I,B,D,RX,aK,aL,aN,↓KW,↓aM,seval,bk.cells]
theorem Dp.ok{e:Nat} (hc:G3 P f=some (iM e)):Dp.Spec (Pure P) e f:=by
 refine⟨fun n=>?_,fun r n=>?_⟩
 ·refine oM hm hc rfl (by show 1<=9;decide) rfl (by simp) ?_
  try simp only[I,B,D,RX,aK,aL,aN,↓KW,↓aM,seval,iM,Z.H]
 ·refine oM hm hc rfl (by show 1<=9;decide) rfl (by simp) ?_
  try simp only[I,B,D,RX,aK,aL,aN,↓KW,↓aM,seval,iM,Z.H,up,bk.fault]
theorem Dq.ok{e:Nat} (hc:G3 P f=some (gR e)):Dq.Spec (Pure P) e f:=by
 refine⟨fun n=>?_,fun r n=>?_⟩
 ·refine oM hm hc rfl (by show 1<=9;decide) rfl (by simp) ?_
  try simp only[I,B,D,RX,aK,aL,aN,↓KW,↓aM,seval,gR,Z.H]
 ·refine oM hm hc rfl (by show 1<=9;decide) rfl (by simp) ?_
  try simp only[I,B,D,RX,aK,aL,aN,↓KW,↓aM,seval,gR,Z.H,up,bk.fault]
theorem G8.ok{e f1 fW fF:Nat} (hc:G6 P f=some (gQ f1 fW fF)) (h1:Dp.Spec (Pure P) e f1) (hW:wA.Spec (Pure P) e fW) (hF:wz.Spec (Pure P) e fF):G8.Spec (Pure P) f:=by
 intro r size lo hi hr
 have hm7:(if 7<(if 0>size then 0 else size)then 7 else(if 0>size then 0 else size))=jb size 0 7:=by
  unfold jb;split<;>split<;>(try split)<;>omega
 obtain⟨k,hk⟩:∃k,k=jb size 0 7:=⟨_,rfl⟩
 have hk0:0<=k/\k<=7:=by rw[hk];unfold jb;split<;>(try split)<;>omega
 rw[<-hk]at hm7
 by_cases hn:r.code=0/\k<=r.len-r.eM
 ·obtain⟨v,hv⟩:∃v,v=IntKind.i64.wrap (eZ (r.part k)):=⟨_,rfl⟩
  have hsum:IntKind.i64.wrap (r.eM+k)=r.eM+k:=by obtain⟨g1,g2,g3⟩:=hr;exact eO (by omega) (by omega)
  by_cases hb:v<lo\/hi<v
  ·have hR:gI r size lo hi=(0,r.fail 4 r.eM):=by simp[gI,<-hk,<-hv,hn,hb]
   rw[hR]
   refine iK hm hc (by show 4<=40;decide) rfl (by simp) (iJ (keep:=[]) ?_)
   try simp only[I,B,D,RX,aK,aL,aN,↓KW,↓aM,seval,gQ,Z.H,bk.cells,hm7]
   refine⟨rfl,aC (hW.1 r k hr hk0.1 (by omega) hn) ?_⟩
   try simp only[I,B,D,RX,aK,aL,aN,↓KW,↓aM,seval,bk.cells,<-hv]
   refine bJ (fun h=>?_) (fun h=>?_)
   ·try simp only[I,B,D,RX,aK,aL,aN,↓KW,↓aM,seval,h]
    refine⟨rfl,aI (hF r 4 r.eM) ?_⟩;try simp only[I,B,D,RX,aK,aL,aN,↓KW,↓aM,seval,bk.cells]
    refine gA rfl (ir (h1.2 _ _) rfl rfl rfl ?_);try simp only[I,B,D,RX,aK,aL,aN,↓KW,↓aM,seval,bk.cells]
   ·try simp only[I,B,D,RX,aK,aL,aN,↓KW,↓aM,seval,h]
    have h2:decide (v>hi)=true:=by
     have:=of_decide_eq_false h;simp;omega
    refine aq (fun h3=>?_) (fun h3=>?_)<;>try simp only[I,B,D,RX,aK,aL,aN,↓KW,↓aM,seval,h3]
    ·refine⟨rfl,aI (hF r 4 r.eM) ?_⟩
     try simp only[I,B,D,RX,aK,aL,aN,↓KW,↓aM,seval,bk.cells]
     refine gA rfl (ir (h1.2 _ _) rfl rfl rfl ?_);try simp only[I,B,D,RX,aK,aL,aN,↓KW,↓aM,seval,bk.cells]
    ·exfalso;have:=of_decide_eq_false h;have:=of_decide_eq_false h3;omega
  ·have hR:gI r size lo hi=(v,{r with eM:=r.eM+k}):=by simp[gI,<-hk,<-hv,hn,hb]
   rw[hR]
   refine iK hm hc (by show 4<=40;decide) rfl (by simp) (iJ (keep:=[]) ?_)
   try simp only[I,B,D,RX,aK,aL,aN,↓KW,↓aM,seval,gQ,Z.H,bk.cells,hm7]
   refine⟨rfl,aC (hW.1 r k hr hk0.1 (by omega) hn) ?_⟩
   try simp only[I,B,D,RX,aK,aL,aN,↓KW,↓aM,seval,bk.cells,<-hv]
   refine bJ (fun h=>?_) (fun h=>?_)
   ·exfalso;have:=of_decide_eq_true h;omega
   ·try simp only[I,B,D,RX,aK,aL,aN,↓KW,↓aM,seval,h]
    refine aq (fun h3=>?_) (fun h3=>?_)<;>try simp only[I,B,D,RX,aK,aL,aN,↓KW,↓aM,seval,h3]
    ·exfalso;have:=of_decide_eq_true h3;omega
    ·try simp only[I,B,D,RX,aK,aL,aN,↓KW,↓aM,seval,hsum]
     refine ir (h1.1 _) rfl rfl rfl ?_;try simp only[I,B,D,RX,aK,aL,aN,↓KW,↓aM,seval,bk.cells]
 ·have hR:gI r size lo hi=(0,r.fail 2 r.len):=by simp[gI,<-hk,hn]
  rw[hR]
  refine iK hm hc (by show 4<=40;decide) rfl (by simp) (iJ (keep:=[]) ?_)
  try simp only[I,B,D,RX,aK,aL,aN,↓KW,↓aM,seval,gQ,Z.H,bk.cells,hm7]
  refine⟨rfl,aI (hW.2 r k hr hn) ?_⟩;try simp only[I,B,D,RX,aK,aL,aN,↓KW,↓aM,seval,bk.cells]
  refine gA rfl (ir (h1.2 _ _) rfl rfl rfl ?_);try simp only[I,B,D,RX,aK,aL,aN,↓KW,↓aM,seval,bk.cells]
theorem zz.ok{e f1 fW:Nat} (hc:G6 P f=some (iL f1 fW)) (h1:Dq.Spec (Pure P) e f1) (hW:wA.Spec (Pure P) e fW):zz.Spec (Pure P) f:=by
 intro r hr
 by_cases hn:r.code=0/\8<=r.len-r.eM
 ·have hsum:IntKind.i64.wrap (r.eM+8)=r.eM+8:=by obtain⟨g1,g2,g3⟩:=hr;exact eO (by omega) (by omega)
  have hR:gB r=((eZ (r.part 8)).toNat,{r with eM:=r.eM+8}):=by simp[gB,hn]
  rw[hR]
  refine iK hm hc (by show 1<=15;decide) rfl (by simp) (iJ (keep:=[]) ?_)
  try simp only[I,B,D,RX,aK,aL,aN,↓KW,↓aM,seval,iL,Z.H,bk.cells]
  refine⟨rfl,aC (hW.1 r 8 hr (by omega) (by omega) hn) ?_⟩
  try simp only[I,B,D,RX,aK,aL,aN,↓KW,↓aM,seval,bk.cells,hsum]
  refine ir (h1.1 _) rfl rfl rfl ?_;try simp only[I,B,D,RX,aK,aL,aN,↓KW,↓aM,seval,bk.cells]
 ·have hR:gB r=(0,r.fail 2 r.len):=by simp[gB,hn]
  rw[hR]
  refine iK hm hc (by show 1<=15;decide) rfl (by simp) (iJ (keep:=[]) ?_)
  try simp only[I,B,D,RX,aK,aL,aN,↓KW,↓aM,seval,iL,Z.H,bk.cells]
  refine⟨rfl,aI (hW.2 r 8 hr hn) ?_⟩;try simp only[I,B,D,RX,aK,aL,aN,↓KW,↓aM,seval,bk.cells]
  refine gA rfl (ir (h1.2 _ _) rfl rfl rfl ?_);try simp only[I,B,D,RX,aK,aL,aN,↓KW,↓aM,seval,bk.cells]
theorem Dr.ok{fN:Nat} (hc:de P f=some (lY fN)) (hN:G8.Spec (Pure P) fN):Dr.Spec (Pure P) f:=by
 intro r hr
 refine bO hm hc (by show 1<=6;decide) rfl (by simp) (ax (keep:=[]) (i:=0) ?_)
 try simp only[I,B,D,RX,aK,aL,aN,↓KW,↓aM,seval,lY,Z.H,bk.cells]
 refine⟨rfl,ay (hN r 1 0 1 hr) ?_⟩;try simp only[I,B,D,RX,aK,aL,aN,↓KW,↓aM,seval,bk.cells]
 exact⟨rfl,rfl⟩
end
end Go.Eng
