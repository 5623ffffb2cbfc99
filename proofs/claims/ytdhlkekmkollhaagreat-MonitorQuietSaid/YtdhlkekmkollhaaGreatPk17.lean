/- The engine and the library,part 17 of 18: what the proofs of this seat need of them. -/
import Derived.Test.YtdhlkekmkollhaaGreatPk16
set_option linter.unnecessarySimpa false
set_option linter.unusedSimpArgs false
set_option linter.unusedVariables false
set_option linter.defProp false
set_option maxRecDepth 10000
set_option maxHeartbeats 4000000
namespace Go.Eng
open Go
structure Fr where
 samples:Option (List (Option Nat))
 push:Int
 ask:Int
 lines:Int
 xy:Int
 reset:Bool
 deriving Inhabited
def Fr.cells (x:Fr):List AV:=[aG iR x.samples,I x.push,I x.ask,I x.lines,I x.xy,B x.reset]
def WB:Nat:=4626322717216342016
def Xy:Option Nat→Option Nat
 | none=>none
 | some x=>DF.sub WB x
theorem Wb (x:Option Nat):dI .sub (.float .f64 4626322717216342016) (fv x)=some (fv (Xy x)):=by
 cases x with
 | none=>rfl
 | some x =>
  show GJ .f64 (DF.sub WB x)=some (fv (DF.sub WB x))
  cases DF.sub WB x<;>rfl
theorem zl (x:Option Nat) (q:Option Nat):jh (fv x) q=true:=by cases x<;>rfl
theorem lD (x:Option Nat):(fv x).cells=[fv x]:=by cases x<;>rfl
def WC:List (Option Nat):=[none,some 9218868437227405312,some 9223372036854775808,some 4613937818241073152,some 4711630319722168320,some 4604930618986332160]
structure Sc where
 xs:List (Option Nat)
 Cv:Nat
 ask:Int
 lines:Int
 deriving Inhabited
structure On where
 n:Nat
 push:Int
 lines:Int
 xy:Int
 reset:Bool
 deriving Inhabited
def gn (v:Nat):Nat:=v / 16 % 64
def MX (v:Nat):Nat:=1 + v / 1024 % 30
def qj (v:Nat):On:=⟨MX v,0,0,0,false⟩
def S1 (k:Nat):Int:=IntKind.i64.wrap (256 * 2 ^ min k IntKind.i64.bits)
def iP (wild:Bool) (v:Nat) (c:Sc):Sc × On :=
 if v % 16 < 3 then ({ c with xs:=c.xs.set (gn v % 16) (Xy (c.xs.getD (gn v % 16) none)) },qj v)
 else if v % 16=3 then ({ c with xs:=c.xs.set (gn v % 16) (WC.getD (gn v % 6) none) },qj v)
 else if v % 16 < 6 then (c,{ qj v with push:=(v / 1024 % 256:Nat) })
 else if v % 16=6 then ({ c with ask:=JB .i64 c.ask (2 ^ (gn v % 4)) },qj v)
 else if v % 16=7 then (c,{ qj v with lines:=2 ^ (gn v % 4) })
 else if v % 16=8 then ({ c with lines:=JB .i64 c.lines (2 ^ (gn v % 4)) },qj v)
 else if v % 16=9 then (c,{ qj v with n:=MX v * 6 })
 else if v % 16=10 then ({ c with xs:=List.replicate 16 (some (FloatKind.f64.nearest (gn v % 2 * 20:Nat))) },qj v)
 else if v % 16=11 then ({ c with Cv:=gn v % 17 },qj v)
 else if v % 16=12 then ({ c with Cv:=16,lines:=0 },qj v)
 else if v % 16=13 then (c,{ qj v with push:=if wild && gn v % 4 == 0 then S1 (gn v) else 0,xy:=if wild && gn v % 4 == 1 then (v / 1024 % 256:Nat) else 0,reset:=wild && gn v % 2 == 0 })
 else (c,qj v)
def pJ (c:Sc) (o:On) (j:Nat):Fr :=
 ⟨bX (c.xs.take c.Cv),if j=0 then o.push else 0,c.ask,if j=0 then zD .i64 c.lines o.lines else c.lines,if j=0 then o.xy else 0,if j=0 then o.reset else false⟩
def BV (c:Sc) (o:On) (out:List Fr):List Fr:=out++(List.range (min o.n (1500 - out.length))).map (pJ c o)
def I3 (wild:Bool) (v:Nat) (x:Sc × List Fr):Sc × List Fr:=((iP wild v x.1).1,BV (iP wild v x.1).1 (iP wild v x.1).2 x.2)
def S2 (l:List Int) (i:Nat):Nat:=(place (l.getD i 0) 1099511627776).toNat
def ju (wild:Bool) (l:List Int):Nat→Sc × List Fr
 | 0=>(⟨List.replicate 16 (some 0),16,0,0⟩,[])
 | i + 1=>if (ju wild l i).2.length < 1500 then I3 wild (S2 l i) (ju wild l i) else ju wild l i
def mN (wild:Bool) (l:List Int):List Fr:=(ju wild l (min l.length 120)).2
structure Sc.Ok (c:Sc):Prop where
 xs:c.xs.length=16
 Cv:c.Cv≤16
theorem I4 (v:Nat):v % 16=0∨v % 16=1∨v % 16=2∨v % 16=3∨v % 16=4∨v % 16=5∨v % 16=6∨v % 16=7∨v % 16=8∨v % 16=9∨v % 16=10∨v % 16=11∨v % 16=12∨v % 16=13∨v % 16=14∨v % 16=15:=by omega
theorem En {wild:Bool} {v:Nat} {c:Sc} (h:c.Ok):(iP wild v c).1.Ok∧(iP wild v c).2.n≤180:=by
 have hn:MX v≤30:=by unfold MX; omega
 have hf:=h.Cv
 have hx:=h.xs
 rcases I4 v with e|e|e|e|e|e|e|e|e|e|e|e|e|e|e|e <;>
  exact ⟨⟨by simp [iP,e,hx],by simp [iP,e,hf]; try omega⟩,by simp [iP,e,qj]; omega⟩
theorem HK {c:Sc} {o:On} {out:List Fr} (h:out.length≤1500):(BV c o out).length≤1500:=by simp [BV]; omega
theorem zO (wild:Bool) (l:List Int):∀ i,(ju wild l i).1.Ok∧(ju wild l i).2.length≤1500
 | 0=>⟨⟨by simp [ju],by simp [ju]⟩,by simp [ju]⟩
 | i + 1=>by
  have ih:=zO wild l i
  rw [ju]; split
  ·exact ⟨(En ih.1).1,HK ih.2⟩
  ·exact ih
theorem Dc {wild:Bool} {l:List Int} {i:Nat} (h:¬ (ju wild l i).2.length < 1500):∀ j,ju wild l (i + j)=ju wild l i
 | 0=>rfl
 | j + 1=>by rw [← Nat.add_assoc,ju,Dc h j,if_neg h]
theorem HL {wild:Bool} {l:List Int} {i:Nat} (hi:i≤min l.length 120) (h:i=min l.length 120∨¬ (ju wild l i).2.length < 1500):(ju wild l i).2=mN wild l:=by
 rcases h with h|h
 ·rw [h]; rfl
 ·have:=Dc h (min l.length 120 - i)
  rw [show i + (min l.length 120 - i)=min l.length 120 by omega] at this
  rw [mN,this]
theorem PC (l:List Int) (i:Nat):(S2 l i:Int)=place (l.getD i 0) 1099511627776∧S2 l i < 1099511627776:=by
 have h:0≤place (l.getD i 0) 1099511627776∧place (l.getD i 0) 1099511627776 < 1099511627776:=by
  generalize l.getD i 0=v
  have h1:=Int.tmod_lt_of_pos v (b:=1099511627776) (by omega)
  have h2:-1099511627776 < v.tmod 1099511627776:=by
   have:=Int.lt_tmod_of_pos v (b:=1099511627776) (by omega)
   omega
  unfold place; split
  ·have:bK (v.tmod 1099511627776 + 1099511627776)=v.tmod 1099511627776 + 1099511627776:=aV (by omega) (by omega)
   rw [this]; omega
  ·omega
 unfold S2; omega
theorem Wc {xs:List (Option Nat)} {k:Nat} (h:k < xs.length):(xs.map fv)[k]? = some (fv (xs.getD k none)):=by
 simp [List.getD_eq_getElem?_getD,h]
theorem MY {xs:List (Option Nat)} {k:Nat} {x:Option Nat} (h:k < xs.length):setCells (xs.map fv) k [fv x]=(xs.set k x).map fv:=by
 rw [setCells,List.map_set,List.set_eq_take_append_cons_drop,if_pos (by simpa using h)]
 simp
theorem Dd:∀ (n:Nat) (xs:List (Option Nat)),n≤xs.length→cU 1 n (xs.map fv)=(xs.take n).map iR
 | 0,_,_=>rfl
 | n + 1,x :: xs,h=>by
  have:=Dd n xs (by simpa using h)
  simp [cU,this,iR]
 | n + 1,[],h=>by simp at h
theorem I5 {α:Type} (f:α→List AV) (q:List α) (t:Nat):Js (some (bB f q t))=some (aG f (bX q)):=by unfold bB bX; split<;>rfl
theorem I6 {α:Type} (f:α→List AV) (q:List α):zn (aG f (bX q))=some (I q.length):=by unfold bX; split<;>simp_all [aG,zn]
theorem PD {α:Type} (f:α→List AV) (q:List α) (t:Nat):an (OD (some (bB f q t))) fun p=>p.1=aG f (bX q):=by unfold bB bX; split<;>rfl
def GM (xs:List (Option Nat)) (w d:Nat):List (Option Nat):=List.replicate d (some w)++xs.drop d
theorem PE {xs:List (Option Nat)} (w:Nat) {d:Nat} (h:d < xs.length):(GM xs w d).set d (some w)=GM xs w (d + 1):=by
 rw [GM,List.set_append,if_neg (by simp)]
 simp only [List.length_replicate,Nat.sub_self]
 have e:xs.drop d=xs[d] :: xs.drop (d + 1):=List.drop_eq_getElem_cons h
 rw [e,List.set_cons_zero,GM]
 simp [List.replicate_succ',List.append_assoc]
theorem PF {xs:List (Option Nat)} (w:Nat) {d:Nat} (h:d≤xs.length):(GM xs w d).length=xs.length:=by simp [GM]; omega
theorem PG {xs:List (Option Nat)} (w:Nat):GM xs w xs.length=List.replicate xs.length (some w):=by simp [GM]
theorem MZ (xs:List (Option Nat)) (w:Nat):GM xs w 0=xs:=by simp [GM]
def xz (c:Sc):List AV:=[.bl,I 0,I c.ask,I c.lines,I 0,B false]
def uI (o:On):List AV:=[.bl,I o.push,I 0,I o.lines,I o.xy,B o.reset]
def yz.Spec (C:aZ) (f:Nat):Prop:=∀ (l:Option (List Int)) (wild:Bool),C.c f [aG aC l,B wild] (aG Fr.cells (bX (mN wild (l.getD [])))) none
def M0.Spec (C:aZ) (f:Nat):Prop:=C.c f [I 1] (Fl 9218868437227405312) none
def M1.Spec (C:aZ) (f:Nat):Prop:=C.c f [Fl 0,Fl 13830554455654793216] (Fl 9223372036854775808) none
section
variable {P:Program} (hm:P.follows .mixedOrders=true) {f:Nat}
include hm
theorem M0.ok (hc:aE P f=some tL):M0.Spec (Pure P) f:=by
 show (Pure P).c f _ _ none
 refine ak hm hc (by show 1≤8; decide) (aj (keep:=[]) (i:=0) ?_)
 try simp only [I,B,D,RX,↓ KW,seval,tL,Z.H]
 try rfl
theorem M1.ok (hc:aE P f=some kR):M1.Spec (Pure P) f:=by
 show (Pure P).c f _ _ none
 refine ak hm hc (by show 2≤13; decide) (aj (keep:=[]) (i:=0) ?_)
 try simp only [I,B,D,RX,↓ KW,seval,kR,Z.H]
 try rfl
theorem yz.ok {fP fN fI fC e e2:Nat} (hc:aE P f=some (mB fP fN fI fC e e2)) (hP:Place.Spec (Pure P) fP) (hN:Kq.Spec (Pure P) fN) (hI:M0.Spec (Pure P) fI) (hC:M1.Spec (Pure P) fC):yz.Spec (Pure P) f:=by
  intro l wild
  refine ak hm hc (by show 2≤200; decide) (aj (keep:=[3]) (i:=0) ?_)
  try simp only [I,B,D,RX,↓ KW,seval,mB,Z.H]
  refine aF (fun i:Nat=>(⟨[(9,.dat (I i) none),(0,.dat (aG aC l) none),(1,.dat (B wild) none),(5,bB Fr.cells (ju wild (l.getD []) i).2 0),(6,.ptr 6 0),(7,.dat (I (ju wild (l.getD []) i).1.Cv) none),(8,.ptr 9 0)],[(6,⟨(ju wild (l.getD []) i).1.xs.map fv,[]⟩),(9,⟨xz (ju wild (l.getD []) i).1,[]⟩)],bG (ju wild (l.getD []) i).2 0 e2,400⟩:S)) (fun i=>120 - i) (fun i=>i≤min (l.getD []).length 120) ?_ 0 (by omega) ?_
  rotate_left
  · refine ai (by decide) ?_ ?_ ?_ ?_<;>simp [LX,I,B,D,ju,xz,C7,fv,List.replicate]
  intro i hi A back
  have hwr:=aD (k:=i) (by omega)
  have hok:=zO wild (l.getD []) i
  have hend:=HL (wild:=wild) (l:=l.getD []) (i:=i) (by omega)
  have hnx:ju wild (l.getD []) (i + 1)=if (ju wild (l.getD []) i).2.length < 1500 then I3 wild (S2 (l.getD []) i) (ju wild (l.getD []) i) else ju wild (l.getD []) i:=rfl
  generalize hx:ju wild (l.getD []) i=x at *
  obtain ⟨c,out⟩:=x
  simp only at hok hend hnx
  have hda:Js (some (bB Fr.cells out 0))=some (aG Fr.cells (bX out)):=I5 ..
  have hln:zn (aG Fr.cells (bX out))=some (I out.length):=I6 ..
  have hfin:∀ r,out=r→an (OD (some (bB Fr.cells out 0))) fun p=>p.1=aG Fr.cells (bX r):=by
    intro r hr; subst hr; exact PD ..
  try simp only [I,B,D,RY,↓ KW,seval,hda,hln]
  rcases bc (decide ((i:Int) < ((l.getD []).length:Int))) with h1|h1
  · try simp only [I,B,D,RY,↓ KW,seval,h1,hda,hln]
    exact hfin _ (hend (.inl (by have:=of_decide_eq_false h1; omega)))
  rcases bc (decide ((i:Int) < 120)) with h2|h2
  · try simp only [I,B,D,RY,↓ KW,seval,h1,h2,hda,hln]
    exact hfin _ (hend (.inl (by have:=of_decide_eq_false h2; omega)))
  rcases bc (decide ((out.length:Int) < 1500)) with h3|h3
  · try simp only [I,B,D,RY,↓ KW,seval,h1,h2,h3,hda,hln]
    exact hfin _ (hend (.inr (by have:=of_decide_eq_false h3; omega)))
  have a1:=of_decide_eq_true h1
  have a2:=of_decide_eq_true h2
  have a3:=of_decide_eq_true h3
  rw [if_pos (by omega)] at hnx
  obtain ⟨y,hy⟩:∃ y,(l.getD [])[i]? = some y:=⟨_,List.getElem?_eq_getElem (by omega)⟩
  have hyd:(l.getD []).getD i 0=y:=by rw [List.getD_eq_getElem?_getD,hy]; rfl
  have hv:=PC (l.getD []) i
  rw [hyd] at hv
  obtain ⟨v,hve⟩:∃ v,S2 (l.getD []) i=v:=⟨_,rfl⟩
  rw [hve] at hv hnx
  have hb:0≤(i:Int)∧(i:Int) < ((l.getD []).length:Int):=by omega
  have cP:=hP y 1099511627776 (by omega)
  rw [← hv.1] at cP
  have n1:IntKind.i64.wrap ((v:Int).tdiv 16)=((v / 16:Nat):Int):=by rw [show (v:Int).tdiv 16=((v / 16:Nat):Int) from rfl,aV (by omega) (by omega)]
  have n2:((v / 16:Nat):Int).tmod 64=((gn v:Nat):Int):=rfl
  have n3:IntKind.i64.wrap ((v:Int).tdiv 1024)=((v / 1024:Nat):Int):=by rw [show (v:Int).tdiv 1024=((v / 1024:Nat):Int) from rfl,aV (by omega) (by omega)]
  have n4:IntKind.i64.wrap (1 + ((v / 1024:Nat):Int).tmod 30)=((MX v:Nat):Int):=by rw [show ((v / 1024:Nat):Int).tmod 30=((v / 1024 % 30:Nat):Int) from rfl,aV (by omega) (by omega)]; rfl
  have n5:(v:Int).tmod 16=((v % 16:Nat):Int):=rfl
  try simp only [I,B,D,RY,↓ KW,seval,h1,h2,h3,hy,hb,aC,hda,hln]
  refine af cP ?_
  try simp only [I,B,D,RY,↓ KW,seval,n1,n2,n3,n4,n5,hda,hln]
  apply Wa (fun y:Sc × On=>(⟨[(9,.dat (I i) none),(0,.dat (aG aC l) none),(1,.dat (B wild) none),(5,bB Fr.cells out 0),(6,.ptr 6 0),(7,.dat (I y.1.Cv) none),(8,.ptr 9 0),(12,.dat (I y.2.n) none),(13,.ptr 429 0)],[(6,⟨y.1.xs.map fv,[]⟩),(9,⟨xz y.1,[]⟩),(429,⟨uI y.2,[]⟩)],bG out 0 e2,500⟩:S)) (fun y=>y=iP wild v c)
  · intro back2
    have hxl:=hok.1.xs
    have n3':(v:Int).tdiv 1024=((v / 1024:Nat):Int):=rfl
    have m16:((gn v:Nat):Int).tmod 16=((gn v % 16:Nat):Int):=rfl
    have m6:((gn v:Nat):Int).tmod 6=((gn v % 6:Nat):Int):=rfl
    have m4:((gn v:Nat):Int).tmod 4=((gn v % 4:Nat):Int):=rfl
    have m2:((gn v:Nat):Int).tmod 2=((gn v % 2:Nat):Int):=rfl
    have m17:((gn v:Nat):Int).tmod 17=((gn v % 17:Nat):Int):=rfl
    have m256:((v / 1024:Nat):Int).tmod 256=((v / 1024 % 256:Nat):Int):=rfl
    have x16:c.xs[gn v % 16]? = some (c.xs.getD (gn v % 16) none):=by rw [List.getD_eq_getElem?_getD,List.getElem?_eq_getElem (by omega)]; rfl
    have x6:([.d4,.float .f64 9218868437227405312,.float .f64 9223372036854775808,.float .f64 4613937818241073152,.float .f64 4711630319722168320,.float .f64 4604930618986332160]:List AV)[gn v % 6]? = some (fv (WC.getD (gn v % 6) none)):=Wc (xs:=WC) (by show gn v % 6 < 6; omega)
    have sb:=Wb (c.xs.getD (gn v % 16) none)
    have st:=fun x=>MY (xs:=c.xs) (k:=gn v % 16) (x:=x) (by omega)
    have b16:0≤((gn v % 16:Nat):Int)∧((gn v % 16:Nat):Int) < 16:=by omega
    have b6:0≤((gn v % 6:Nat):Int)∧((gn v % 6:Nat):Int) < 6:=by omega
    have le16:gn v % 16 + 1≤c.xs.length:=by omega
    have hz6:setCells [.bl,.int .i64 0,.int .i64 0,.int .i64 0,.int .i64 0,.bool false] 0 [.bl,.int .i64 0,.int .i64 0,.int .i64 0,.int .i64 0,.bool false]=uI (qj v):=rfl
    have sf:∀ (c:Sc) (x:Int),(xz c).length=6∧(xz c)[2]? = some (I c.ask)∧(xz c)[3]? = some (I c.lines)∧setCells (xz c) 2 [I x]=xz { c with ask:=x }∧setCells (xz c) 3 [I x]=xz { c with lines:=x }:=fun _ _=>⟨rfl,rfl,rfl,rfl,rfl⟩
    have sf1:=fun c=>(sf c 0).1
    have sf2:=fun c=>(sf c 0).2.1
    have sf3:=fun c=>(sf c 0).2.2.1
    have so:∀ (o:On) (x:Int),setCells (uI o) 1 [I x]=uI { o with push:=x }∧setCells (uI o) 3 [I x]=uI { o with lines:=x }∧setCells (uI o) 4 [I x]=uI { o with xy:=x }:=fun _ _=>⟨rfl,rfl,rfl⟩
    have so5:∀ (o:On) (x:Bool),setCells (uI o) 5 [B x]=uI { o with reset:=x }:=fun _ _=>rfl
    have so6:∀ o:On,(uI o).length=6:=fun _=>rfl
    have s4:IntKind.i64.wrap (1 * 2 ^ min (IntKind.u64.wrap ((gn v % 4:Nat):Int)).toNat IntKind.i64.bits)=2 ^ (gn v % 4)∧0≤IntKind.u64.wrap ((gn v % 4:Nat):Int):=by
      have:gn v % 4=0∨gn v % 4=1∨gn v % 4=2∨gn v % 4=3:=by omega
      rcases this with h|h|h|h<;>rw [h]<;>decide
    have hk64:gn v < 64:=by unfold gn; omega
    have s5:IntKind.u64.wrap ((gn v:Nat):Int)=((gn v:Nat):Int):=by
      rw [IntKind.wrap]
      simp [IntKind.signed,IntKind.bits]
      omega
    have s6:IntKind.i64.wrap (256 * 2 ^ min (gn v) IntKind.i64.bits)=S1 (gn v):=rfl
    have s7:0≤((gn v:Nat):Int):=by omega
    have n6:IntKind.i64.wrap (((MX v:Nat):Int) * 6)=((MX v * 6:Nat):Int):=by
      have:MX v≤30:=by unfold MX; omega
      rw [aV (by omega) (by omega)]; omega
    have tn:((gn v:Nat):Int).toNat=gn v:=rfl
    have pf:∀ ps,uD 0 1 (some .d4) (some ps)=some ((0,[.d4]) :: ps):=fun _=>rfl
    rcases I4 v with e|e|e|e|e|e|e|e|e|e|e|e|e|e|e|e
    all_goals
      rw [e]
      try simp only [I,B,D,RY,↓ KW,seval,pf,s4.1,s5,s6,s7,tn,n6,n3,m16,m6,m4,m2,m17,m256,x16,x6,sb,st,b16,b6,hxl,le16,zl,lD,hz6,sf,sf1,sf2,sf3,so,so5,so6,hda,hln]
    iterate 3
      · refine ⟨by omega,?_⟩
        have hs:iP wild v c=({ c with xs:=c.xs.set (gn v % 16) (Xy (c.xs.getD (gn v % 16) none)) },qj v):=by simp [iP,e]
        refine back2 _ _ hs.symm ?_
        by_cases ho:out=[]
        all_goals refine ai (by decide) ?_ ?_ ?_ ?_<;>simp [LX,I,B,D,qj,xz,uI,ho,bB,bG]
    · refine af hN ?_
      try simp only [I,B,D,RY,↓ KW,seval,pf,s4.1,s5,s6,s7,tn,n6,n3,m16,m6,m4,m2,m17,m256,x16,x6,sb,st,b16,b6,hxl,le16,zl,lD,hz6,sf,sf1,sf2,sf3,so,so5,so6,hda,hln]
      refine af hI ?_
      try simp only [I,B,D,RY,↓ KW,seval,pf,s4.1,s5,s6,s7,tn,n6,n3,m16,m6,m4,m2,m17,m256,x16,x6,sb,st,b16,b6,hxl,le16,zl,lD,hz6,sf,sf1,sf2,sf3,so,so5,so6,hda,hln]
      refine af hC ?_
      try simp only [I,B,D,RY,↓ KW,seval,pf,s4.1,s5,s6,s7,tn,n6,n3,m16,m6,m4,m2,m17,m256,x16,x6,sb,st,b16,b6,hxl,le16,zl,lD,hz6,sf,sf1,sf2,sf3,so,so5,so6,hda,hln]
      refine ⟨by omega,?_⟩
      have hs:iP wild v c=({ c with xs:=c.xs.set (gn v % 16) (WC.getD (gn v % 6) none) },qj v):=by simp [iP,e]
      refine back2 _ _ hs.symm ?_
      by_cases ho:out=[]
      all_goals refine ai (by decide) ?_ ?_ ?_ ?_<;>simp [LX,I,B,D,qj,xz,uI,ho,bB,bG]
    iterate 2
      · have hs:iP wild v c=(c,{ qj v with push:=(v / 1024 % 256:Nat) }):=by simp [iP,e]
        refine back2 _ _ hs.symm ?_
        by_cases ho:out=[]
        all_goals refine ai (by decide) ?_ ?_ ?_ ?_<;>simp [LX,I,B,D,qj,xz,uI,ho,bB,bG]
    · refine ⟨s4.2,?_⟩
      have hs:iP wild v c=({ c with ask:=JB .i64 c.ask (2 ^ (gn v % 4)) },qj v):=by simp [iP,e]
      refine back2 _ _ hs.symm ?_
      by_cases ho:out=[]
      all_goals refine ai (by decide) ?_ ?_ ?_ ?_<;>simp [LX,I,B,D,qj,xz,uI,ho,bB,bG]
    · refine ⟨s4.2,?_⟩
      have hs:iP wild v c=(c,{ qj v with lines:=2 ^ (gn v % 4) }):=by simp [iP,e]
      refine back2 _ _ hs.symm ?_
      by_cases ho:out=[]
      all_goals refine ai (by decide) ?_ ?_ ?_ ?_<;>simp [LX,I,B,D,qj,xz,uI,ho,bB,bG]
    · refine ⟨s4.2,?_⟩
      have hs:iP wild v c=({ c with lines:=JB .i64 c.lines (2 ^ (gn v % 4)) },qj v):=by simp [iP,e]
      refine back2 _ _ hs.symm ?_
      by_cases ho:out=[]
      all_goals refine ai (by decide) ?_ ?_ ?_ ?_<;>simp [LX,I,B,D,qj,xz,uI,ho,bB,bG]
    · have hs:iP wild v c=(c,{ qj v with n:=MX v * 6 }):=by simp [iP,e]
      refine back2 _ _ hs.symm ?_
      by_cases ho:out=[]
      all_goals refine ai (by decide) ?_ ?_ ?_ ?_<;>simp [LX,I,B,D,qj,xz,uI,ho,bB,bG]
    · have hs:iP wild v c=({ c with xs:=List.replicate 16 (some (FloatKind.f64.nearest (gn v % 2 * 20:Nat))) },qj v):=by simp [iP,e]
      have n7:IntKind.i64.wrap (((gn v % 2:Nat):Int) * 20)=((gn v % 2 * 20:Nat):Int):=by rw [aV (by omega) (by omega)]; omega
      obtain ⟨w,hw⟩:∃ w,FloatKind.f64.nearest (gn v % 2 * 20:Nat)=w:=⟨_,rfl⟩
      rw [hw] at hs
      refine aF (fun d:Nat=>(⟨[(14,.dat (I d) none),(9,.dat (I i) none),(0,.dat (aG aC l) none),(1,.dat (B wild) none),(5,bB Fr.cells out 0),(6,.ptr 6 0),(7,.dat (I c.Cv) none),(8,.ptr 9 0),(11,.dat (I (gn v)) none),(12,.dat (I (MX v)) none),(13,.ptr 429 0)],[(6,⟨(GM c.xs w d).map fv,[]⟩),(9,⟨xz c,[]⟩),(429,⟨uI (qj v),[]⟩)],bG out 0 e2,460⟩:S)) (fun d=>16 - d) (fun d=>d≤16) ?_ 0 (by omega) ?_
      rotate_left
      · by_cases ho:out=[]
        all_goals refine ai (by decide) ?_ ?_ ?_ ?_<;>simp [LX,I,B,D,MZ,qj,xz,uI,ho,bB,bG]
      intro d hd A3 back3
      have hwd:=aD (k:=d) (by omega)
      rcases bc (decide ((d:Int) < 16)) with g|g
      · have hd16:d=16:=by have:=of_decide_eq_false g; omega
        subst hd16
        have hxs:GM c.xs w 16=List.replicate 16 (some w):=by have:=PG (xs:=c.xs) w; rw [hxl] at this; exact this
        rw [hxs]
        try simp only [I,B,D,RY,↓ KW,seval,g,pf,s4.1,s5,s6,s7,tn,n6,n3,m16,m6,m4,m2,m17,m256,x16,x6,sb,st,b16,b6,hxl,le16,zl,lD,hz6,sf,sf1,sf2,sf3,so,so5,so6,hda,hln]
        refine back2 _ _ hs.symm ?_
        by_cases ho:out=[]
        all_goals refine ai (by decide) ?_ ?_ ?_ ?_<;>simp [LX,I,B,D,qj,xz,uI,ho,bB,bG]
      · have hd2:d < 16:=by have:=of_decide_eq_true g; omega
        have hb2:0≤(d:Int)∧(d:Int) < 16:=by omega
        have hll:(GM c.xs w d).length=16:=by rw [PF w (by omega)]; exact hxl
        have hst:=MY (xs:=GM c.xs w d) (k:=d) (x:=some w) (by omega)
        rw [PE w (by omega)] at hst
        have hst:setCells ((GM c.xs w d).map fv) d [.float .f64 w]=(GM c.xs w (d + 1)).map fv:=hst
        try simp only [I,B,D,RY,↓ KW,seval,g,hb2,hst,hll,n7,hw,pf,s4.1,s5,s6,s7,tn,n6,n3,m16,m6,m4,m2,m17,m256,x16,x6,sb,st,b16,b6,hxl,le16,zl,lD,hz6,sf,sf1,sf2,sf3,so,so5,so6,hda,hln]
        refine ⟨by omega,back3 (d + 1) _ (by omega) (by omega) ?_⟩
        by_cases ho:out=[]
        all_goals refine ai (by decide) ?_ ?_ ?_ ?_<;>simp [LX,I,B,D,hwd,hst,hw,qj,xz,uI,ho,bB,bG]
    · have hs:iP wild v c=({ c with Cv:=gn v % 17 },qj v):=by simp [iP,e]
      refine back2 _ _ hs.symm ?_
      by_cases ho:out=[]
      all_goals refine ai (by decide) ?_ ?_ ?_ ?_<;>simp [LX,I,B,D,qj,xz,uI,ho,bB,bG]
    · have hs:iP wild v c=({ c with Cv:=16,lines:=0 },qj v):=by simp [iP,e]
      refine back2 _ _ hs.symm ?_
      by_cases ho:out=[]
      all_goals refine ai (by decide) ?_ ?_ ?_ ?_<;>simp [LX,I,B,D,qj,xz,uI,ho,bB,bG]
    · have hs:iP wild v c=(c,{ qj v with push:=if wild && gn v % 4 == 0 then S1 (gn v) else 0,xy:=if wild && gn v % 4 == 1 then (v / 1024 % 256:Nat) else 0,reset:=wild && gn v % 2 == 0 }):=by simp [iP,e]
      have e0:(((gn v % 4:Nat):Int) == 0)=(gn v % 4 == 0):=by rw [Bool.eq_iff_iff]; simp; omega
      have e1:(((gn v % 4:Nat):Int) == 1)=(gn v % 4 == 1):=by rw [Bool.eq_iff_iff]; simp; omega
      have e2:(((gn v % 2:Nat):Int) == 0)=(gn v % 2 == 0):=by rw [Bool.eq_iff_iff]; simp; omega
      obtain ⟨b0,hb0⟩:∃ b,(gn v % 4 == 0)=b:=⟨_,rfl⟩
      obtain ⟨b1,hb1⟩:∃ b,(gn v % 4 == 1)=b:=⟨_,rfl⟩
      obtain ⟨b2,hb2⟩:∃ b,(gn v % 2 == 0)=b:=⟨_,rfl⟩
      rw [hb0] at e0 hs
      rw [hb1] at e1 hs
      rw [hb2] at e2 hs
      rcases bc wild with hw|hw<;>rcases bc b0 with g0|g0<;>rcases bc b1 with g1|g1<;>rcases bc b2 with g2|g2
      all_goals
        subst hw g0 g1 g2
        try simp only [I,B,D,RY,↓ KW,seval,e0,e1,e2,s6,pf,s4.1,s5,s6,s7,tn,n6,n3,m16,m6,m4,m2,m17,m256,x16,x6,sb,st,b16,b6,hxl,le16,zl,lD,hz6,sf,sf1,sf2,sf3,so,so5,so6,hda,hln]
        try refine ⟨s7,?_⟩
        try try simp only [I,B,D,RY,↓ KW,seval,e0,e1,e2,s6,pf,s4.1,s5,s6,s7,tn,n6,n3,m16,m6,m4,m2,m17,m256,x16,x6,sb,st,b16,b6,hxl,le16,zl,lD,hz6,sf,sf1,sf2,sf3,so,so5,so6,hda,hln]
        refine back2 _ _ hs.symm ?_
        by_cases ho:out=[]
        all_goals refine ai (by decide) ?_ ?_ ?_ ?_<;>simp [LX,I,B,D,qj,xz,uI,ho,bB,bG]
    iterate 2
      · have hs:iP wild v c=(c,qj v):=by simp [iP,e]
        refine back2 _ _ hs.symm ?_
        by_cases ho:out=[]
        all_goals refine ai (by decide) ?_ ?_ ?_ ?_<;>simp [LX,I,B,D,qj,xz,uI,ho,bB,bG]
  · rintro _ rfl
    obtain ⟨hc2,ho2⟩:=En (wild:=wild) (v:=v) hok.1
    rw [I3] at hnx
    simp only at hnx
    generalize iP wild v c=y at *
    obtain ⟨c2,o⟩:=y
    simp only at hc2 ho2 hnx
    have hxl:=hc2.xs
    have hfl:=hc2.Cv
    have hch:=Dd c2.Cv c2.xs (by omega)
    rw [List.map_take] at hch
    have hsf:∀ c:Sc,(xz c).length=6∧(xz c)[2]? = some (I c.ask)∧(xz c)[3]? = some (I c.lines):=fun _=>⟨rfl,rfl,rfl⟩
    have hof:∀ o:On,(uI o).length=6∧(uI o)[1]? = some (I o.push)∧(uI o)[3]? = some (I o.lines)∧(uI o)[4]? = some (I o.xy)∧(uI o)[5]? = some (B o.reset):=fun _=>⟨rfl,rfl,rfl,rfl,rfl⟩
    have hmo:aG iR (bX (c2.xs.take c2.Cv))=if c2.Cv=0 then .bl else .sl ((c2.xs.take c2.Cv).map iR):=by
      unfold bX
      by_cases h0:c2.Cv=0
      · simp [h0,aG]
      · have:¬ (c2.xs.take c2.Cv=[]):=by intro h; have:=congrArg List.length h; rw [List.length_take] at this; simp only [List.length_nil] at this; omega
        simp [h0,this,aG]
    obtain ⟨smp,hsm⟩:∃ x,aG iR (bX (c2.xs.take c2.Cv))=x:=⟨_,rfl⟩
    rw [hsm] at hmo
    have hfr:∀ j,(pJ c2 o j).cells=[smp,I (if j=0 then o.push else 0),I c2.ask,I (if j=0 then zD .i64 c2.lines o.lines else c2.lines),I (if j=0 then o.xy else 0),B (if j=0 then o.reset else false)]:=fun j=>by rw [← hsm]; rfl
    have hle:out++(List.range 0).map (pJ c2 o)=out:=by simp
    try simp only [I,B,D,RY,↓ KW,seval,hxl,hch,hda,hln]
    refine ⟨⟨by omega,by omega⟩,⟨by omega,by omega⟩,?_⟩
    rcases bc (c2.Cv == 0) with h0|h0
    all_goals
      first | rw [if_neg (by simpa using h0)] at hmo | rw [if_pos (by simpa using h0)] at hmo
      try simp only [I,B,D,RY,↓ KW,seval,h0,← hmo,hda,hln]
      refine aF (fun j:Nat=>(⟨[(16,.dat (I j) none),(12,.dat (I o.n) none),(15,.dat (smp) none),(9,.dat (I i) none),(0,.dat (aG aC l) none),(1,.dat (B wild) none),(5,bB Fr.cells (out++(List.range j).map (pJ c2 o)) 0),(6,.ptr 6 0),(7,.dat (I c2.Cv) none),(8,.ptr 9 0),(13,.ptr 429 0)],[(6,⟨c2.xs.map fv,[]⟩),(9,⟨xz c2,[]⟩),(429,⟨uI o,[]⟩)],bG (out++(List.range j).map (pJ c2 o)) 0 e2,600⟩:S)) (fun j=>200 - j) (fun j=>j≤min o.n (1500 - out.length)) ?_ 0 (by omega) ?_
      rotate_left
      · rw [hle]
        by_cases ho:out=[]
        all_goals refine ai (by decide) ?_ ?_ ?_ ?_<;>simp [LX,I,B,D,hmo,hch,ho,bB,bG]
      intro j hj A3 back3
      have hwj:=aD (k:=j) (by omega)
      have hfj:=hfr j
      have hnj:(List.range (j + 1)).map (pJ c2 o)=(List.range j).map (pJ c2 o)++[pJ c2 o j]:=by simp [List.range_succ]
      have hol:(out++(List.range j).map (pJ c2 o)).length=out.length + j:=by simp
      have hn2:out++(List.range (j + 1)).map (pJ c2 o)=(out++(List.range j).map (pJ c2 o))++[pJ c2 o j]:=by rw [hnj,List.append_assoc]
      have hscm:BV c2 o out=out++(List.range (min o.n (1500 - out.length))).map (pJ c2 o):=rfl
      have hdq:Js (some (bB Fr.cells (out++(List.range j).map (pJ c2 o)) 0))=some (aG Fr.cells (bX (out++(List.range j).map (pJ c2 o)))):=I5 ..
      have hlq:zn (aG Fr.cells (bX (out++(List.range j).map (pJ c2 o))))=some (I (out++(List.range j).map (pJ c2 o)).length):=I6 ..
      have hend2:j=min o.n (1500 - out.length)→ju wild (l.getD []) (i + 1)=(c2,out++(List.range j).map (pJ c2 o)):=by intro h; rw [hnx,hscm,← h]
      rw [hol] at hlq
      generalize hq:out++(List.range j).map (pJ c2 o)=q at *
      generalize pJ c2 o j=fr at *
      try simp only [I,B,D,RY,↓ KW,seval,hof,hsf,hwj,hdq,hlq,hda,hln]
      rcases bc (decide ((j:Int) < ((o.n:Nat):Int))) with g1|g1
      · try simp only [I,B,D,RY,↓ KW,seval,g1,hof,hsf,hwj,hdq,hlq,hda,hln]
        refine back (i + 1) _ (by omega) (by omega) ?_
        have he:=hend2 (by have:=of_decide_eq_false g1; omega)
        by_cases ho:q=[]
        all_goals refine ai (by decide) ?_ ?_ ?_ ?_<;>simp [LX,I,B,D,hwr,he,ho,bB,bG]
      rcases bc (decide (((out.length + j:Nat):Int) < 1500)) with g2|g2
      · try simp only [I,B,D,RY,↓ KW,seval,g1,g2,hof,hsf,hwj,hdq,hlq,hda,hln]
        refine back (i + 1) _ (by omega) (by omega) ?_
        have he:=hend2 (by have:=of_decide_eq_false g2; omega)
        by_cases ho:q=[]
        all_goals refine ai (by decide) ?_ ?_ ?_ ?_<;>simp [LX,I,B,D,hwr,he,ho,bB,bG]
      have c1:=of_decide_eq_true g1
      have c3:=of_decide_eq_true g2
      have hb6:∀ a b c d e g a' b' c' d' e' g':AV,setCells [a,b,c,d,e,g] 0 [a',b',c',d',e',g']=[a',b',c',d',e',g']:=fun _ _ _ _ _ _ _ _ _ _ _ _=>rfl
      have hbs:∀ a b c d e g h:AV,setCells [a,b,c,d,e,g] 1 [h]=[a,h,c,d,e,g]∧setCells [a,b,c,d,e,g] 3 [h]=[a,b,c,h,e,g]∧setCells [a,b,c,d,e,g] 4 [h]=[a,b,c,d,h,g]∧setCells [a,b,c,d,e,g] 5 [h]=[a,b,c,d,e,h]:=fun _ _ _ _ _ _ _=>⟨rfl,rfl,rfl,rfl⟩
      have hsc:smp.cells=[smp]∧jh smp none=true:=by rw [hmo]; first | exact ⟨rfl,rfl⟩ | (split<;>exact ⟨rfl,rfl⟩)
      rcases bc ((j:Int) == 0) with z|z
      · have hj0:¬ j=0:=by intro h; rw [h] at z; simp at z
        simp only [if_neg hj0] at hfj
        by_cases ho:q=[]
        all_goals
          try simp only [I,B,D,RY,↓ KW,seval,g1,g2,z,bB,bG,ho,hsc,hb6,hbs,hol,hof,hsf,hwj,hdq,hlq,hda,hln]
          first
            | refine back3 (j + 1) _ (by omega) (by omega) ?_
            | refine ⟨by omega,fun _ _=>rfl,back3 (j + 1) _ (by omega) (by omega) ?_⟩
          refine ai (by decide) ?_ ?_ ?_ ?_<;>simp [LX,I,B,D,hwj,hn2,hfj,ho,bB,bG]
      · have hj0:j=0:=by simpa using z
        simp only [if_pos hj0] at hfj
        by_cases ho:q=[]
        all_goals
          try simp only [I,B,D,RY,↓ KW,seval,g1,g2,z,bB,bG,ho,hsc,hb6,hbs,hol,hof,hsf,hwj,hdq,hlq,hda,hln]
          first
            | refine back3 (j + 1) _ (by omega) (by omega) ?_
            | refine ⟨by omega,fun _ _=>rfl,back3 (j + 1) _ (by omega) (by omega) ?_⟩
          refine ai (by decide) ?_ ?_ ?_ ?_<;>simp [LX,I,B,D,hwj,hn2,hfj,ho,bB,bG]
end
end Go.Eng
namespace Go.Eng
open Go
theorem HM (t:Tb) (s:Pr) (l:List Rn) {to:Int} (h:0≤to∧to < 6):(nP t s l to).free=(to == 0)∧(nP t s l to).back=false:=by
 have e:to=0∨to=1∨to=2∨to=3∨to=4∨to=5:=by omega
 rcases e with rfl|rfl|rfl|rfl|rfl|rfl<;>exact ⟨rfl,rfl⟩
theorem HN {t:Tb} {s:Pr} (h:fy t s=true):0≤aL t s∧(s.aq=0∨s.aq=5∨aL t s < s.which):=by
 simp only [fy,Bool.and_eq_true,Bool.or_eq_true,decide_eq_true_eq,beq_iff_eq] at h
 exact h
end Go.Eng
namespace Go.Eng
open Go
def Xz (x y:Int):Prop:=∀ i,i < 8→tb x i=true→tb y i=true
def Wd (x y:Int):Prop:=∀ i,i < 8→tb x i=true→tb y i=false
theorem HO {s:Int} {f:Nat→Bool} {i:Nat} (h8:i < 8):tb (vu s f) i=(tb s i && f i):=by rw [vu,Ei]; simp [h8]
theorem S3 {b:Int} {i:Nat} (h8:i < 8):tb (cJ .i64 255 b) i=!tb b i:=by rw [xZ _ _ _ (by omega),AR]; simp [h8]
structure XP (t:Tb) (l:List Rn) (to:Int) (a:Ac):Prop where
 cs:Can a.start
 cf:Can a.fin
 cc:Can a.cut
 start:∀ p,p < 8→tb a.start p=true→i5 t l p=true
 sub:Xz a.start to
 cut:∀ p,p < 8→tb a.cut p=true→yl (aU l p)=true
 fin:∀ p,p < 8→tb a.fin p=true→eW (aU l p)=true
 XQ:Wd a.fin to
 XR:Wd a.cut to
theorem De (t:Tb) (s:Pr):aL t s=-1∨(0≤aL t s∧aL t s < (nR t:Int)):=by
 unfold aL
 split
 ·rename_i k hk
  have:=List.mem_of_find?_eq_some hk
  rw [List.mem_range] at this
  right; omega
 ·left; rfl
end Go.Eng
namespace Go.Eng
open Go
def Uq (t:Tb):Prop:=∀ x∈bu t,az t x.p=(x,true)
theorem M3 (l:Option (List Int)):Uq (bO l):=by
 intro x hx
 have hm:=Eh l
 generalize bO l=t at *
 have hu:∀ y∈bu t,y.p=x.p→y=x:=by
  intro y hy he
  obtain ⟨i,hi,rfl⟩:=List.getElem_of_mem hx
  obtain ⟨j,hj,rfl⟩:=List.getElem_of_mem hy
  have e1:((bu t).map Sp.p)[i]? = some ((bu t)[i]).p:=by simp [hi]
  have e2:((bu t).map Sp.p)[j]? = some ((bu t)[j]).p:=by simp [hj]
  rw [hm,cI] at e1 e2
  have hi':i < nT l:=by have:=congrArg List.length hm; simp [cI] at this; omega
  have hj':j < nT l:=by have:=congrArg List.length hm; simp [cI] at this; omega
  rw [List.getElem?_map,List.getElem?_range hi'] at e1
  rw [List.getElem?_map,List.getElem?_range hj'] at e2
  simp only [Option.map_some,Option.some.injEq] at e1 e2
  have:i=j:=by rw [he] at e2; omega
  subst this; rfl
 unfold az
 cases hf:(bu t).find? (fun y=>y.p == x.p) with
 | none =>
  have:=List.find?_eq_none.1 hf x hx
  simp at this
 | some y =>
  have h1:=List.mem_of_find?_eq_some hf
  have h2:=List.find?_some hf
  simp only
  rw [hu y h1 (by simpa using h2)]
theorem Df {t:Tb} {x:Sp}:x∈bu t↔∃ (g k i:Nat) (gr:Gr),(t.groups.getD [])[g]? = some gr∧k < 2∧((gr.row k).getD [])[i]? = some x.p∧(0≤x.p∧x.p < 8)∧x=⟨g,k,i,x.p⟩:=by
 simp only [bu,ck,List.take_length,List.mem_flatMap,cw,List.mem_range,bt,List.mem_filterMap,List.mem_zipIdx_iff_getElem?,Prod.exists]
 constructor
 ·rintro ⟨gr,g,hg,k,hk,p,i,hi,hx⟩
  split at hx
  ·rename_i hr
   cases hx
   exact ⟨g,k,i,gr,hg,hk,hi,hr,rfl⟩
  ·cases hx
 ·rintro ⟨g,k,i,gr,hg,hk,hi,hr,hx⟩
  exact ⟨gr,g,hg,k,hk,x.p,i,hi,by rw [if_pos hr]; exact congrArg some hx.symm⟩
theorem I7 {t:Tb} {g k:Nat} {gr:Gr} (hg:(t.groups.getD [])[g]? = some gr) (hk:k < 2):je t g k=gr.row k:=by
 have hl:=(List.getElem?_eq_some_iff.1 hg).1
 rw [je,if_neg (by omega)]
 simp only [Int.toNat_natCast]
 rw [List.getD_eq_getElem?_getD,hg]; rfl
theorem S4 {t:Tb} {g r pl:Int} (h:0≤rK t g r pl):∃ (g' k i:Nat) (gr:Gr),g=g'∧r=k∧pl=i∧(t.groups.getD [])[g']? = some gr∧k < 2∧((gr.row k).getD [])[i]? = some (rK t g r pl)∧rK t g r pl < 8:=by
 by_cases h1:g < 0∨((t.groups.getD []).length:Int)≤g∨r < 0∨1 < r
 ·rw [rK,if_pos h1] at h; omega
 by_cases h2:pl < 0∨(((je t g r).getD []).length:Int)≤pl
 ·rw [rK,if_neg h1,if_pos h2] at h; omega
 by_cases h3:0≤((je t g r).getD []).getD pl.toNat 0∧((je t g r).getD []).getD pl.toNat 0 < 8
 ·have e:rK t g r pl=((je t g r).getD []).getD pl.toNat 0:=by rw [rK,if_neg h1,if_neg h2,if_pos h3]
  obtain ⟨gr,hg⟩:∃ gr,(t.groups.getD [])[g.toNat]? = some gr:=⟨_,List.getElem?_eq_getElem (by omega)⟩
  have hre:=I7 hg (k:=r.toNat) (by omega)
  rw [show ((g.toNat:Nat):Int)=g by omega,show ((r.toNat:Nat):Int)=r by omega] at hre
  refine ⟨g.toNat,r.toNat,pl.toNat,gr,by omega,by omega,by omega,hg,by omega,?_,by rw [e]; exact h3.2⟩
  rw [e,← hre,List.getD_eq_getElem?_getD,List.getElem?_eq_getElem (by omega)]; rfl
 ·rw [rK,if_neg h1,if_neg h2,if_neg h3] at h; omega
theorem BW {t:Tb} (hU:Uq t) {g r pl:Int} (h:0≤rK t g r pl):az t (rK t g r pl)=(⟨g,r,pl,rK t g r pl⟩,true):=by
 obtain ⟨g',k,i,gr,rfl,rfl,rfl,hg,hk,hi,h8⟩:=S4 h
 have hx:(⟨g',k,i,rK t g' k i⟩:Sp)∈bu t:=Df.2 ⟨g',k,i,gr,hg,hk,hi,⟨h,h8⟩,rfl⟩
 exact hU _ hx
theorem Gx {t:Tb} {p:Int} (h:(az t p).2=true):(az t p).1∈bu t∧(az t p).1.p=p:=by
 unfold az at h ⊢
 cases hf:(bu t).find? (fun x=>x.p == p) with
 | none=>rw [hf] at h; cases h
 | some x =>
  simp only
  exact ⟨List.mem_of_find?_eq_some hf,by simpa using List.find?_some hf⟩
theorem M4 {t:Tb} {p:Int} (h:(az t p).2=true):rK t (az t p).1.group (az t p).1.ring (az t p).1.pos=p:=by
 obtain ⟨h1,h2⟩:=Gx h
 obtain ⟨g,k,i,gr,hg,hk,hi,hr,hx⟩:=Df.1 h1
 generalize (az t p).1=x at *
 rw [hx]
 simp only
 have hl:=(List.getElem?_eq_some_iff.1 hg).1
 have hre:=I7 hg hk
 have hil:=(List.getElem?_eq_some_iff.1 hi).1
 have e:((je t g k).getD []).getD (i:Int).toNat 0=x.p:=by rw [hre,List.getD_eq_getElem?_getD,Int.toNat_natCast,hi]; rfl
 rw [rK,if_neg (by omega),if_neg (by rw [hre]; omega),if_pos (by rw [e]; exact hr),e,h2]
theorem Dg {t:Tb} (hU:Uq t) {g p1 p2:Int} (h1:0≤rK t g 0 p1) (h2:0≤rK t g 1 p2):cK t (rK t g 0 p1) (rK t g 1 p2)=true:=by
 rw [cK,BW hU h1,BW hU h2]; simp
end Go.Eng
namespace Go.Eng
open Go
def Fr.Tx (x:Fr):BS:=⟨x.samples,x.push,x.ask,x.lines⟩
def runT (t:Tb) (frs:List Fr):Nat→bq
 | 0=>FD t
 | i + 1=>kn t (runT t frs i) (frs.getD i default).Tx
theorem M5 (t:Tb) (s:bq) (x:BS):(kn t s x).Ok:=⟨yw ..,by simp [kn,XM,sQ,sP],Db⟩
theorem Ku (t:Tb) (s:bq) (x:BS):((kn t s x).iQ.getD []).length=SX t:=by
 rw [kn,BT,bU]; simp [oG]
theorem I8 (t:Tb) (frs:List Fr):∀ i,(runT t frs i).Ok
 | 0=>kX t
 | i + 1=>M5 ..
theorem BX (t:Tb) (frs:List Fr) (h:SX t≤1000000):∀ i,((runT t frs i).iQ.getD []).length≤1000000
 | 0=>by simp [runT,FD,lA]
 | i + 1=>by rw [runT,Ku]; exact h
def WD (frs:List Fr):Prop:=∀ x∈frs,(x.samples.getD []).length≤1000000
theorem M6 {wild:Bool} {l:List Int}:∀ i,WD (ju wild l i).2
 | 0=>fun x hx=>by simp [ju] at hx
 | i + 1=>by
  have ih:=M6 (wild:=wild) (l:=l) i
  have hok:=(zO wild l i).1
  rw [ju]; split
  ·intro x hx
   simp only [I3,BV,List.mem_append,List.mem_map] at hx
   rcases hx with hx|⟨j,_,rfl⟩
   ·exact ih x hx
   ·have:=(En (wild:=wild) (v:=S2 l i) hok).1.xs
    simp only [pJ,bU,List.length_take]; omega
  ·exact ih
theorem BY (wild:Bool) (l:List Int):WD (mN wild l):=M6 _
theorem BZ (wild:Bool) (l:List Int):(mN wild l).length≤1500:=(zO wild l _).2
end Go.Eng
namespace Go.Eng
open Go
structure PI (t:Tb) (x:Pr):Prop where
 Yr:0≤x.aq∧x.aq < 6
 which:x.aq≠0→0≤x.which∧x.which < (nR t:Int)
 zero:x.aq=0→x.which=0
theorem Dh {t:Tb} {x y:Pr} (h:x.which=y.which):bz t x=bz t y:=by rw [bz,bz,h]
theorem HP {t:Tb} {x y:Pr} {l:List Rn} (h:x.which=y.which):jd t x l=jd t y l:=by rw [jd,jd,Dh h]
theorem Eo {t:Tb} {x y:Pr} {l:List Rn} (h:x.which=y.which):gS t x l=gS t y l:=by rw [gS,gS,Dh h]
theorem M7 {t:Tb} {x:Pr} (lines:Int) (l:List Rn) (h:PI t x):PI t (jB t x lines l).1 ∧
    (((jB t x lines l).2=⟨0,0,0,true,false⟩∧x.aq=0∧(jB t x lines l).1.aq=0) ∨
     ((jB t x lines l).2=jd t x l∧x.aq=5∧(jB t x lines l).1.aq=0∧gS t x l=0) ∨
     (1≤(jB t x lines l).1.aq∧(jB t x lines l).1.aq < 6∧(jB t x lines l).2=nP t (jB t x lines l).1 l (jB t x lines l).1.aq)):=by
  have hx:=h.Yr
  have hw:=h.which
  have hz:=h.zero
  have hu:Cr (jX t x lines)=jX t x lines:=if_neg (by show ¬ (x.aq < 0∨6≤x.aq); omega)
  have e1:(jX t x lines).aq=x.aq:=rfl
  have e2:(jX t x lines).which=x.which:=rfl
  have hr:jB t x lines l=jA t (jX t x lines) l:=by rw [jB,Po,hu]
  rw [hr]
  have e3:=HP (t:=t) (l:=l) e2
  have e4:=Eo (t:=t) (l:=l) e2
  generalize jX t x lines=u at *
  rw [← e1,← e2] at hw
  rw [← e1] at hx
  rw [← e1,← e2] at hz
  rw [← e3,← e4,← e1]
  clear e1 e2 e3 e4 hr hu
  unfold jA
  split
  · rename_i hk
    obtain ⟨h1,h2⟩:=HN hk
    have hrr:=De t u
    exact ⟨⟨by show (0:Int)≤1∧(1:Int) < 6; omega,fun _=>(by show 0≤aL t u∧aL t u < _; omega),fun e=>(by cases e)⟩,.inr (.inr ⟨by show (1:Int)≤1; omega,by show (1:Int) < 6; omega,rfl⟩)⟩
  · split
    · rename_i _ h5
      have e:aA t u l=(gS t u l,u):=by rw [aA,if_neg (by omega),if_neg (by omega),if_neg (by omega),if_neg (by omega),if_neg (by omega)]
      rw [e] at h5 ⊢
      exact ⟨⟨by show (0:Int)≤0∧(0:Int) < 6; omega,fun e=>absurd rfl e,fun _=>rfl⟩,.inr (.inl ⟨rfl,h5.1,rfl,h5.2⟩)⟩
    · rename_i _ h5
      have hrng:=kO t u l
      have hwhich:(aA t u l).1≠0→0≤(aA t u l).2.which∧(aA t u l).2.which < (nR t:Int):=by
        intro hne
        have hs0:u.aq≠0:=by
          intro e
          apply hne
          simp [aA,e]
        have hk:=hw hs0
        unfold aA
        repeat' split
        all_goals first | exact hk | skip
        unfold iN
        have hsw:(fu t u).which=u.which:=by unfold fu; split<;>rfl
        split
        · exact hk
        · split
          · rename_i h0
            have hrr:=De t (fu t u)
            exact ⟨h0,by show aL t (fu t u) < _; omega⟩
          · rw [hsw]; exact hk
      have hzero:(aA t u l).1=0→u.aq=0∧(aA t u l).2=u:=by
        intro e0
        by_cases e:u.aq=0
        · exact ⟨e,by simp [aA,e]⟩
        exfalso
        revert e0 h5
        simp only [aA,qX,oF,mU,iN]
        repeat' split
        all_goals (simp only []; omega)
      refine ⟨⟨hrng,fun hne=>hwhich hne,fun e0=>?_⟩,?_⟩
      · obtain ⟨a,b⟩:=hzero e0
        show (aA t u l).2.which=0
        rw [b]; exact hz a
      · by_cases e0:(aA t u l).1=0
        · obtain ⟨a,b⟩:=hzero e0
          refine .inl ⟨?_,a,e0⟩
          show nP t _ l (aA t u l).1=_
          rw [e0]; rfl
        · exact .inr (.inr ⟨by show 1≤(aA t u l).1; omega,hrng.2,rfl⟩)
end Go.Eng
namespace Go.Eng
open Go
structure M8 (p:Ph) (r:Rn):Prop where
 col:0≤r.ax∧r.ax≤3
 dR:0≤r.fst∧r.fst≤2
 stop:r.fst=0→r.bw=0
 off:r.ax≠1→r.fst=0
 done:r.ax=1→r.done=true→p.min≤r.time∧r.fst=0
theorem Di (p:Ph) (st time:Int) (b:Bool):(F8 p st time b=(2,1)∧st=1∧p.walk≤time)∨(F8 p st time b=(0,0)∧st=2∧p.dG≤time)∨(F8 p st time b=(1,bD time)∧st=1∧time < p.walk)∨(F8 p st time b=(2,bD time)∧st=2∧time < p.dG)∨((F8 p st time b=(1,1)∨F8 p st time b=(0,0))∧st≠1∧st≠2):=by
 unfold F8
 by_cases h1:st=1
 ·subst h1
  by_cases h:time ≥ p.walk
  ·left; simp [h]
  ·right; right; left; simp [h]; omega
 ·by_cases h2:st=2
  ·subst h2
   by_cases h:time ≥ p.dG
   ·right; left; simp [h]
   ·right; right; right; left; simp [h]; omega
  ·right; right; right; right
   refine ⟨?_,h1,h2⟩
   simp only [show (st == 1)=false by simpa using h1,show (st == 2)=false by simpa using h2,Bool.false_and,Bool.false_eq_true,if_false,Bool.or_self]
   split
   ·exact .inl rfl
   ·exact .inr rfl
theorem um (p:Ph) (r:Rn) (c:Cu):(EA p r c=(2,1)∧r.fst=1∧(p.walk≤r.bw∨c.cut=true))∨(EA p r c=(0,0)∧r.fst=2∧p.dG≤r.bw)∨(EA p r c=(1,bD r.bw)∧r.fst=1∧r.bw < p.walk)∨(EA p r c=(2,bD r.bw)∧r.fst=2∧r.bw < p.dG)∨((EA p r c=(1,1)∨EA p r c=(0,0))∧r.fst≠1∧r.fst≠2):=by
 unfold EA
 split
 ·rename_i h
  simp only [Bool.and_eq_true,beq_iff_eq] at h
  left
  exact ⟨by rw [Km,h.2]; rfl,h.2,.inr h.1⟩
 ·rcases Di p r.fst r.bw (c.push && !c.cN) with ⟨a,b,d⟩ | h
  ·exact .inl ⟨a,b,.inl d⟩
  ·exact .inr h
theorem PJ {x m:Int} (h:m≤x) (h2:m≤9999):m≤bD x:=by
 have:bD x=j8 x 0 9999 + 1:=aV (by unfold j8; split<;>(try split)<;>omega) (by unfold j8; split<;>(try split)<;>omega)
 rw [this]; unfold j8; split
 ·omega
 ·split<;>omega
structure We (p:Ph) (r:Rn) (c:Cu) (r':Rn):Prop where
 green:r.ax=1→c.fin=false→r'.ax=1∧r'.time=bD r.time∧r'.fst=(EA p r c).1∧r'.bw=(EA p r c).2
 fin:r.ax=1→c.fin=true→r'.ax=2∧r'.time=1∧r'.fst=0∧r'.bw=0
 cB:r.ax=2→(r'.fst=0∧r'.bw=0)∧((r.time < p.cB∧r'.ax=2∧r'.time=bD r.time)∨(p.cB≤r.time∧0 < p.red∧r'.ax=3∧r'.time=1)∨(p.cB≤r.time∧p.red≤0∧r'.ax=0∧r'.time=1))
 clear:r.ax=3→(r'.fst=0∧r'.bw=0)∧((r.time < p.red∧r'.ax=3∧r'.time=bD r.time)∨(p.red≤r.time∧r'.ax=0∧r'.time=1))
 red:cq r=true→c.start=false→r'.ax=0∧r'.time=bD r.time∧r'.fst=0∧r'.bw=0
 start:cq r=true→c.start=true→r'.ax=1∧r'.time=1∧((r'.fst=1∧r'.bw=1)∨(r'.fst=0∧r'.bw=0))∧r'.done=false
theorem B3 (p:Ph) (r:Rn) (c:Cu):We p r c (de p r c):=by
 have red3:cq r=true↔(r.ax≠1∧r.ax≠2∧r.ax≠3):=by simp [cq]
 constructor
 ·intro h1 h2
  have e:de p r c=j0 p r c:=by simp [de,h1]
  rw [e,j0,h2]
  simp only [Bool.false_eq_true,if_false]
  split
  ·exact ⟨rfl,rfl,rfl,rfl⟩
  ·split<;>exact ⟨rfl,rfl,rfl,rfl⟩
 ·intro h1 h2
  have e:de p r c=j0 p r c:=by simp [de,h1]
  rw [e,j0,h2]
  simp only [if_true]
  split<;>exact ⟨rfl,rfl,rfl,rfl⟩
 ·intro h1
  have e:de p r c=rA p r:=by simp [de,h1]
  rw [e,rA]
  split
  ·exact ⟨⟨rfl,rfl⟩,.inl ⟨by assumption,rfl,rfl⟩⟩
  ·split
   ·exact ⟨⟨rfl,rfl⟩,.inr (.inl ⟨by omega,by omega,rfl,rfl⟩)⟩
   ·exact ⟨⟨rfl,rfl⟩,.inr (.inr ⟨by omega,by omega,rfl,rfl⟩)⟩
 ·intro h1
  have e:de p r c=yp p r:=by simp [de,h1]
  rw [e,yp]
  split
  ·exact ⟨⟨rfl,rfl⟩,.inl ⟨by assumption,rfl,rfl⟩⟩
  ·exact ⟨⟨rfl,rfl⟩,.inr ⟨by omega,rfl,rfl⟩⟩
 ·intro h1 h2
  obtain ⟨a,b,d⟩:=red3.1 h1
  have e:de p r c=F9 p r c:=by simp [de,a,b,d]
  rw [e,F9,h2]
  exact ⟨rfl,rfl,rfl,rfl⟩
 ·intro h1 h2
  obtain ⟨a,b,d⟩:=red3.1 h1
  have e:de p r c=F9 p r c:=by simp [de,a,b,d]
  rw [e,F9,h2]
  simp only [if_true]
  refine ⟨rfl,rfl,?_,rfl⟩
  show ((F8 p 0 0 c.push).1=1∧(F8 p 0 0 c.push).2=1)∨((F8 p 0 0 c.push).1=0∧(F8 p 0 0 c.push).2=0)
  rcases Di p 0 0 c.push with ⟨_,h,_⟩|⟨_,h,_⟩|⟨_,h,_⟩|⟨_,h,_⟩|⟨h,_⟩
  ·cases h
  ·cases h
  ·cases h
  ·cases h
  ·rcases h with h | h<;>rw [h]<;>simp
theorem qk {r:Rn} (h:0≤r.ax∧r.ax≤3):(r.ax=0∧cq r=true)∨(r.ax=1∧cq r=false)∨(r.ax=2∧cq r=false)∨(r.ax=3∧cq r=false):=by
 have:r.ax=0∨r.ax=1∨r.ax=2∨r.ax=3:=by omega
 rcases this with e|e|e|e<;>simp [cq,e]
theorem PK {p:Ph} {r:Rn} (c:Cu) (hm:p.min≤9999) (h:M8 p r):M8 p (de p r c):=by
 have o:=B3 p r c
 have hd:(de p r c).ax=1→r.ax=1→c.fin=false→(de p r c).done=true→p.min≤(de p r c).time∧(de p r c).fst=0:=by
  intro _ h1 h2 h3
  obtain ⟨g1,g2,g3,g4⟩:=o.green h1 h2
  have hf:=um p r c
  have e:de p r c=j0 p r c:=by simp [de,h1]
  have hdd:(c8 p (iD p r c) c=true)∨(iD p r c).done=true:=by
   rw [e,j0,h2] at h3
   simp only [Bool.false_eq_true,if_false] at h3
   split at h3
   ·exact .inr h3
   ·split at h3
    ·rename_i hh; exact .inl hh
    ·exact .inr h3
  have hft:=h.dR
  rcases hdd with hdd|hdd
  ·simp only [c8,Bool.and_eq_true,decide_eq_true_eq,Bool.not_eq_true',eZ,Bool.or_eq_false_iff,beq_eq_false_iff_ne] at hdd
   obtain ⟨⟨⟨_,k1⟩,k2⟩,_⟩:=hdd
   refine ⟨by rw [g2]; exact k1,?_⟩
   have k3:(EA p r c).1≠1∧(EA p r c).1≠2:=k2
   rw [g3]
   rcases hf with ⟨a,_⟩|⟨a,_⟩|⟨a,_⟩|⟨a,_⟩|⟨a|a,_⟩<;>rw [a] at k3 ⊢<;>simp at k3 ⊢
  ·have hpd:(if bH p r c then false else r.done)=true:=hdd
   have hcl:bH p r c=false:=by
    cases hc:bH p r c
    ·rfl
    ·rw [hc] at hpd; cases hpd
   rw [hcl] at hpd
   obtain ⟨m1,m2⟩:=h.done h1 hpd
   refine ⟨by rw [g2]; exact PJ m1 hm,?_⟩
   rw [g3]
   have hcl2:(EA p r c).1≠1:=by
    simp only [bH,eZ,m2] at hcl
    simpa using hcl
   rcases hf with ⟨a,b,_⟩|⟨a,b,_⟩|⟨a,b,_⟩|⟨a,b,_⟩|⟨a|a,_⟩
   ·omega
   ·rw [a]
   ·omega
   ·omega
   ·rw [a] at hcl2; exact absurd rfl hcl2
   ·rw [a]
 have hft:=h.dR
 have hst:=h.stop
 rcases qk h.col with ⟨e,er⟩|⟨e,er⟩|⟨e,er⟩|⟨e,er⟩
 ·cases hc:c.start
  ·obtain ⟨a,b,d,g⟩:=o.red er hc
   exact ⟨by omega,by omega,fun _=>g,fun _=>d,fun k=>by omega⟩
  ·obtain ⟨a,b,d,g⟩:=o.start er hc
   exact ⟨by omega,by omega,fun k=>by omega,fun k=>by omega,fun _ k=>by rw [g] at k; cases k⟩
 ·cases hc:c.fin
  ·obtain ⟨a,b,d,g⟩:=o.green e hc
   refine ⟨by omega,?_,fun k=>?_,fun k=>absurd a k,fun k1 k2=>hd k1 e hc k2⟩
   ·rw [d]
    rcases um p r c with ⟨x,_⟩|⟨x,_⟩|⟨x,_⟩|⟨x,_⟩|⟨x|x,_⟩<;>rw [x]<;>simp
   ·rw [d] at k
    rw [g]
    rcases um p r c with ⟨x,_⟩|⟨x,_⟩|⟨x,_⟩|⟨x,_⟩|⟨x|x,_⟩<;>rw [x] at k ⊢<;>simp at k ⊢
  ·obtain ⟨a,b,d,g⟩:=o.fin e hc
   exact ⟨by omega,by omega,fun _=>g,fun _=>d,fun k=>by omega⟩
 ·obtain ⟨⟨d,g⟩,a⟩:=o.cB e
  exact ⟨by omega,by omega,fun _=>g,fun _=>d,fun k=>by omega⟩
 ·obtain ⟨⟨d,g⟩,a⟩:=o.clear e
  exact ⟨by omega,by omega,fun _=>g,fun _=>d,fun k=>by omega⟩
end Go.Eng
namespace Go.Eng
open Go
structure TG (t:Tb) (n:Nat):Prop where
 n8:n≤8
 on:∀ p:Nat,p < 8→(aO t p).on=decide (p < n)
 ph:∀ p:Nat,p < n→Mx (aO t p)
 off:∀ p:Nat,p < 8→n≤p→aO t p=default
 sym:∀ p q,p < 8→q < 8→tb (dr t p) q=tb (dr t q) p
 XA:∀ p q:Nat,p < 8→q < 8→tb (dr t p) q=true→p≠q∧cK t p q=false
 uq:Uq t
 wh:∀ p:Nat,p < n→(az t p).2=true
 XS:∀ p:Nat,(az t p).2=true→p < n
 rl:(t.bA.getD []).length≤2∧∀ r∈t.bA.getD [],Eg t n r
theorem Qi (l:Option (List Int)):TG (bO l) (nT l) where
 n8:=(nL l).2
 on:=fun p hp=>by rw [Xl l hp]; split<;>rename_i h<;>simp [h]; exact (IK _ _).on; rfl
 ph:=fun p hp=>by rw [Xl l (by have:=(nL l).2; omega),if_pos hp]; exact IK _ _
 off:=fun p h8 hp=>by rw [Xl l h8,if_neg (by omega)]
 sym:=fun p q hp hq=>Kb l hp hq
 XA:=fun p q hp hq h=>Ki l hp hq h
 uq:=M3 l
 wh:=fun p hp=>MW l hp
 XS:=fun p h=>by
  obtain ⟨h1,h2⟩:=Gx h
  have h3:(az (bO l) p).1.p∈(bu (bO l)).map Sp.p:=List.mem_map_of_mem h1
  rw [Eh,h2,cI] at h3
  simp only [List.mem_map,List.mem_range] at h3
  obtain ⟨i,hi,he⟩:=h3
  omega
 rl:=SL l
theorem TG.min {t:Tb} {n:Nat} (h:TG t n) {p:Nat} (hp:p < 8):(aO t p).min≤9999:=by
 by_cases e:p < n
 ·have:=(h.ph p e).min; omega
 ·rw [h.off p hp (by omega)]; decide
structure SI (t:Tb) (n:Nat) (s:bq):Prop where
 ok:s.Ok
 safe:∀ p q,p < 8→q < 8→tb (dr t p) q=true→cq (s.rn p)=true∨cq (s.rn q)=true
 run:∀ p:Nat,p < 8→M8 (aO t p) (s.rn p)
 off:∀ p,p < 8→n≤p→cq (s.rn p)=true
 pre:PI t s.pre
 ring:s.pre.aq=0→∀ p:Nat,p < 8→(s.rn p).ax=1→∃ k:Int,(k=0∨k=1)∧n9 t s.rings k=p
structure Gy (t:Tb) (n:Nat) (s:bq) (st fn ct:Int) (aq:Int) (rg:eG):Prop where
 start:∀ p,p < 8→tb st p=true→cq (s.rn p)=true∧p < n∧∀ q,q < 8→tb (dr t p) q=true→cq (s.rn q)=true
 two:∀ p q,p < 8→q < 8→tb st p=true→tb st q=true→tb (dr t p) q=false
 fin:∀ p:Nat,p < 8→tb fn p=true→(s.rn p).ax=1→((aO t p).min≤(s.rn p).time∧(s.rn p).fst=0)∨aq=1∨aq=3
 cut:∀ p,p < 8→tb ct p=true→aq=1∨aq=3
 ring:aq=0→∀ p:Nat,p < 8→((s.rn p).ax=1∧tb fn p=false)∨tb st p=true→∃ k:Int,(k=0∨k=1)∧n9 t rg k=p
theorem B4 {t:Tb} {l:List Rn} {p:Nat} (h:i5 t l p=true):cq (aU l p)=true∧(aU l p).time ≥ t.revert∧∀ q,q < 8→tb (dr t p) q=true→cq (aU l q)=true:=by
 simp only [i5,Bool.and_eq_true,decide_eq_true_eq] at h
 exact ⟨h.1.1,h.1.2,th.1 h.2⟩
def PL (t:Tb) (r:eG) (l:List Rn) (want k:Int):Prop:=zN t r l k=false∧vG t r want k ≥ 0∧i5 t l (rK t r.group k (vG t r want k)).toNat=true
def Wf (t:Tb) (r:eG) (l:List Rn) (want k:Int):Prop:=zN t r l k=true∧C9 t r l want k=true
def qR (t:Tb) (r:eG) (want k:Int):Int:=rK t r.group k (vG t r want k)
theorem uo (t:Tb) (r:eG) (l:List Rn) (want k:Int) (x:eG × Int × Int) :
  (Wf t r l want k∧¬ PL t r l want k∧rL t r l want k x=(x.1,x.2.1,dn x.2.2 (n9 t r k)))∨(PL t r l want k∧¬ Wf t r l want k∧rL t r l want k x=(x.1.put k (vG t r want k),dn x.2.1 (qR t r want k),x.2.2))∨(¬ Wf t r l want k∧¬ PL t r l want k∧rL t r l want k x=x):=by
 unfold rL
 split
 ·rename_i h
  split
  ·rename_i h2
   exact .inl ⟨⟨h,h2⟩,fun h3=>(by rw [h3.1] at h; cases h),rfl⟩
  ·rename_i h2
   exact .inr (.inr ⟨fun h3=>h2 h3.2,fun h3=>(by rw [h3.1] at h; cases h),rfl⟩)
 ·rename_i h
  split
  ·rename_i h1
   split
   ·rename_i h2
    exact .inr (.inl ⟨⟨by simpa using h,h1,h2⟩,fun h3=>h h3.1,rfl⟩)
   ·rename_i h2
    exact .inr (.inr ⟨fun h3=>h h3.1,fun h3=>h2 h3.2.2,rfl⟩)
  ·rename_i h1
   exact .inr (.inr ⟨fun h3=>h h3.1,fun h3=>h1 h3.2.1,rfl⟩)
theorem lE {s:Int} {p:Int} (hp:0≤p∧p < 8) (i:Nat):tb (dn s p) i=(tb s i && decide (i < 8) || decide ((i:Int)=p)):=by
 obtain ⟨k,rfl⟩:∃ k:Nat,p=k:=⟨p.toNat,by omega⟩
 rw [qO (by omega)]
 congr 1
 exact decide_eq_decide.2 (by omega)
theorem tN (t:Tb) (r:eG) (l:List Rn) (want:Int) {i:Nat} (hi:i < 8) :
  (tb (j5 t r l want).2.1 i=true→∃ k:Int,(k=0∨k=1)∧PL t r l want k∧(i:Int)=qR t r want k) ∧
  (tb (j5 t r l want).2.2 i=true→∃ k:Int,(k=0∨k=1)∧Wf t r l want k∧(i:Int)=n9 t r k):=by
 have q8:∀ k:Int,(k=0∨k=1)→PL t r l want k→0≤qR t r want k∧qR t r want k < 8:=fun k hk h=>Gs h.2.1 (by omega)
 have n8:∀ k:Int,Wf t r l want k→0≤n9 t r k∧n9 t r k < 8:=fun k h=>HE h.1
 unfold j5
 have c1:=uo t r l want 1 (rL t r l want 0 (r,0,0))
 have c0:=uo t r l want 0 (r,0,0)
 rcases c0 with ⟨a,b,e⟩|⟨a,b,e⟩|⟨a,b,e⟩<;>rw [e] at c1 ⊢<;>rcases c1 with ⟨a1,b1,e1⟩|⟨a1,b1,e1⟩|⟨a1,b1,e1⟩<;>rw [e1] <;>
  constructor<;>intro h<;>simp only [fc] at h<;>(try (cases h; done))
 all_goals
  first
   | rw [lE (n8 1 a1),lE (n8 0 a)] at h
   | rw [lE (q8 1 (.inr rfl) a1),lE (q8 0 (.inl rfl) a)] at h
   | rw [lE (n8 1 a1)] at h
   | rw [lE (q8 1 (.inr rfl) a1)] at h
   | rw [lE (n8 0 a)] at h
   | rw [lE (q8 0 (.inl rfl) a)] at h
  simp only [fc,hi,decide_true,Bool.and_true,Bool.false_or,Bool.or_eq_true,decide_eq_true_eq] at h
  first
   |(rcases h with h | h
     ·exact ⟨0,.inl rfl,a,h⟩
     ·exact ⟨1,.inr rfl,a1,h⟩)
   | exact ⟨0,.inl rfl,a,h⟩
   | exact ⟨1,.inr rfl,a1,h⟩
theorem M9 (t:Tb) (r:eG) (l:List Rn) (want:Int):(j5 t r l want).1.group=r.group∧∀ k:Int,(k=0∨k=1)→(PL t r l want k→(j5 t r l want).1.at k=vG t r want k)∧(¬ PL t r l want k→(j5 t r l want).1.at k=r.at k):=by
 unfold j5
 have c1:=uo t r l want 1 (rL t r l want 0 (r,0,0))
 have c0:=uo t r l want 0 (r,0,0)
 rcases c0 with ⟨a,b,e⟩|⟨a,b,e⟩|⟨a,b,e⟩<;>rw [e] at c1 ⊢<;>rcases c1 with ⟨a1,b1,e1⟩|⟨a1,b1,e1⟩|⟨a1,b1,e1⟩<;>rw [e1] <;>
  refine ⟨rfl,fun k hk=>?_⟩<;>rcases hk with rfl | rfl<;>refine ⟨fun h=>?_,fun h=>?_⟩<;>first | rfl | exact absurd h (by assumption) | exact absurd (by assumption) h
theorem I9 {t:Tb} {r:eG} {k:Int} (hk:k=0∨k=1):n9 t r k=rK t r.group k (r.at k):=by rw [n9,if_neg (by omega)]
theorem S5 {t:Tb} {r:eG} {l:List Rn} {want k:Int} (hk:k=0∨k=1) (h:PL t r l want k) {i:Nat} (hi:(i:Int)=qR t r want k):i5 t l i=true:=by
 have h2:=h.2.2
 rw [show rK t r.group k (vG t r want k)=qR t r want k from rfl,← hi,Int.toNat_natCast] at h2
 exact h2
theorem Dj {t:Tb} {n:Nat} {s:bq} (g:TG t n) {r:eG} {want:Int} {p:Nat} (hp:p < 8) (h:tb (j5 t r s.runs want).2.1 p=true):cq (s.rn p)=true∧p < n∧∀ q,q < 8→tb (dr t p) q=true→cq (s.rn q)=true:=by
 obtain ⟨k,hk,h1,h2⟩:=(tN t r s.runs want hp).1 h
 obtain ⟨a,_,b⟩:=B4 (S5 hk h1 h2)
 refine ⟨a,?_,b⟩
 have hw:=BW g.uq (t:=t) (g:=r.group) (r:=k) (pl:=vG t r want k) (Gs h1.2.1 (by omega)).1
 rw [show rK t r.group k (vG t r want k)=qR t r want k from rfl,← h2] at hw
 exact g.XS p (by rw [hw])
theorem Ja {t:Tb} {n:Nat} {s:bq} (g:TG t n) {r:eG} {want:Int} {p q:Nat} (hp:p < 8) (hq:q < 8) (h:tb (j5 t r s.runs want).2.1 p=true) (h':tb (j5 t r s.runs want).2.1 q=true):tb (dr t p) q=false:=by
 obtain ⟨k,hk,h1,h2⟩:=(tN t r s.runs want hp).1 h
 obtain ⟨j,hj,h3,h4⟩:=(tN t r s.runs want hq).1 h'
 cases hc:tb (dr t p) q with
 | false=>rfl
 | true =>
  exfalso
  obtain ⟨c1,c2⟩:=g.XA p q hp hq hc
  have a1:=(Gs h1.2.1 (by omega)).1
  have a2:=(Gs h3.2.1 (by omega)).1
  rw [h2,h4] at c2
  rcases hk with rfl|rfl<;>rcases hj with rfl|rfl
  ·exact c1 (by have:=h2.trans h4.symm; omega)
  ·have:=Dg g.uq a1 a2
   rw [show cK t (qR t r want 0) (qR t r want 1)=true from this] at c2; cases c2
  ·have:=Dg g.uq a2 a1
   rw [vr,show cK t (qR t r want 0) (qR t r want 1)=true from this] at c2; cases c2
  ·exact c1 (by have:=h2.trans h4.symm; omega)
theorem Jb {t:Tb} {n:Nat} {s:bq} (I:SI t n s) {p:Nat} (hp:p < 8) (hc:(s.rn p).ax=1) (h:(s.rn p).done=true∨HA (aO t p) (s.rn p)=true):(aO t p).min≤(s.rn p).time∧(s.rn p).fst=0:=by
 have R:=I.run p hp
 rcases h with h|h
 ·exact R.done hc h
 ·simp only [HA,Bool.and_eq_true,decide_eq_true_eq,Bool.not_eq_true',Bool.or_eq_false_iff,beq_eq_false_iff_ne] at h
  have:=R.dR
  exact ⟨h.1.1.2,by omega⟩
theorem PM {t:Tb} {n:Nat} {s:bq} (I:SI t n s) {r:eG} {want:Int} {p:Nat} (hp:p < 8) (h:tb (j5 t r s.runs want).2.2 p=true):(aO t p).min≤(s.rn p).time∧(s.rn p).fst=0:=by
 obtain ⟨k,hk,h1,h2⟩:=(tN t r s.runs want hp).2 h
 have he:=h1.2
 rw [C9,← h2,Int.toNat_natCast] at he
 have he:((s.rn p).ax == 1 && (((s.rn p).done && decide (vG t r want k ≥ 0)) || (HA (aO t p) (s.rn p) && !dM want p)))=true:=he
 simp only [Bool.and_eq_true,Bool.or_eq_true,beq_iff_eq] at he
 refine Jb I hp he.1 ?_
 rcases he.2 with h|h
 ·exact .inl h.1
 ·exact .inr h.1
theorem B5 {t:Tb} {s:bq} {r:eG} {p:Nat} {k:Int} (hc:(s.rn p).ax=1) (h:n9 t r k=p):zN t r s.runs k=true:=by
 rw [zN,h,Int.toNat_natCast]
 have:cq (aU s.runs p)=false:=by show cq (s.rn p)=false; simp [cq,hc]
 rw [this]; simp
theorem S6 {t:Tb} {n:Nat} {s:bq} (g:TG t n) (I:SI t n s) (want:Int) (h0:s.pre.aq=0):Gy t n s (Gq t s.rings s.runs want).2.1 (Gq t s.rings s.runs want).2.2 0 0 (Gq t s.rings s.runs want).1:=by
 have z:∀ p,tb (0:Int) p=true→False:=fun p h=>by rw [fc] at h; cases h
 unfold Gq
 split
 ·refine ⟨fun p _ h=>(z p h).elim,fun p q _ _ h=>(z p h).elim,fun p _ h=>(z p h).elim,fun p _ h=>(z p h).elim,fun _ p hp h=>?_⟩
  rcases h with h|h
  ·have hr:((List.range 8).all fun p=>cq (aU s.runs p))=false:=List.all_eq_false.2 ⟨p,List.mem_range.2 hp,by show ¬ cq (s.rn p)=true; simp [cq,h.1]⟩
   have e:Qh t s.rings s.runs want=s.rings:=by rw [Qh,hr]; rfl
   show ∃ k:Int,(k=0∨k=1)∧n9 t (Qh t s.rings s.runs want) k=p
   rw [e]
   exact I.ring h0 p hp h.1
  ·exact (z p h).elim
 ·have keep:∀ p:Nat,p < 8→(s.rn p).ax=1→∃ k:Int,(k=0∨k=1)∧n9 t (j5 t s.rings s.runs want).1 k=p:=by
   intro p hp hc
   obtain ⟨k,hk,hn⟩:=I.ring h0 p hp hc
   refine ⟨k,hk,?_⟩
   have hb:=B5 hc hn
   have hns:¬ PL t s.rings s.runs want k:=fun hs=>by rw [hs.1] at hb; cases hb
   obtain ⟨e1,e2⟩:=M9 t s.rings s.runs want
   rw [I9 hk,e1,(e2 k hk).2 hns,← I9 hk,hn]
  have begun:∀ p:Nat,p < 8→tb (j5 t s.rings s.runs want).2.1 p=true→∃ k:Int,(k=0∨k=1)∧n9 t (j5 t s.rings s.runs want).1 k=p:=by
   intro p hp h
   obtain ⟨k,hk,h1,h2⟩:=(tN t s.rings s.runs want hp).1 h
   refine ⟨k,hk,?_⟩
   obtain ⟨e1,e2⟩:=M9 t s.rings s.runs want
   rw [I9 hk,e1,(e2 k hk).1 h1,h2]; rfl
  split
  ·rename_i hcr
   simp only [Pu,Bool.and_eq_true,beq_iff_eq] at hcr
   refine ⟨fun p hp h=>Dj g hp h,fun p q hp hq h h'=>Ja g hp hq h h',fun p hp h hc=>.inl ?_,fun p _ h=>(z p h).elim,fun _ p hp h=>?_⟩
   ·obtain ⟨k,hk,hn⟩:=I.ring h0 p hp hc
    have hb:=B5 hc hn
    have hset:zk t s.rings s.runs want k=true:=by rcases hk with rfl | rfl; exact hcr.2.1; exact hcr.2.2.1
    simp only [zk,xu,hb,hn,Int.toNat_natCast,Bool.not_true,Bool.false_or,Bool.and_eq_true] at hset
    exact Jb I hp hc (.inl hset.2.2)
   ·rcases h with h | h
    ·exact keep p hp h.1
    ·exact begun p hp h
  ·refine ⟨fun p hp h=>Dj g hp h,fun p q hp hq h h'=>Ja g hp hq h h',fun p hp h _=>.inl (PM I hp h),fun p _ h=>(z p h).elim,fun _ p hp h=>?_⟩
   rcases h with h|h
   ·exact keep p hp h.1
   ·exact begun p hp h
end Go.Eng
namespace Go.Eng
open Go
theorem PN (r:eG) {k:Int} (hk:k=0∨k=1) (x:Int):(r.put k x).at k=x∧(r.put k x).group=r.group∧∀ j:Int,(j=0∨j=1)→j≠k→(r.put k x).at j=r.at j:=by
 rcases hk with rfl|rfl
 ·exact ⟨rfl,rfl,fun j hj hn=>by rcases hj with rfl | rfl; exact absurd rfl hn; rfl⟩
 ·exact ⟨rfl,rfl,fun j hj hn=>by rcases hj with rfl | rfl; rfl; exact absurd rfl hn⟩
theorem Gz {t:Tb} {G:Int}:∀ (L:List Nat) (r:eG),(∀ p∈L,(az t p).2=true∧(az t p).1.group=G)→L.Pairwise (fun p q:Nat=>(az t p).1.ring≠(az t q).1.ring)→r.group=G→(∀ p∈L,r.at (az t p).1.ring < 0) →
  (L.foldl (Np t) r).group=G∧(∀ p∈L,(L.foldl (Np t) r).at (az t p).1.ring=(az t p).1.pos)∧∀ k:Int,(k=0∨k=1)→(∀ p∈L,(az t p).1.ring≠k)→(L.foldl (Np t) r).at k=r.at k
 | [],r,_,_,hg,_=>⟨hg,fun p h=>(by cases h),fun _ _ _=>rfl⟩
 | p :: L,r,hw,hp,hg,hn=>by
  obtain ⟨w1,w2⟩:=hw p (by simp)
  have hr:=kQ w1
  have hk:(az t p).1.ring=0∨(az t p).1.ring=1:=by omega
  obtain ⟨g1,g2,g3⟩:=PN r hk (az t p).1.pos
  have e:Np t r p=r.put (az t p).1.ring (az t p).1.pos:=by
   rw [Np,w1,w2,hg,decide_eq_true (hn p (by simp))]; simp
  obtain ⟨hp1,hp2⟩:=List.pairwise_cons.1 hp
  obtain ⟨i1,i2,i3⟩:=Gz L (Np t r p) (fun q hq=>hw q (by simp [hq])) hp2 (by rw [e,g2,hg]) (fun q hq=>by
   have hq1:=kQ (hw q (by simp [hq])).1
   rw [e,g3 _ (by omega) (fun h=>hp1 q hq h.symm)]
   exact hn q (by simp [hq]))
  rw [List.foldl_cons]
  refine ⟨i1,fun q hq=>?_,fun k hk2 hall=>?_⟩
  ·rcases List.mem_cons.1 hq with rfl | hq
   ·rw [i3 _ hk (fun q' hq' h=>hp1 q' hq' h.symm),e,g1]
   ·exact i2 q hq
  ·rw [i3 k hk2 (fun q hq=>hall q (by simp [hq])),e,g3 k hk2 (fun h=>hall p (by simp) h.symm)]
theorem zm {t:Tb} {p q:Int} (h:cK t p q=true):(az t p).2=true∧(az t q).2=true∧(az t p).1.group=(az t q).1.group∧(az t p).1.ring≠(az t q).1.ring:=by
 simp only [cK,Bool.and_eq_true,beq_iff_eq,bne_iff_ne] at h
 exact ⟨h.1.1.1,h.1.1.2,h.1.2,h.2⟩
theorem PO {t:Tb} {n:Nat} (g:TG t n) {e:Int} (he:Qf t n e) {p:Nat} (hp:p < 8) (h:tb e p=true):∃ k:Int,(k=0∨k=1)∧n9 t (Ks t e) k=p:=by
 have hm:=Bh hp h
 have hall:∀ q∈ep e,(az t q).2=true:=fun q hq=>g.wh q (he.2.1 q (kY hq) (qU hq))
 obtain ⟨p0,hf⟩:∃ p0,(ep e).head? = some p0:=by
  cases hs:ep e with
  | nil=>rw [hs] at hm; cases hm
  | cons a b=>exact ⟨a,rfl⟩
 have hm0:p0∈ep e:=List.mem_of_mem_head? hf
 have hfst:xj e=p0:=by rw [xj,hf]
 have hgrp:∀ q∈ep e,(az t q).1.group=(az t p0).1.group:=fun q hq=>by
  by_cases hne:q=p0
  ·rw [hne]
  ·exact (zm (he.2.2 q p0 (kY hq) (kY hm0) (qU hq) (qU hm0) hne)).2.2.1
 have hpw:(ep e).Pairwise (fun p q:Nat=>(az t p).1.ring≠(az t q).1.ring):=by
  refine List.Pairwise.imp_of_mem ?_ (Hv e)
  intro a b ha hb hne
  exact (zm (he.2.2 a b (kY ha) (kY hb) (qU ha) (qU hb) hne)).2.2.2
 have hw0:=kQ (hall p hm)
 have hk:(az t p).1.ring=0∨(az t p).1.ring=1:=by omega
 obtain ⟨a,b,_⟩:=Gz (ep e) ⟨(az t p0).1.group,-1,-1,false⟩ (fun q hq=>⟨hall q hq,hgrp q hq⟩) hpw rfl (fun q hq=>by
  have hq1:=kQ (hall q hq)
  have:(az t q).1.ring=0∨(az t q).1.ring=1:=by omega
  rcases this with h|h<;>rw [h]<;>exact (by decide:(-1:Int) < 0))
 refine ⟨(az t p).1.ring,hk,?_⟩
 rw [I9 hk,Ks,hfst,a,b p hm,← hgrp p hm]
 exact M4 (hall p hm)
theorem Qj {t:Tb} {n:Nat} (g:TG t n) {x:Pr} (h:0≤x.which∧x.which < (nR t:Int)):Eg t n (bz t x):=by
 rw [bz,if_pos h]
 have hl:x.which.toNat < (t.bA.getD []).length:=by have:nR t≤(t.bA.getD []).length:=Nat.min_le_left _ _; omega
 refine g.rl.2 _ ?_
 rw [Mw,List.getD_eq_getElem?_getD,List.getElem?_eq_getElem hl]
 exact List.getElem_mem hl
theorem S7 {t:Tb} {x:Pr} (h:0≤x.which∧x.which < (nR t:Int)):Py t x.which=(bz t x).exit:=by
 have:nR t≤(t.bA.getD []).length:=Nat.min_le_left _ _
 rw [Py,if_neg (by omega),bz,if_pos h]
theorem Ep {t:Tb} {n:Nat} (g:TG t n) {e:Int} (he:Qf t n e) {p q:Nat} (hp:p < 8) (hq:q < 8) (h1:tb e p=true) (h2:tb e q=true):tb (dr t p) q=false:=by
 cases hc:tb (dr t p) q with
 | false=>rfl
 | true =>
  obtain ⟨c1,c2⟩:=g.XA p q hp hq hc
  rw [he.2.2 p q hp hq h1 h2 c1] at c2; cases c2
theorem Na {t:Tb} {n:Nat} {s:bq} (g:TG t n) (I:SI t n s) (h5:s.pre.aq=5) (hl:gS t s.pre s.runs=0) :
  Gy t n s (jd t s.pre s.runs).start (jd t s.pre s.runs).fin (jd t s.pre s.runs).cut 0 (Ks t (Py t s.pre.which)):=by
 have hw:=I.pre.which (by rw [h5]; decide)
 have hg:=Qj g hw
 have hex:=S7 (t:=t) hw
 have hall:oE s.runs (cJ .i64 255 (bz t s.pre).exit)=true:=by
  unfold gS at hl
  split at hl
  ·rename_i h; simp only [Bool.and_eq_true] at h; exact h.1
  ·exact absurd hl (by decide)
 have hout:∀ q,q < 8→tb (bz t s.pre).exit q=false→cq (s.rn q)=true:=fun q hq h=>th.1 hall q hq (by rw [S3 hq,h]; rfl)
 have hst:∀ p,p < 8→tb (jd t s.pre s.runs).start p=(tb (bz t s.pre).exit p && cq (s.rn p)):=fun p hp=>by
  show tb (vu (bz t s.pre).exit fun p=>cq (aU s.runs p)) p=_
  rw [HO hp]; rfl
 have hz1:(jd t s.pre s.runs).fin=0:=by rw [jd]
 have hz2:(jd t s.pre s.runs).cut=0:=by rw [jd]
 rw [hex]
 refine ⟨fun p hp h=>?_,fun p q hp hq h h'=>?_,fun p _ h=>?_,fun p _ h=>?_,fun _ p hp h=>?_⟩
 ·rw [hst p hp,Bool.and_eq_true] at h
  refine ⟨h.2,hg.exit.1.2.1 p hp h.1,fun q hq hc=>?_⟩
  refine hout q hq ?_
  cases he:tb (bz t s.pre).exit q with
  | false=>rfl
  | true=>rw [Ep g hg.exit.1 hp hq h.1 he] at hc; cases hc
 ·rw [hst p hp,Bool.and_eq_true] at h
  rw [hst q hq,Bool.and_eq_true] at h'
  exact Ep g hg.exit.1 hp hq h.1 h'.1
 ·rw [hz1,fc] at h; cases h
 ·rw [hz2,fc] at h; cases h
 ·refine PO g hg.exit.1 hp ?_
  rcases h with h|h
  ·cases he:tb (bz t s.pre).exit p with
   | true=>rfl
   | false=>have:=hout p hp he; simp [cq,h.1] at this
  ·rw [hst p hp,Bool.and_eq_true] at h; exact h.1
theorem Nb {t:Tb} {n:Nat} {s:bq} (g:TG t n) {x:Pr} (hw:0≤x.which∧x.which < (nR t:Int)) (h1:1≤x.aq) (h6:x.aq < 6) (I:SI t n s) (rg:eG) :
  Gy t n s (nP t x s.runs x.aq).start (nP t x s.runs x.aq).fin (nP t x s.runs x.aq).cut x.aq rg:=by
 have hg:=Qj g hw
 have z:∀ p,tb (0:Int) p=true→False:=fun p h=>by rw [fc] at h; cases h
 have beg:∀ e:Int,Qf t n e→Gy t n s (Bq t s.runs e) 0 0 x.aq rg:=fun e he=>by
  have hb:∀ p,p < 8→tb (Bq t s.runs e) p=(tb e p && i5 t s.runs p):=fun p hp=>HO hp
  refine ⟨fun p hp h=>?_,fun p q hp hq h h'=>?_,fun p _ h=>(z p h).elim,fun p _ h=>(z p h).elim,fun h=>absurd h (by omega)⟩
  ·rw [hb p hp,Bool.and_eq_true] at h
   obtain ⟨a,_,b⟩:=B4 h.2
   exact ⟨a,he.2.1 p hp h.1,b⟩
  ·rw [hb p hp,Bool.and_eq_true] at h
   rw [hb q hq,Bool.and_eq_true] at h'
   exact Ep g he hp hq h.1 h'.1
 have e:x.aq=1∨x.aq=2∨x.aq=3∨x.aq=4∨x.aq=5:=by omega
 rcases e with e|e|e|e|e
 ·rw [e]
  exact ⟨fun p _ h=>(z p h).elim,fun p q _ _ h=>(z p h).elim,fun p _ _ _=>.inr (.inl rfl),fun p _ _=>.inl rfl,fun h=>absurd h (by decide)⟩
 ·have:=beg _ hg.clear
  rw [e] at this ⊢; exact this
 ·rw [e]
  exact ⟨fun p _ h=>(z p h).elim,fun p q _ _ h=>(z p h).elim,fun p _ _ _=>.inr (.inr rfl),fun p _ _=>.inr rfl,fun h=>absurd h (by decide)⟩
 ·have:=beg _ hg.gX.1
  rw [e] at this ⊢; exact this
 ·rw [e]
  refine ⟨fun p _ h=>(z p h).elim,fun p q _ _ h=>(z p h).elim,fun p hp h hc=>.inl ?_,fun p _ h=>(z p h).elim,fun h=>absurd h (by decide)⟩
  have hh:tb (vu (cJ .i64 255 (bz t x).exit) fun p=>To t p (aU s.runs p)) p=true:=h
  rw [HO hp,Bool.and_eq_true] at hh
  have hl:=hh.2
  simp only [To,Bool.and_eq_true,decide_eq_true_eq,Bool.not_eq_true',Bool.or_eq_false_iff,beq_eq_false_iff_ne] at hl
  have hf:=(I.run p hp).dR
  exact ⟨hl.1.2,by have:(s.rn p).fst≠1∧(s.rn p).fst≠2:=hl.2; omega⟩
theorem Nc {t:Tb} {n:Nat} {s:bq} (g:TG t n) (I:SI t n s) (x:BS):PI t (uy t s x).1∧Gy t n s (Gv t s x).start (Gv t s x).fin (Gv t s x).cut (uy t s x).1.aq (Ct t s x):=by
 obtain ⟨hp,h⟩:=M7 x.lines s.runs I.pre
 refine ⟨hp,?_⟩
 rw [show jB t s.pre x.lines s.runs=uy t s x from rfl] at *
 rcases h with ⟨h1,h2,h3⟩|⟨h1,h2,h3,h4⟩|⟨h1,h2,h3⟩
 ·have hf:(uy t s x).2.free=true:=by rw [h1]
  rw [Gv,Ct,hf,h3]
  exact S6 g I _ h2
 ·have hf:(uy t s x).2.free=false:=by rw [h1]; rfl
  have hb:(uy t s x).2.back=true:=by rw [h1]; rfl
  rw [Gv,Ct,hf,hb,h1,h3]
  exact Na g I h2 h4
 ·have fl:=HM t (uy t s x).1 s.runs (to:=(uy t s x).1.aq) (by omega)
  have hf:(uy t s x).2.free=false:=by rw [h3,fl.1]; simp; omega
  have hb:(uy t s x).2.back=false:=by rw [h3,fl.2]
  rw [Gv,Ct,hf,hb]
  have:=Nb g (hp.which (by omega)) h1 h2 I s.rings
  rw [← h3] at this
  exact this
theorem ur (t:Tb) (s:bq) (x:BS) {p:Nat} (hp:p < 8):(kn t s x).rn p=de (aO t p) (s.rn p) (oe t s x p):=by
 show (mH t s (oe t s x) 8).getD p default=_
 rw [mH,List.getD_eq_getElem?_getD,List.getElem?_map,List.getElem?_range hp]
 simp [hp]
theorem xA (t:Tb) (s:bq) (x:BS) {p:Nat} (hp:p < 8):(oe t s x p).start=tb (Gv t s x).start p∧(oe t s x p).fin=tb (Gv t s x).fin p∧(oe t s x p).cut=tb (Gv t s x).cut p:=⟨oB hp,oB hp,oB hp⟩
theorem GA {p:Ph} {r:Rn} {c:Cu} (h:cq r=true) (hs:c.start=false):cq (de p r c)=true:=by
 have:=((B3 p r c).red h hs).1
 simp [cq,this]
theorem B6 (t:Tb) {p:Nat} (hp:p < 8):(FD t).rn p=Ba (aO t p):=by
 show ((List.range 8).map fun (p:Nat)=>if p < 8 then Ba (aO t p) else default).getD p default=_
 rw [List.getD_eq_getElem?_getD,List.getElem?_map,List.getElem?_range hp]
 simp [hp]
theorem Nd {t:Tb} {n:Nat}:SI t n (FD t) where
 ok:=kX t
 safe:=fun p q hp _ _=>.inl (by rw [B6 t hp]; rfl)
 run:=fun p hp=>by
  rw [B6 t hp]
  exact ⟨by show (0:Int)≤0∧(0:Int)≤3; decide,by show (0:Int)≤0∧(0:Int)≤2; decide,fun _=>rfl,fun _=>rfl,fun h=>absurd (show (0:Int)=1 from h) (by decide)⟩
 off:=fun p hp _=>by rw [B6 t hp]; rfl
 pre:=⟨by show (0:Int)≤0∧(0:Int) < 6; decide,fun h=>absurd rfl h,fun _=>rfl⟩
 ring:=fun _ p hp h=>by rw [B6 t hp] at h; exact absurd (show (0:Int)=1 from h) (by decide)
theorem Er {t:Tb} {n:Nat} {s:bq} (g:TG t n) (I:SI t n s) (x:BS):SI t n (kn t s x):=by
  obtain ⟨hp,o⟩:=Nc g I x
  have nonred:∀ p,p < 8→cq ((kn t s x).rn p)=false→cq (s.rn p)=false∨tb (Gv t s x).start p=true:=fun p hp h=>by
    cases h1:cq (s.rn p) with
    | false=>exact .inl rfl
    | true =>
      cases h2:tb (Gv t s x).start p with
      | true=>exact .inr rfl
      | false =>
        rw [ur t s x hp,GA h1 (by rw [(xA t s x hp).1,h2])] at h; cases h
  refine ⟨M5 t s x,fun p q hp hq hc=>?_,fun p hp=>?_,fun p hp hn=>?_,hp,fun h0 p hp hc=>?_⟩
  · cases h1:cq ((kn t s x).rn p) with
    | true=>exact .inl rfl
    | false =>
      cases h2:cq ((kn t s x).rn q) with
      | true=>exact .inr rfl
      | false =>
        exfalso
        rcases nonred p hp h1 with a|a<;>rcases nonred q hq h2 with b|b
        · rcases I.safe p q hp hq hc with h | h
          · rw [a] at h; cases h
          · rw [b] at h; cases h
        · have:=(o.start q hq b).2.2 p hp (by rw [g.sym q p hq hp]; exact hc)
          rw [a] at this; cases this
        · have:=(o.start p hp a).2.2 q hq hc
          rw [b] at this; cases this
        · rw [o.two p q hp hq a b] at hc; cases hc
  · rw [ur t s x hp]
    exact PK _ (g.min hp) (I.run p hp)
  · rw [ur t s x hp]
    refine GA (I.off p hp hn) ?_
    rw [(xA t s x hp).1]
    cases h2:tb (Gv t s x).start p with
    | false=>rfl
    | true=>exact absurd (o.start p hp h2).2.1 (by omega)
  · refine o.ring h0 p hp ?_
    rw [ur t s x hp] at hc
    have po:=B3 (aO t p) (s.rn p) (oe t s x p)
    obtain ⟨b1,b2,_⟩:=xA t s x hp
    rcases qk (I.run p hp).col with ⟨e,er⟩|⟨e,er⟩|⟨e,er⟩|⟨e,er⟩
    · right
      rw [← b1]
      cases hs:(oe t s x p).start with
      | true=>rfl
      | false=>have:=(po.red er hs).1; omega
    · left
      refine ⟨e,?_⟩
      rw [← b2]
      cases hs:(oe t s x p).fin with
      | false=>rfl
      | true=>have:=(po.fin e hs).1; omega
    · have:=(po.cB e).2; omega
    · have:=(po.clear e).2; omega
theorem B7 {t:Tb} {n:Nat} (g:TG t n) (frs:List Fr):∀ i,SI t n (runT t frs i)
 | 0=>Nd
 | i + 1=>Er g (B7 g frs i) _
end Go.Eng
namespace Go.Eng
open Go
section
open Z
def gN (g0 g1 g2 g3 g4 g5 g6 g7 g8:Nat):bF:=⟨68,[.tmp 4],r [V 4 (F)] (r [M 11 0,o 12 (.call g0 [t 11]),o 5 (.alloc cj),n (s 5 12 131)] (r [M 13 1,o 14 (.call g1 [t 13,k (F)]),M 6 14] (r [o 15 (L 5 131),o 16 (.call g2 [t 15]),o 7 (.alloc bZ),n (s 7 16 117)] (r [o 17 (L 7 117),o 18 (.call g3 [t 17]),o 19 (.pL g4 33 [t 18]),M 8 19] (j (r [V 9 (i 0)] (u 0 (.loop (j (r [M 20 9,M 21 6,o 22 (h 21),o 23 (b .lss 20 22)] (c 23 z (.exit 0))) (j (u 1 (r [M 26 6,M 27 9,o 28 (a 26 27 6),o 29 (L 28 6),o 10 (.alloc [.bl,i 0,i 0,i 0,i 0,F]),n (s 10 29 6)] (r [o 30 (L 5 131),o 31 (L 7 117),o 32 (f 10 0),o 33 (l 32),o 34 (f 10 1),o 35 (l 34),o 36 (f 10 2),o 37 (l 36),o 38 (f 10 3),o 39 (l 38),o 40 (.build [.bl,i 0,i 0,i 0] [(0,1,t 33),(1,1,t 35),(2,1,t 37),(3,1,t 39)]),o 41 (.call g5 [t 30,t 31,t 40]),n (s 7 41 117)] (r [M 42 8,o 43 (L 7 117),o 44 (.call g3 [t 43]),o 45 (.pL g4 33 [t 44]),o 46 (.app g4 33 264 (t 42) (t 45)),M 8 46] (r [o 47 (L 5 131),M 48 8,M 49 9,o 50 (a 48 49 33),o 51 (L 50 33),M 52 8,M 53 9,o 54 (bb .add 53 (i 1)),o 55 (a 52 54 33),o 56 (L 55 33),o 57 (.call g6 [t 47,t 51,t 56]),o 58 (.un .not (t 57))] (c 58 (r [V 4 (F)] y) z)))))) (R [M 24 9,o 25 (bb .add 24 (i 1)),M 9 25])))))) (r [o 59 (L 5 131),M 60 8,o 61 (.call g7 [t 59,t 60]),M 62 8,o 63 (h 62),o 64 (b .eql 61 63),M 65 64,p 66 (.call g8 []) 65,o 67 (P 65 66),M 4 67] y))))))⟩
def gO (g0 g1 g2 g3 g4 g5 g6:Nat):bF:=⟨54,[.tmp 4],r [V 4 (F)] (r [M 13 0,o 14 (.call g0 [t 13]),o 5 (.alloc cj),n (s 5 14 131)] (r [M 15 1,o 16 (.call g1 [t 15,k (F)]),M 6 16] (r [o 17 (L 5 131),o 18 (.call g2 [t 17]),o 7 (.alloc bZ),n (s 7 18 117)] (r [o 8 (.alloc cH)] (j (r [V 9 (i 0)] (u 0 (.loop (j (r [M 19 9,M 20 6,o 21 (h 20),o 22 (b .lss 19 21)] (c 22 z (.exit 0))) (j (u 1 (r [M 25 6,M 26 9,o 27 (a 25 26 6),o 28 (L 27 6),o 10 (.alloc [.bl,i 0,i 0,i 0,i 0,F]),n (s 10 28 6)] (r [o 29 (L 5 131),o 30 (L 7 117),o 31 (f 10 0),o 32 (l 31),o 33 (f 10 1),o 34 (l 33),o 35 (f 10 2),o 36 (l 35),o 37 (f 10 3),o 38 (l 37),o 39 (.build [.bl,i 0,i 0,i 0] [(0,1,t 32),(1,1,t 34),(2,1,t 36),(3,1,t 38)]),o 40 (.call g3 [t 29,t 30,t 39]),n (s 7 40 117)] (r [o 42 (L 5 131),o 43 (L 8 16),o 44 (f 7 0),o 45 (L 44 96),o 46 (.call g4 [t 45]),o 47 (.call g5 [t 42,t 43,t 46]),M 41 47,o 48 (e 41 0),o 49 (e 41 1),o 11 (.alloc cH),n (s 11 48 16),M 12 49] (j (r [M 50 12,o 51 (bb .neq 50 (i 0))] (c 51 (r [V 4 (F)] y) z)) (R [o 52 (L 11 16),n (s 8 52 16)])))))) (R [M 23 9,o 24 (bb .add 23 (i 1)),M 9 24])))))) (r [o 53 (.call g6 []),M 4 53] y))))))⟩
def tO (g0:Nat):bF:=⟨17,[.cell 2 (some 8)],r [o 1 (w 0),o 2 (.alloc [i 0,i 0,i 0,i 0,i 0,i 0,i 0,i 0])] (r [o 3 (.alloc [i 0,i 0,i 0,i 0,i 0,i 0,i 0,i 0])] (j (r [o 6 (L 1 96),V 7 (i 0)] (u 0 (.loop (r [o 8 (bb .lss 7 (i 8))] (j (c 8 z (.exit 0)) (j (u 1 (r [M 9 7,o 10 (.Cx (t 6) (t 7) 8 12 (some 12)),o 5 (.alloc aN),M 4 9,n (s 5 10 12)] (R [M 11 4,o 12 (L 5 12),o 13 (.call g0 [t 12]),o 14 (A 3 11 8 1),n (s 14 13 1)]))) (R [o 15 (bb .add 7 (i 1)),M 7 15]))))))) (r [o 16 (L 3 8),n (s 2 16 8)] y)))⟩
def rB:bF:=⟨16,[.tmp 2],r [o 1 (w 0),V 2 (i 0)] (j (r [o 3 (f 1 0),o 4 (l 3)] (u 0 (r [o 6 (bb .eql 4 (i 1)),M 5 6] (c 5 (j (r [o 7 (f 1 2),o 8 (f 7 0),o 9 (l 8)] (u 1 (r [o 11 (bb .eql 9 (i 1)),M 10 11] (c 10 (r [V 2 (i 12)] y) (r [o 13 (bb .eql 9 (i 2)),M 12 13] (c 12 (r [V 2 (i 20)] y) z)))))) (r [V 2 (i 4)] y)) (r [o 15 (bb .eql 4 (i 2)),M 14 15] (c 14 (r [V 2 (i 2)] y) z)))))) (r [V 2 (i 1)] y))⟩
end
end Go.Eng
namespace Go.Eng
open Go
theorem XT (l:Option (List Int)):SX (bO l)≤1000000:=Nat.le_trans (VZ l).1 (by omega)
end Go.Eng
namespace Go.Eng
open Go
theorem B8 {f g:Nat→Int} {p:Nat} (hp:p < 8):(oD f g 8).getD p 0=f p:=by
 rw [oD,List.getD_eq_getElem?_getD,List.getElem?_map,List.getElem?_range hp]; simp [hp]
theorem Jc (s:bq) {p:Nat} (hp:p < 8):(j9 s).c p=(s.rn p).ax∧(j9 s).t p=(s.rn p).time∧(j9 s).f p=(s.rn p).fst∧(j9 s).ft p=(s.rn p).bw :=
 ⟨B8 (f:=fun p=>(s.rn p).ax) hp,B8 (f:=fun p=>(s.rn p).time) hp,B8 (f:=fun p=>(s.rn p).fst) hp,B8 (f:=fun p=>(s.rn p).bw) hp⟩
theorem GB {s:bq} (h:s.pre.aq=1∨s.pre.aq=3):vm s=true:=by
 rcases h with h|h<;>simp [vm,h]
theorem GC {t:Tb} {n:Nat} {s:bq} (g:TG t n) (I:SI t n s) (x:BS):dV t (j9 s) (j9 (kn t s x))=true:=by
  obtain ⟨hpi,o⟩:=Nc g I x
  have J:=Er g I x
  have hst:(kn t s x).pre.aq=(uy t s x).1.aq:=rfl
  rw [dV,List.all_eq_true]
  intro p hp
  have hp:=List.mem_range.1 hp
  obtain ⟨a1,a2,a3,a4⟩:=Jc s hp
  obtain ⟨b1,b2,b3,b4⟩:=Jc (kn t s x) hp
  have R:=I.run p hp
  have po:=B3 (aO t p) (s.rn p) (oe t s x p)
  rw [← ur t s x hp] at po
  obtain ⟨q1,q2,q3⟩:=xA t s x hp
  have hfr:=R.dR
  have hent:(j9 (kn t s x)).entry=vm (kn t s x):=rfl
  rw [Bool.and_eq_true]
  constructor
  · rw [kW,a1,a2,a3,b1,b2,hent]
    rcases qk R.col with ⟨e,er⟩|⟨e,er⟩|⟨e,er⟩|⟨e,er⟩
    · cases hs:(oe t s x p).start with
      | false =>
        obtain ⟨k1,k2,_⟩:=po.red er hs
        simp [e,k1,k2]
      | true =>
        obtain ⟨k1,k2,_⟩:=po.start er hs
        rw [q1] at hs
        obtain ⟨r1,r2,r3⟩:=o.start p hp hs
        have hf:y9 t (j9 s) (j9 (kn t s x)) p=true:=by
          rw [y9,List.all_eq_true]
          intro q hq
          simp only [List.mem_filter,List.mem_range] at hq
          have hr:=r3 q hq.1 hq.2
          obtain ⟨c1,_⟩:=Jc s hq.1
          obtain ⟨d1,_⟩:=Jc (kn t s x) hq.1
          have h0:(s.rn q).ax=0:=by
            rcases qk (I.run q hq.1).col with h|h|h|h
            · exact h.1
            · rw [h.2] at hr; cases hr
            · rw [h.2] at hr; cases hr
            · rw [h.2] at hr; cases hr
          have h1:cq ((kn t s x).rn q)=true:=by
            rcases J.safe p q hp hq.1 hq.2 with h|h
            · simp [cq,k1] at h
            · exact h
          have h2:¬ ((kn t s x).rn q).ax=1:=by intro h; simp [cq,h] at h1
          rw [vl,c1,d1,h0]
          simp [h2]
        simp [e,k1,k2,hf,g.on p hp,r2]
    · cases hs:(oe t s x p).fin with
      | false =>
        obtain ⟨k1,k2,_⟩:=po.green e hs
        simp [e,k1,k2]
      | true =>
        obtain ⟨k1,k2,_⟩:=po.fin e hs
        rw [q2] at hs
        rcases o.fin p hp hs e with ⟨m1,m2⟩|h
        · simp [e,k1,k2,m1,m2]
        · have:=GB (s:=kn t s x) (by rw [hst]; exact h)
          simp [e,k1,k2,this]
    · obtain ⟨_,h⟩:=po.cB e
      rcases h with ⟨m1,m2,m3⟩|⟨m1,m2,m3,m4⟩|⟨m1,m2,m3,m4⟩
      · simp [e,m2,m3,m1]
      · simp [e,m3,m4,m1,m2]
      · have hr:(aO t p).red=0:=by
          by_cases hn:p < n
          · have:=(g.ph p hn).red; omega
          · rw [g.off p hp (by omega)]; rfl
        simp [e,m3,m4,m1,hr]
    · obtain ⟨_,h⟩:=po.clear e
      rcases h with ⟨m1,m2,m3⟩|⟨m1,m2,m3⟩
      · simp [kW,e,m2,m3,m1]
      · simp [kW,e,m2,m3,m1]
  · rw [zb,a1,a3,b1,b3,b4]
    rw [show (decide ((s.rn p).fst < 0) || decide (2 < (s.rn p).fst))=false by simp; omega]
    simp only [Bool.false_eq_true,if_false]
    by_cases h1:((kn t s x).rn p).ax=1
    · have hne:(((kn t s x).rn p).ax != 1)=false:=by simp [h1]
      rw [hne]
      simp only [Bool.false_eq_true,if_false]
      by_cases h2:(s.rn p).ax=1
      · have hne2:((s.rn p).ax != 1)=false:=by simp [h2]
        rw [hne2]
        simp only [Bool.false_eq_true,if_false]
        have hs:(oe t s x p).fin=false:=by
          cases hs:(oe t s x p).fin with
          | false=>rfl
          | true=>have:=(po.fin h2 hs).1; omega
        obtain ⟨_,_,k3,k4⟩:=po.green h2 hs
        rw [FB,a3,a4,b3,b4,k3,k4,hent]
        rcases um (aO t p) (s.rn p) (oe t s x p) with ⟨x1,x2,x3⟩|⟨x1,x2,x3⟩|⟨x1,x2,x3⟩|⟨x1,x2,x3⟩|⟨x1,x2,x3⟩
        · rw [x1,x2]
          rcases x3 with x3|x3
          · simp [wC,x3]
          · rw [q3] at x3
            have:=GB (s:=kn t s x) (by rw [hst]; exact o.cut p hp x3)
            simp [wC,this]
        · rw [x1,x2]; simp [wC,x3]
        · rw [x1,x2]; simp [wC,x3]
        · rw [x1,x2]; simp [wC,x3]
        · have h0:(s.rn p).fst=0:=by omega
          have h00:=R.stop h0
          rcases x1 with x1|x1<;>rw [x1,h0,h00]<;>simp [wC]
      · have hne2:((s.rn p).ax != 1)=true:=by simp [h2]
        rw [hne2]
        simp only [if_true]
        have er:cq (s.rn p)=true:=by
          rcases qk R.col with ⟨e,er⟩|⟨e,er⟩|⟨e,er⟩|⟨e,er⟩
          · exact er
          · exact absurd e h2
          · have:=(po.cB e).2; omega
          · have:=(po.clear e).2; omega
        have hs:(oe t s x p).start=true:=by
          cases hs:(oe t s x p).start with
          | true=>rfl
          | false=>have:=(po.red er hs).1; omega
        rcases (po.start er hs).2.2.1 with ⟨y1,y2⟩|⟨y1,y2⟩<;>simp [y1,y2]
    · have hne:(((kn t s x).rn p).ax != 1)=true:=by simp [h1]
      rw [hne]
      simp only [if_true]
      have R2:=J.run p hp
      have f0:=R2.off h1
      simp [f0,R2.stop f0]
def uz (t:Tb) (frs:List Fr) (i:Nat):List Sh:=(List.range (i + 1)).map fun k=>j9 (runT t frs k)
theorem zP (t:Tb) (frs:List Fr) (i:Nat):(uz t frs i).length=i + 1:=by simp [uz]
theorem Nf (t:Tb) (frs:List Fr) (i:Nat):uz t frs (i + 1)=uz t frs i++[j9 (runT t frs (i + 1))]:=by simp [uz,List.range_succ]
theorem zQ {t:Tb} {frs:List Fr} {i k:Nat} (h:k≤i):(uz t frs i)[k]? = some (j9 (runT t frs k)):=by
 rw [uz,List.getElem?_map,List.getElem?_range (by omega)]; rfl
theorem Ng {t:Tb} {n:Nat} (g:TG t n) (frs:List Fr) (i:Nat):wF t (uz t frs i)=i + 1:=by
 rw [← zP t frs i]
 refine CV fun j h1 h2=>?_
 rw [zP] at h2
 rw [List.getD_eq_getElem?_getD,List.getD_eq_getElem?_getD,zQ (by omega),zQ (by omega)]
 obtain ⟨k,rfl⟩:∃ k,j=k + 1:=⟨j - 1,by omega⟩
 exact GC g (B7 g frs k) _
def zR.Spec (C:aZ) (f:Nat):Prop:=∀ l sc:Option (List Int),C.c f [aG aC l,aG aC sc] (B true) none
section
variable {P:Program} (hm:P.follows .mixedOrders=true) {f:Nat}
include hm
theorem zR.ok {fT fC fB fO e fS fA fR fw:Nat} (hc:aE P f=some (gN fT fC fB fO e fS fA fR fw)) (hT:Table.Spec (Pure P) fT) (hC:yz.Spec (Pure P) fC) (hB:zH.Spec (Pure P) fB) (hO:Mi.Spec (Pure P) fO) (hS:yx.Spec (Pure P) fS) (hA:kI.Spec (Pure P) fA) (hR:J9.Spec (Pure P) fR) (hw:wG.Spec (Pure P) fw):zR.Spec (Pure P) f:=by
 intro l sc
 have hg0:=Qi l
 obtain ⟨t,ht0⟩:∃ t,bO l=t:=⟨_,rfl⟩
 obtain ⟨fo,hf0⟩:∃ x,bX (mN false (sc.getD []))=x:=⟨_,rfl⟩
 have hf1:fo.getD []=mN false (sc.getD []):=by rw [← hf0,bU]
 have ht:t.Ok:=by rw [← ht0]; exact u7 l
 have hfw:t.Fw:=by rw [← ht0]; exact FQ l
 have hnd:SX t≤1000000:=by rw [← ht0]; exact XT l
 have hfew:WD (fo.getD []):=by rw [hf1]; exact BY _ _
 have hfl:(fo.getD []).length≤1500:=by rw [hf1]; exact BZ _ _
 have cT:=hT l
 rw [ht0] at cT hg0
 have cC:=hC sc false
 rw [hf0] at cC
 have htl:=Tb.len ht
 have hp:=Tb.whole ht
 have hz1:setCells cj 0 t.cells=t.cells:=cz (by rw [htl]; rfl)
 have hz1l:cj.length=131:=rfl
 have hz2l:bZ.length=117:=rfl
 have hz2:∀ u v:bq,u.Ok→v.Ok→setCells bZ 0 u.cells=u.cells∧setCells v.cells 0 u.cells=u.cells:=fun u v hu hv=>⟨cz (by rw [bq.len hu]; rfl),cz (by rw [bq.len hu,bq.len hv])⟩
 have hok:=I8 t (fo.getD [])
 have hzb:=(hz2 _ _ (kX t) (kX t)).1
 have hbl:=bq.len (kX t)
 have hbw:=bq.whole (kX t)
 have hsi:=B7 hg0 (fo.getD [])
 have hall:=fun i=>Ng hg0 (fo.getD []) i
 have sl:=fun s=>Sh.len (qT s)
 have sm:∀ i,∀ s∈uz t (fo.getD []) i,s.Ok:=fun i s hs=>by
  simp only [uz,List.mem_map] at hs
  obtain ⟨k,_,rfl⟩:=hs
  exact qT _
 clear ht0 hf0 hf1
 generalize nT l=n at *
 refine ak hm hc (by show 2≤68; decide) (aj (keep:=[]) (i:=0) ?_)
 try simp only [I,B,D,RY,↓ KW,seval,gN,Z.H,htl,hp,hz1,hz1l,hz2l]
 refine af cT ?_
 try simp only [I,B,D,RY,↓ KW,seval,htl,hp,hz1,hz1l,hz2l]
 refine af cC ?_
 try simp only [I,B,D,RY,↓ KW,seval,htl,hp,hz1,hz1l,hz2l]
 refine af (hB t ht.ln) ?_
 try simp only [I,B,D,RY,↓ KW,seval,hzb,hbl,hbw,htl,hp,hz1,hz1l,hz2l]
 refine af (hO _ (kX t)) ?_
 try simp only [I,B,D,RY,↓ KW,seval,sl,htl,hp,hz1,hz1l,hz2l]
 refine aF (fun i:Nat=>(⟨[(9,.dat (I i) none),(5,.ptr 7 0),(6,.dat (aG Fr.cells fo) none),(7,.ptr 14 0),(8,.dat (.sl ((uz t (fo.getD []) i).map Sh.cells)) (some 0))],[(7,⟨t.cells,[]⟩),(14,⟨(runT t (fo.getD []) i).cells,[]⟩)],[(0,e)],400⟩:S)) (fun i=>1500 - i) (fun i=>i≤(fo.getD []).length) ?_ 0 (by omega) ?_
 rotate_left
 ·refine ai (by decide) ?_ ?_ ?_ ?_<;>simp [LX,I,B,D,runT,hzb,uz,List.range_succ]
 intro i hi A back
 have hwr:=aD (k:=i) (by omega)
 have hrun:runT t (fo.getD []) (i + 1)=kn t (runT t (fo.getD []) i) ((fo.getD []).getD i default).Tx:=rfl
 have c1:=BX t (fo.getD []) hnd i
 have o1:=hok i
 have o2:=hok (i + 1)
 have I1:=hsi i
 have L:=zP t (fo.getD []) i
 try simp only [I,B,D,RY,↓ KW,seval]
 rcases bc (decide ((i:Int) < ((fo.getD []).length:Int))) with h|h
 ·have cR:=hR t (some (uz t (fo.getD []) i)) ht.ln (sm i) (by simp only [Option.getD_some]; omega)
  simp only [Option.getD_some,aJ] at cR
  rw [hall i] at cR
  generalize uz t (fo.getD []) i=q at *
  have hb:(((i + 1:Nat):Int) == ((i + 1:Nat):Int))=true:=by simp
  try simp only [I,B,D,RY,↓ KW,seval,h,htl,hp,hz1,hz1l,hz2l]
  refine af cR ?_
  try simp only [I,B,D,RY,↓ KW,seval,L,hb,List.length_map,htl,hp,hz1,hz1l,hz2l]
  refine af hw ?_
  try simp only [I,B,D,RY,↓ KW,seval,L,hb,List.length_map,htl,hp,hz1,hz1l,hz2l]
 ·have h1:i < (fo.getD []).length:=by have:=of_decide_eq_true h; omega
  obtain ⟨x,hx⟩:∃ x,(fo.getD [])[i]? = some x:=⟨_,List.getElem?_eq_getElem h1⟩
  have hxd:(fo.getD []).getD i default=x:=by rw [List.getD_eq_getElem?_getD,hx]; rfl
  have hxf:=hfew x (List.mem_of_getElem? hx)
  have hy:0≤(i:Int)∧(i:Int) < ((fo.getD []).length:Int):=by omega
  have hq:x.cells.length=6∧aB x.cells 0 (some 6)=some (.agg x.cells)∧x.cells[0]? = some (aG iR x.samples)∧x.cells[1]? = some (I x.push)∧x.cells[2]? = some (I x.ask)∧x.cells[3]? = some (I x.lines):=⟨rfl,rfl,rfl,rfl,rfl,rfl⟩
  have hst:∀ q,jh (aG iR x.samples) q=true:=by intro q; cases x.samples<;>rfl
  have hsc:(aG iR x.samples).cells=[aG iR x.samples]:=by cases x.samples<;>rfl
  have hz6:setCells [AV.bl,.int .i64 0,.int .i64 0,.int .i64 0,.int .i64 0,.bool false] 0 x.cells=x.cells:=rfl
  rw [hxd] at hrun
  have cS:=hS t (runT t (fo.getD []) i) x.Tx ht hfw hnd o1 c1 hxf
  rw [← hrun] at cS
  have cS:(Pure P).c fS [.agg t.cells,.agg (runT t (fo.getD []) i).cells,.agg [aG iR x.samples,I x.push,I x.ask,I x.lines]] (.agg (runT t (fo.getD []) (i + 1)).cells) none:=cS
  have hal:dV t (j9 (runT t (fo.getD []) i)) (j9 (runT t (fo.getD []) (i + 1)))=true:=by rw [hrun]; exact GC hg0 I1 _
  have cA:=hA t (j9 (runT t (fo.getD []) i)) (j9 (runT t (fo.getD []) (i + 1))) ⟨ht.ln,qT _,qT _⟩
  rw [hal] at cA
  have hn:=Nf t (fo.getD []) i
  have g0:=zQ (t:=t) (frs:=fo.getD []) (i:=i + 1) (k:=i) (by omega)
  have g1:=zQ (t:=t) (frs:=fo.getD []) (i:=i + 1) (k:=i + 1) (by omega)
  have L2:=zP t (fo.getD []) (i + 1)
  have sm1:=sm i
  generalize hs1:runT t (fo.getD []) i=s1 at *
  generalize hs2:runT t (fo.getD []) (i + 1)=s2 at *
  generalize hq1:uz t (fo.getD []) i=q1 at *
  generalize hq2:uz t (fo.getD []) (i + 1)=q2 at *
  have r1:=bq.len o1
  have r2:=bq.len o2
  have r3:=bq.whole o1
  have r4:=bq.whole o2
  have r5:=(hz2 s2 s1 o2 o1).2
  have hap:q1.map Sh.cells++[(j9 s2).cells]=q2.map Sh.cells:=by rw [hn]; simp
  have sw:∀ s,aB (j9 s).cells 0 (some 33)=some (.agg (j9 s).cells)∧(j9 s).cells.take 33=(j9 s).cells:=fun s=>by
   have:=sl s
   simp [aB,this]
   rw [← this,List.take_length]
  have gg0:(q2.map Sh.cells)[i]? = some (j9 s1).cells:=by rw [List.getElem?_map,g0]; rfl
  have gg1:(q2.map Sh.cells)[i + 1]? = some (j9 s2).cells:=by rw [List.getElem?_map,g1]; rfl
  have hy2:0≤(i:Int)∧(i:Int) < ((i + 1 + 1:Nat):Int):=by omega
  have hy3:0≤((i + 1:Nat):Int)∧((i + 1:Nat):Int) < ((i + 1 + 1:Nat):Int):=by omega
  try simp only [I,B,D,RY,↓ KW,seval,h,hx,hy,hq,hst,hsc,hz6,r1,r2,r3,r4,r5,sl,hwr,htl,hp,hz1,hz1l,hz2l]
  refine af cS ?_
  try simp only [I,B,D,RY,↓ KW,seval,hx,hy,hq,hst,hsc,hz6,r1,r2,r3,r4,r5,sl,hwr,htl,hp,hz1,hz1l,hz2l]
  refine af (hO s2 o2) ?_
  try simp only [I,B,D,RY,↓ KW,seval,hx,hy,hq,hst,hsc,hz6,r1,r2,r3,r4,r5,sl,hwr,htl,hp,hz1,hz1l,hz2l]
  have hl2:(q2.map Sh.cells).length=i + 1 + 1:=by rw [List.length_map,L2]
  refine ⟨by omega,fun j hj=>Sh.len (sm1 j hj),by rw [hap,hl2]; omega,?_⟩
  try simp only [I,B,D,RY,↓ KW,seval,hap,gg0,gg1,hl2,hy2,hy3,sw,hx,hy,hq,hst,hsc,hz6,r1,r2,r3,r4,r5,sl,hwr,htl,hp,hz1,hz1l,hz2l]
  refine af cA ?_
  try simp only [I,B,D,RY,↓ KW,seval,hap,gg0,gg1,hl2,hy2,hy3,sw,hx,hy,hq,hst,hsc,hz6,r1,r2,r3,r4,r5,sl,hwr,htl,hp,hz1,hz1l,hz2l]
  refine back (i + 1) _ (by omega) (by omega) ?_
  refine ai (by decide) ?_ ?_ ?_ ?_<;>simp [LX,I,B,D,hs2,hq2,hap]
end
end Go.Eng
