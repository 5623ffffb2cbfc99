/- The engine and the library,part 16 of 18: what the proofs of this seat need of them. -/
import Derived.Test.YthoinfdfenkgnaaGreatPk15
set_option linter.unnecessarySimpa false
set_option linter.unusedSimpArgs false
set_option linter.unusedVariables false
set_option linter.defProp false
set_option maxRecDepth 10000
set_option maxHeartbeats 4000000
namespace Go.Eng
open Go
structure Fr where
 samples:Option (List (Option Nat))
 push:Int
 ask:Int
 lines:Int
 iU:Int
 reset:Bool
 deriving Inhabited
def Fr.cells(x:Fr):List AV:=[aH iZ x.samples,I x.push,I x.ask,I x.lines,I x.iU,B x.reset]
def c20:Nat:=4626322717216342016
def f20:Option Nat->Option Nat
 |none=>none
 |some x=>DF.sub c20 x
theorem ZY(x:Option Nat):dZ .sub (.float .f64 4626322717216342016) (fv x)=some (fv (f20 x)):=by
 cases x with
 |none=>rfl
 |some x=>
  show IB .f64 (DF.sub c20 x)=some (fv (DF.sub c20 x))
  cases DF.sub c20 x<;>rfl
theorem As(x:Option Nat) (q:Option Nat):ig (fv x) q=true:=by cases x<;>rfl
theorem lC(x:Option Nat):(fv x).cells=[fv x]:=by cases x<;>rfl
def six:List (Option Nat):=[none,some 9218868437227405312,some 9223372036854775808,some 4613937818241073152,some 4711630319722168320,some 4604930618986332160]
structure Sc where
 xs:List (Option Nat)
 DT:Nat
 ask:Int
 lines:Int
 deriving Inhabited
structure On where
 n:Nat
 push:Int
 lines:Int
 iU:Int
 reset:Bool
 deriving Inhabited
def gF(v:Nat):Nat:=v/16%64
def OT(v:Nat):Nat:=1+v/1024%30
def pT(v:Nat):On:=⟨OT v,0,0,0,false⟩
def V1(k:Nat):Int:=IntKind.i64.wrap (256*2^min k IntKind.i64.bits)
def iy(wild:Bool) (v:Nat) (c:Sc):Sc×On:=
 if v%16<3 then({c with xs:=c.xs.set (gF v%16) (f20 (c.xs.getD (gF v%16) none))},pT v)
 else if v%16=3 then({c with xs:=c.xs.set (gF v%16) (six.getD (gF v%6) none)},pT v)
 else if v%16<6 then(c,{pT v with push:=(v/1024%256:Nat)})
 else if v%16=6 then({c with ask:=GW .i64 c.ask (2^(gF v%4))},pT v)
 else if v%16=7 then(c,{pT v with lines:=2^(gF v%4)})
 else if v%16=8 then({c with lines:=GW .i64 c.lines (2^(gF v%4))},pT v)
 else if v%16=9 then(c,{pT v with n:=OT v*6})
 else if v%16=10 then({c with xs:=List.replicate 16 (some (FloatKind.f64.nearest (gF v%2*20:Nat)))},pT v)
 else if v%16=11 then({c with DT:=gF v%17},pT v)
 else if v%16=12 then({c with DT:=16,lines:=0},pT v)
 else if v%16=13 then(c,{pT v with push:=if wild&&gF v%4==0 then V1 (gF v)else 0,iU:=if wild&&gF v%4==1 then(v/1024%256:Nat)else 0,reset:=wild&&gF v%2==0})
 else(c,pT v)
def oD(c:Sc) (o:On) (j:Nat):Fr:=
 ⟨dH (c.xs.take c.DT),if j=0 then o.push else 0,c.ask,if j=0 then yE .i64 c.lines o.lines else c.lines,if j=0 then o.iU else 0,if j=0 then o.reset else false⟩
def Di(c:Sc) (o:On) (out:List Fr):List Fr:=out++(List.range (min o.n (1500-out.length))).map (oD c o)
def KK(wild:Bool) (v:Nat) (x:Sc×List Fr):Sc×List Fr:=((iy wild v x.1).1,Di (iy wild v x.1).1 (iy wild v x.1).2 x.2)
def V2(l:List Int) (i:Nat):Nat:=(place (l.getD i 0) 1099511627776).toNat
def jd(wild:Bool) (l:List Int):Nat->Sc×List Fr
 |0=>(⟨List.replicate 16 (some 0),16,0,0⟩,[])
 |i+1=>if(jd wild l i).2.length<1500 then KK wild (V2 l i) (jd wild l i)else jd wild l i
def qH(wild:Bool) (l:List Int):List Fr:=(jd wild l (min l.length 120)).2
structure Sc.Ok (c:Sc):Prop where
 xs:c.xs.length=16
 DT:c.DT<=16
theorem KL(v:Nat):v%16=0\/v%16=1\/v%16=2\/v%16=3\/v%16=4\/v%16=5\/v%16=6\/v%16=7\/v%16=8\/v%16=9\/v%16=10\/v%16=11\/v%16=12\/v%16=13\/v%16=14\/v%16=15:=by omega
theorem F7{wild:Bool} {v:Nat} {c:Sc} (h:c.Ok):(iy wild v c).1.Ok/\(iy wild v c).2.n<=180:=by
 have hn:OT v<=30:=by unfold OT;omega
 have hf:=h.DT
 have hx:=h.xs
 rcases KL v with e|e|e|e|e|e|e|e|e|e|e|e|e|e|e|e<;>
  exact⟨⟨by simp[iy,e,hx],by simp[iy,e,hf];try omega⟩,by simp[iy,e,pT];omega⟩
theorem JB{c:Sc} {o:On} {out:List Fr} (h:out.length<=1500):(Di c o out).length<=1500:=by simp[Di];omega
theorem A5(wild:Bool) (l:List Int):∀i,(jd wild l i).1.Ok/\(jd wild l i).2.length<=1500
 |0=>⟨⟨by simp[jd],by simp[jd]⟩,by simp[jd]⟩
 |i+1=>by
  have ih:=A5 wild l i
  rw[jd];split
  ·exact⟨(F7 ih.1).1,JB ih.2⟩
  ·exact ih
theorem ER{wild:Bool} {l:List Int} {i:Nat} (h:¬(jd wild l i).2.length<1500):∀j,jd wild l (i+j)=jd wild l i
 |0=>rfl
 |j+1=>by rw[<-Nat.add_assoc,jd,ER h j,if_neg h]
theorem JC{wild:Bool} {l:List Int} {i:Nat} (hi:i<=min l.length 120) (h:i=min l.length 120\/¬(jd wild l i).2.length<1500):(jd wild l i).2=qH wild l:=by
 rcases h with h|h
 ·rw[h];rfl
 ·have:=ER h (min l.length 120-i)
  rw[show i+(min l.length 120-i)=min l.length 120 by omega]at this
  rw[qH,this]
theorem R5(l:List Int) (i:Nat):(V2 l i:Int)=place (l.getD i 0) 1099511627776/\V2 l i<1099511627776:=by
 have h:0<=place (l.getD i 0) 1099511627776/\place (l.getD i 0) 1099511627776<1099511627776:=by
  generalize l.getD i 0=v
  have h1:=Int.tmod_lt_of_pos v (b:=1099511627776) (by omega)
  have h2:-1099511627776<v.tmod 1099511627776:=by
   have:=Int.lt_tmod_of_pos v (b:=1099511627776) (by omega)
   omega
  unfold place;split
  ·have:dS (v.tmod 1099511627776+1099511627776)=v.tmod 1099511627776+1099511627776:=aW (by omega) (by omega)
   rw[this];omega
  ·omega
 unfold V2;omega
theorem ZZ{xs:List (Option Nat)} {k:Nat} (h:k<xs.length):(xs.map fv)[k]? =some (fv (xs.getD k none)):=by
 simp[List.getD_eq_getElem?_getD,h]
theorem OU{xs:List (Option Nat)} {k:Nat} {x:Option Nat} (h:k<xs.length):setCells (xs.map fv) k [fv x]=(xs.set k x).map fv:=by
 rw[setCells,List.map_set,List.set_eq_take_append_cons_drop,if_pos (by simpa using h)]
 simp
theorem ES:∀(n:Nat) (xs:List (Option Nat)),n<=xs.length->dB 1 n (xs.map fv)=(xs.take n).map iZ
 |0,_,_=>rfl
 |n+1,x::xs,h=>by
  have:=ES n xs (by simpa using h)
  simp[dB,this,iZ]
 |n+1,[],h=>by simp at h
theorem KM{α:Type} (f:α->List AV) (q:List α) (t:Nat):Lh (some (bG f q t))=some (aH f (dH q)):=by unfold bG dH;split<;>rfl
theorem KN{α:Type} (f:α->List AV) (q:List α):Ay (aH f (dH q))=some (I q.length):=by unfold dH;split<;>simp_all [aH,Ay]
theorem R6{α:Type} (f:α->List AV) (q:List α) (t:Nat):an (QH (some (bG f q t))) fun p=>p.1=aH f (dH q):=by unfold bG dH;split<;>rfl
def IF(xs:List (Option Nat)) (w d:Nat):List (Option Nat):=List.replicate d (some w)++xs.drop d
theorem R7{xs:List (Option Nat)} (w:Nat) {d:Nat} (h:d<xs.length):(IF xs w d).set d (some w)=IF xs w (d+1):=by
 rw[IF,List.set_append,if_neg (by simp)]
 simp only[List.length_replicate,Nat.sub_self]
 have e:xs.drop d=xs[d]::xs.drop (d+1):=List.drop_eq_getElem_cons h
 rw[e,List.set_cons_zero,IF];simp[List.replicate_succ',List.append_assoc]
theorem R8{xs:List (Option Nat)} (w:Nat) {d:Nat} (h:d<=xs.length):(IF xs w d).length=xs.length:=by simp[IF];omega
theorem R9{xs:List (Option Nat)} (w:Nat):IF xs w xs.length=List.replicate xs.length (some w):=by simp[IF]
theorem OV(xs:List (Option Nat)) (w:Nat):IF xs w 0=xs:=by simp[IF]
def yy(c:Sc):List AV:=[.aL,I 0,I c.ask,I c.lines,I 0,B false]
def vA(o:On):List AV:=[.aL,I o.push,I 0,I o.lines,I o.iU,B o.reset]
def Dj.Spec(C:aS) (f:Nat):Prop:=∀(l:Option (List Int)) (wild:Bool),C.c f [aH aD l,B wild] (aH Fr.cells (dH (qH wild (l.getD [])))) none
def OW.Spec(C:aS) (f:Nat):Prop:=C.c f [I 1] (Fl 9218868437227405312) none
def OX.Spec(C:aS) (f:Nat):Prop:=C.c f [Fl 0,Fl 13830554455654793216] (Fl 9223372036854775808) none
section
variable{P:Program} (hm:P.follows .mixedOrders=true) {f:Nat}
include hm
theorem OW.ok(hc:bF P f=some Ap):OW.Spec (Pure P) f:=by
 show(Pure P).c f _ _ none
 refine ak hm hc (by show 1<=8;decide) (aj (keep:=[]) (i:=0) ?_)
 try simp only[I,B,D,RX,↓KW,seval,Ap,Z.H]
 try rfl
theorem OX.ok(hc:bF P f=some pS):OX.Spec (Pure P) f:=by
 show(Pure P).c f _ _ none
 refine ak hm hc (by show 2<=13;decide) (aj (keep:=[]) (i:=0) ?_)
 try simp only[I,B,D,RX,↓KW,seval,pS,Z.H]
 try rfl
theorem Dj.ok {fP fN fI fC e e2:Nat} (hc:bF P f=some (lS fP fN fI fC e e2)) (hP:Place.Spec (Pure P) fP) (hN:Mb.Spec (Pure P) fN) (hI:OW.Spec (Pure P) fI) (hC:OX.Spec (Pure P) fC):Dj.Spec (Pure P) f:=by
  intro l wild
  refine ak hm hc (by show 2≤200; decide) (aj (keep:=[3]) (i:=0) ?_)
  try simp only [I,B,D,RX,↓ KW,seval,lS,Z.H]
  refine aG (fun i:Nat=>(⟨[(9,.dat (I i) none),(0,.dat (aH aD l) none),(1,.dat (B wild) none),(5,bG Fr.cells (jd wild (l.getD []) i).2 0),(6,.ptr 6 0),(7,.dat (I (jd wild (l.getD []) i).1.DT) none),(8,.ptr 9 0)],[(6,⟨(jd wild (l.getD []) i).1.xs.map fv,[]⟩),(9,⟨yy (jd wild (l.getD []) i).1,[]⟩)],bK (jd wild (l.getD []) i).2 0 e2,400⟩:S)) (fun i=>120 - i) (fun i=>i≤min (l.getD []).length 120) ?_ 0 (by omega) ?_
  rotate_left
  · refine ai (by decide) ?_ ?_ ?_ ?_<;>simp [LX,I,B,D,jd,yy,EM,fv,List.replicate]
  intro i hi A back
  have hwr:=aB (k:=i) (by omega)
  have hok:=A5 wild (l.getD []) i
  have hend:=JC (wild:=wild) (l:=l.getD []) (i:=i) (by omega)
  have hnx:jd wild (l.getD []) (i + 1)=if (jd wild (l.getD []) i).2.length < 1500 then KK wild (V2 (l.getD []) i) (jd wild (l.getD []) i) else jd wild (l.getD []) i:=rfl
  generalize hx:jd wild (l.getD []) i=x at *
  obtain ⟨c,out⟩:=x
  simp only at hok hend hnx
  have hda:Lh (some (bG Fr.cells out 0))=some (aH Fr.cells (dH out)):=KM ..
  have hln:Ay (aH Fr.cells (dH out))=some (I out.length):=KN ..
  have hfin:∀ r,out=r→an (QH (some (bG Fr.cells out 0))) fun p=>p.1=aH Fr.cells (dH r):=by
    intro r hr; subst hr; exact R6 ..
  try simp only [I,B,D,RY,↓ KW,seval,hda,hln]
  rcases bc (decide ((i:Int) < ((l.getD []).length:Int))) with h1|h1
  · try simp only [I,B,D,RY,↓ KW,seval,h1,hda,hln]
    exact hfin _ (hend (.inl (by have:=of_decide_eq_false h1; omega)))
  rcases bc (decide ((i:Int) < 120)) with h2|h2
  · try simp only [I,B,D,RY,↓ KW,seval,h1,h2,hda,hln]
    exact hfin _ (hend (.inl (by have:=of_decide_eq_false h2; omega)))
  rcases bc (decide ((out.length:Int) < 1500)) with h3|h3
  · try simp only [I,B,D,RY,↓ KW,seval,h1,h2,h3,hda,hln]
    exact hfin _ (hend (.inr (by have:=of_decide_eq_false h3; omega)))
  have a1:=of_decide_eq_true h1
  have a2:=of_decide_eq_true h2
  have a3:=of_decide_eq_true h3
  rw [if_pos (by omega)] at hnx
  obtain ⟨y,hy⟩:∃ y,(l.getD [])[i]? = some y:=⟨_,List.getElem?_eq_getElem (by omega)⟩
  have hyd:(l.getD []).getD i 0=y:=by rw [List.getD_eq_getElem?_getD,hy]; rfl
  have hv:=R5 (l.getD []) i
  rw [hyd] at hv
  obtain ⟨v,hve⟩:∃ v,V2 (l.getD []) i=v:=⟨_,rfl⟩
  rw [hve] at hv hnx
  have hb:0≤(i:Int)∧(i:Int) < ((l.getD []).length:Int):=by omega
  have cP:=hP y 1099511627776 (by omega)
  rw [← hv.1] at cP
  have n1:IntKind.i64.wrap ((v:Int).tdiv 16)=((v / 16:Nat):Int):=by rw [show (v:Int).tdiv 16=((v / 16:Nat):Int) from rfl,aW (by omega) (by omega)]
  have n2:((v / 16:Nat):Int).tmod 64=((gF v:Nat):Int):=rfl
  have n3:IntKind.i64.wrap ((v:Int).tdiv 1024)=((v / 1024:Nat):Int):=by rw [show (v:Int).tdiv 1024=((v / 1024:Nat):Int) from rfl,aW (by omega) (by omega)]
  have n4:IntKind.i64.wrap (1 + ((v / 1024:Nat):Int).tmod 30)=((OT v:Nat):Int):=by rw [show ((v / 1024:Nat):Int).tmod 30=((v / 1024 % 30:Nat):Int) from rfl,aW (by omega) (by omega)]; rfl
  have n5:(v:Int).tmod 16=((v % 16:Nat):Int):=rfl
  try simp only [I,B,D,RY,↓ KW,seval,h1,h2,h3,hy,hb,aD,hda,hln]
  refine af cP ?_
  try simp only [I,B,D,RY,↓ KW,seval,n1,n2,n3,n4,n5,hda,hln]
  apply ZW (fun y:Sc × On=>(⟨[(9,.dat (I i) none),(0,.dat (aH aD l) none),(1,.dat (B wild) none),(5,bG Fr.cells out 0),(6,.ptr 6 0),(7,.dat (I y.1.DT) none),(8,.ptr 9 0),(12,.dat (I y.2.n) none),(13,.ptr 429 0)],[(6,⟨y.1.xs.map fv,[]⟩),(9,⟨yy y.1,[]⟩),(429,⟨vA y.2,[]⟩)],bK out 0 e2,500⟩:S)) (fun y=>y=iy wild v c)
  · intro back2
    have hxl:=hok.1.xs
    have n3':(v:Int).tdiv 1024=((v / 1024:Nat):Int):=rfl
    have m16:((gF v:Nat):Int).tmod 16=((gF v % 16:Nat):Int):=rfl
    have m6:((gF v:Nat):Int).tmod 6=((gF v % 6:Nat):Int):=rfl
    have m4:((gF v:Nat):Int).tmod 4=((gF v % 4:Nat):Int):=rfl
    have m2:((gF v:Nat):Int).tmod 2=((gF v % 2:Nat):Int):=rfl
    have m17:((gF v:Nat):Int).tmod 17=((gF v % 17:Nat):Int):=rfl
    have m256:((v / 1024:Nat):Int).tmod 256=((v / 1024 % 256:Nat):Int):=rfl
    have x16:c.xs[gF v % 16]? = some (c.xs.getD (gF v % 16) none):=by rw [List.getD_eq_getElem?_getD,List.getElem?_eq_getElem (by omega)]; rfl
    have x6:([.eM,.float .f64 9218868437227405312,.float .f64 9223372036854775808,.float .f64 4613937818241073152,.float .f64 4711630319722168320,.float .f64 4604930618986332160]:List AV)[gF v % 6]? = some (fv (six.getD (gF v % 6) none)):=ZZ (xs:=six) (by show gF v % 6 < 6; omega)
    have sb:=ZY (c.xs.getD (gF v % 16) none)
    have st:=fun x=>OU (xs:=c.xs) (k:=gF v % 16) (x:=x) (by omega)
    have b16:0≤((gF v % 16:Nat):Int)∧((gF v % 16:Nat):Int) < 16:=by omega
    have b6:0≤((gF v % 6:Nat):Int)∧((gF v % 6:Nat):Int) < 6:=by omega
    have le16:gF v % 16 + 1≤c.xs.length:=by omega
    have hz6:setCells [.aL,.int .i64 0,.int .i64 0,.int .i64 0,.int .i64 0,.bool false] 0 [.aL,.int .i64 0,.int .i64 0,.int .i64 0,.int .i64 0,.bool false]=vA (pT v):=rfl
    have sf:∀ (c:Sc) (x:Int),(yy c).length=6∧(yy c)[2]? = some (I c.ask)∧(yy c)[3]? = some (I c.lines)∧setCells (yy c) 2 [I x]=yy { c with ask:=x }∧setCells (yy c) 3 [I x]=yy { c with lines:=x }:=fun _ _=>⟨rfl,rfl,rfl,rfl,rfl⟩
    have sf1:=fun c=>(sf c 0).1
    have sf2:=fun c=>(sf c 0).2.1
    have sf3:=fun c=>(sf c 0).2.2.1
    have so:∀ (o:On) (x:Int),setCells (vA o) 1 [I x]=vA { o with push:=x }∧setCells (vA o) 3 [I x]=vA { o with lines:=x }∧setCells (vA o) 4 [I x]=vA { o with iU:=x }:=fun _ _=>⟨rfl,rfl,rfl⟩
    have so5:∀ (o:On) (x:Bool),setCells (vA o) 5 [B x]=vA { o with reset:=x }:=fun _ _=>rfl
    have so6:∀ o:On,(vA o).length=6:=fun _=>rfl
    have s4:IntKind.i64.wrap (1 * 2 ^ min (IntKind.u64.wrap ((gF v % 4:Nat):Int)).toNat IntKind.i64.bits)=2 ^ (gF v % 4)∧0≤IntKind.u64.wrap ((gF v % 4:Nat):Int):=by
      have:gF v % 4=0∨gF v % 4=1∨gF v % 4=2∨gF v % 4=3:=by omega
      rcases this with h|h|h|h<;>rw [h]<;>decide
    have hk64:gF v < 64:=by unfold gF; omega
    have s5:IntKind.u64.wrap ((gF v:Nat):Int)=((gF v:Nat):Int):=by
      rw [IntKind.wrap]
      simp [IntKind.signed,IntKind.bits]
      omega
    have s6:IntKind.i64.wrap (256 * 2 ^ min (gF v) IntKind.i64.bits)=V1 (gF v):=rfl
    have s7:0≤((gF v:Nat):Int):=by omega
    have n6:IntKind.i64.wrap (((OT v:Nat):Int) * 6)=((OT v * 6:Nat):Int):=by
      have:OT v≤30:=by unfold OT; omega
      rw [aW (by omega) (by omega)]; omega
    have tn:((gF v:Nat):Int).toNat=gF v:=rfl
    have pf:∀ ps,uV 0 1 (some .eM) (some ps)=some ((0,[.eM]) :: ps):=fun _=>rfl
    rcases KL v with e|e|e|e|e|e|e|e|e|e|e|e|e|e|e|e
    all_goals
      rw [e]
      try simp only [I,B,D,RY,↓ KW,seval,pf,s4.1,s5,s6,s7,tn,n6,n3,m16,m6,m4,m2,m17,m256,x16,x6,sb,st,b16,b6,hxl,le16,As,lC,hz6,sf,sf1,sf2,sf3,so,so5,so6,hda,hln]
    iterate 3
      · refine ⟨by omega,?_⟩
        have hs:iy wild v c=({ c with xs:=c.xs.set (gF v % 16) (f20 (c.xs.getD (gF v % 16) none)) },pT v):=by simp [iy,e]
        refine back2 _ _ hs.symm ?_
        by_cases ho:out=[]
        all_goals refine ai (by decide) ?_ ?_ ?_ ?_<;>simp [LX,I,B,D,pT,yy,vA,ho,bG,bK]
    · refine af hN ?_
      try simp only [I,B,D,RY,↓ KW,seval,pf,s4.1,s5,s6,s7,tn,n6,n3,m16,m6,m4,m2,m17,m256,x16,x6,sb,st,b16,b6,hxl,le16,As,lC,hz6,sf,sf1,sf2,sf3,so,so5,so6,hda,hln]
      refine af hI ?_
      try simp only [I,B,D,RY,↓ KW,seval,pf,s4.1,s5,s6,s7,tn,n6,n3,m16,m6,m4,m2,m17,m256,x16,x6,sb,st,b16,b6,hxl,le16,As,lC,hz6,sf,sf1,sf2,sf3,so,so5,so6,hda,hln]
      refine af hC ?_
      try simp only [I,B,D,RY,↓ KW,seval,pf,s4.1,s5,s6,s7,tn,n6,n3,m16,m6,m4,m2,m17,m256,x16,x6,sb,st,b16,b6,hxl,le16,As,lC,hz6,sf,sf1,sf2,sf3,so,so5,so6,hda,hln]
      refine ⟨by omega,?_⟩
      have hs:iy wild v c=({ c with xs:=c.xs.set (gF v % 16) (six.getD (gF v % 6) none) },pT v):=by simp [iy,e]
      refine back2 _ _ hs.symm ?_
      by_cases ho:out=[]
      all_goals refine ai (by decide) ?_ ?_ ?_ ?_<;>simp [LX,I,B,D,pT,yy,vA,ho,bG,bK]
    iterate 2
      · have hs:iy wild v c=(c,{ pT v with push:=(v / 1024 % 256:Nat) }):=by simp [iy,e]
        refine back2 _ _ hs.symm ?_
        by_cases ho:out=[]
        all_goals refine ai (by decide) ?_ ?_ ?_ ?_<;>simp [LX,I,B,D,pT,yy,vA,ho,bG,bK]
    · refine ⟨s4.2,?_⟩
      have hs:iy wild v c=({ c with ask:=GW .i64 c.ask (2 ^ (gF v % 4)) },pT v):=by simp [iy,e]
      refine back2 _ _ hs.symm ?_
      by_cases ho:out=[]
      all_goals refine ai (by decide) ?_ ?_ ?_ ?_<;>simp [LX,I,B,D,pT,yy,vA,ho,bG,bK]
    · refine ⟨s4.2,?_⟩
      have hs:iy wild v c=(c,{ pT v with lines:=2 ^ (gF v % 4) }):=by simp [iy,e]
      refine back2 _ _ hs.symm ?_
      by_cases ho:out=[]
      all_goals refine ai (by decide) ?_ ?_ ?_ ?_<;>simp [LX,I,B,D,pT,yy,vA,ho,bG,bK]
    · refine ⟨s4.2,?_⟩
      have hs:iy wild v c=({ c with lines:=GW .i64 c.lines (2 ^ (gF v % 4)) },pT v):=by simp [iy,e]
      refine back2 _ _ hs.symm ?_
      by_cases ho:out=[]
      all_goals refine ai (by decide) ?_ ?_ ?_ ?_<;>simp [LX,I,B,D,pT,yy,vA,ho,bG,bK]
    · have hs:iy wild v c=(c,{ pT v with n:=OT v * 6 }):=by simp [iy,e]
      refine back2 _ _ hs.symm ?_
      by_cases ho:out=[]
      all_goals refine ai (by decide) ?_ ?_ ?_ ?_<;>simp [LX,I,B,D,pT,yy,vA,ho,bG,bK]
    · have hs:iy wild v c=({ c with xs:=List.replicate 16 (some (FloatKind.f64.nearest (gF v % 2 * 20:Nat))) },pT v):=by simp [iy,e]
      have n7:IntKind.i64.wrap (((gF v % 2:Nat):Int) * 20)=((gF v % 2 * 20:Nat):Int):=by rw [aW (by omega) (by omega)]; omega
      obtain ⟨w,hw⟩:∃ w,FloatKind.f64.nearest (gF v % 2 * 20:Nat)=w:=⟨_,rfl⟩
      rw [hw] at hs
      refine aG (fun d:Nat=>(⟨[(14,.dat (I d) none),(9,.dat (I i) none),(0,.dat (aH aD l) none),(1,.dat (B wild) none),(5,bG Fr.cells out 0),(6,.ptr 6 0),(7,.dat (I c.DT) none),(8,.ptr 9 0),(11,.dat (I (gF v)) none),(12,.dat (I (OT v)) none),(13,.ptr 429 0)],[(6,⟨(IF c.xs w d).map fv,[]⟩),(9,⟨yy c,[]⟩),(429,⟨vA (pT v),[]⟩)],bK out 0 e2,460⟩:S)) (fun d=>16 - d) (fun d=>d≤16) ?_ 0 (by omega) ?_
      rotate_left
      · by_cases ho:out=[]
        all_goals refine ai (by decide) ?_ ?_ ?_ ?_<;>simp [LX,I,B,D,OV,pT,yy,vA,ho,bG,bK]
      intro d hd A3 back3
      have hwd:=aB (k:=d) (by omega)
      rcases bc (decide ((d:Int) < 16)) with g|g
      · have hd16:d=16:=by have:=of_decide_eq_false g; omega
        subst hd16
        have hxs:IF c.xs w 16=List.replicate 16 (some w):=by have:=R9 (xs:=c.xs) w; rw [hxl] at this; exact this
        rw [hxs]
        try simp only [I,B,D,RY,↓ KW,seval,g,pf,s4.1,s5,s6,s7,tn,n6,n3,m16,m6,m4,m2,m17,m256,x16,x6,sb,st,b16,b6,hxl,le16,As,lC,hz6,sf,sf1,sf2,sf3,so,so5,so6,hda,hln]
        refine back2 _ _ hs.symm ?_
        by_cases ho:out=[]
        all_goals refine ai (by decide) ?_ ?_ ?_ ?_<;>simp [LX,I,B,D,pT,yy,vA,ho,bG,bK]
      · have hd2:d < 16:=by have:=of_decide_eq_true g; omega
        have hb2:0≤(d:Int)∧(d:Int) < 16:=by omega
        have hll:(IF c.xs w d).length=16:=by rw [R8 w (by omega)]; exact hxl
        have hst:=OU (xs:=IF c.xs w d) (k:=d) (x:=some w) (by omega)
        rw [R7 w (by omega)] at hst
        have hst:setCells ((IF c.xs w d).map fv) d [.float .f64 w]=(IF c.xs w (d + 1)).map fv:=hst
        try simp only [I,B,D,RY,↓ KW,seval,g,hb2,hst,hll,n7,hw,pf,s4.1,s5,s6,s7,tn,n6,n3,m16,m6,m4,m2,m17,m256,x16,x6,sb,st,b16,b6,hxl,le16,As,lC,hz6,sf,sf1,sf2,sf3,so,so5,so6,hda,hln]
        refine ⟨by omega,back3 (d + 1) _ (by omega) (by omega) ?_⟩
        by_cases ho:out=[]
        all_goals refine ai (by decide) ?_ ?_ ?_ ?_<;>simp [LX,I,B,D,hwd,hst,hw,pT,yy,vA,ho,bG,bK]
    · have hs:iy wild v c=({ c with DT:=gF v % 17 },pT v):=by simp [iy,e]
      refine back2 _ _ hs.symm ?_
      by_cases ho:out=[]
      all_goals refine ai (by decide) ?_ ?_ ?_ ?_<;>simp [LX,I,B,D,pT,yy,vA,ho,bG,bK]
    · have hs:iy wild v c=({ c with DT:=16,lines:=0 },pT v):=by simp [iy,e]
      refine back2 _ _ hs.symm ?_
      by_cases ho:out=[]
      all_goals refine ai (by decide) ?_ ?_ ?_ ?_<;>simp [LX,I,B,D,pT,yy,vA,ho,bG,bK]
    · have hs:iy wild v c=(c,{ pT v with push:=if wild && gF v % 4 == 0 then V1 (gF v) else 0,iU:=if wild && gF v % 4 == 1 then (v / 1024 % 256:Nat) else 0,reset:=wild && gF v % 2 == 0 }):=by simp [iy,e]
      have e0:(((gF v % 4:Nat):Int) == 0)=(gF v % 4 == 0):=by rw [Bool.eq_iff_iff]; simp; omega
      have e1:(((gF v % 4:Nat):Int) == 1)=(gF v % 4 == 1):=by rw [Bool.eq_iff_iff]; simp; omega
      have e2:(((gF v % 2:Nat):Int) == 0)=(gF v % 2 == 0):=by rw [Bool.eq_iff_iff]; simp; omega
      obtain ⟨b0,hb0⟩:∃ b,(gF v % 4 == 0)=b:=⟨_,rfl⟩
      obtain ⟨b1,hb1⟩:∃ b,(gF v % 4 == 1)=b:=⟨_,rfl⟩
      obtain ⟨b2,hb2⟩:∃ b,(gF v % 2 == 0)=b:=⟨_,rfl⟩
      rw [hb0] at e0 hs
      rw [hb1] at e1 hs
      rw [hb2] at e2 hs
      rcases bc wild with hw|hw<;>rcases bc b0 with g0|g0<;>rcases bc b1 with g1|g1<;>rcases bc b2 with g2|g2
      all_goals
        subst hw g0 g1 g2
        try simp only [I,B,D,RY,↓ KW,seval,e0,e1,e2,s6,pf,s4.1,s5,s6,s7,tn,n6,n3,m16,m6,m4,m2,m17,m256,x16,x6,sb,st,b16,b6,hxl,le16,As,lC,hz6,sf,sf1,sf2,sf3,so,so5,so6,hda,hln]
        try refine ⟨s7,?_⟩
        try try simp only [I,B,D,RY,↓ KW,seval,e0,e1,e2,s6,pf,s4.1,s5,s6,s7,tn,n6,n3,m16,m6,m4,m2,m17,m256,x16,x6,sb,st,b16,b6,hxl,le16,As,lC,hz6,sf,sf1,sf2,sf3,so,so5,so6,hda,hln]
        refine back2 _ _ hs.symm ?_
        by_cases ho:out=[]
        all_goals refine ai (by decide) ?_ ?_ ?_ ?_<;>simp [LX,I,B,D,pT,yy,vA,ho,bG,bK]
    iterate 2
      · have hs:iy wild v c=(c,pT v):=by simp [iy,e]
        refine back2 _ _ hs.symm ?_
        by_cases ho:out=[]
        all_goals refine ai (by decide) ?_ ?_ ?_ ?_<;>simp [LX,I,B,D,pT,yy,vA,ho,bG,bK]
  · rintro _ rfl
    obtain ⟨hc2,ho2⟩:=F7 (wild:=wild) (v:=v) hok.1
    rw [KK] at hnx
    simp only at hnx
    generalize iy wild v c=y at *
    obtain ⟨c2,o⟩:=y
    simp only at hc2 ho2 hnx
    have hxl:=hc2.xs
    have hfl:=hc2.DT
    have hch:=ES c2.DT c2.xs (by omega)
    rw [List.map_take] at hch
    have hsf:∀ c:Sc,(yy c).length=6∧(yy c)[2]? = some (I c.ask)∧(yy c)[3]? = some (I c.lines):=fun _=>⟨rfl,rfl,rfl⟩
    have hof:∀ o:On,(vA o).length=6∧(vA o)[1]? = some (I o.push)∧(vA o)[3]? = some (I o.lines)∧(vA o)[4]? = some (I o.iU)∧(vA o)[5]? = some (B o.reset):=fun _=>⟨rfl,rfl,rfl,rfl,rfl⟩
    have hmo:aH iZ (dH (c2.xs.take c2.DT))=if c2.DT=0 then .aL else .sl ((c2.xs.take c2.DT).map iZ):=by
      unfold dH
      by_cases h0:c2.DT=0
      · simp [h0,aH]
      · have:¬ (c2.xs.take c2.DT=[]):=by intro h; have:=congrArg List.length h; rw [List.length_take] at this; simp only [List.length_nil] at this; omega
        simp [h0,this,aH]
    obtain ⟨Sl,hsm⟩:∃ x,aH iZ (dH (c2.xs.take c2.DT))=x:=⟨_,rfl⟩
    rw [hsm] at hmo
    have hfr:∀ j,(oD c2 o j).cells=[Sl,I (if j=0 then o.push else 0),I c2.ask,I (if j=0 then yE .i64 c2.lines o.lines else c2.lines),I (if j=0 then o.iU else 0),B (if j=0 then o.reset else false)]:=fun j=>by rw [← hsm]; rfl
    have hle:out++(List.range 0).map (oD c2 o)=out:=by simp
    try simp only [I,B,D,RY,↓ KW,seval,hxl,hch,hda,hln]
    refine ⟨⟨by omega,by omega⟩,⟨by omega,by omega⟩,?_⟩
    rcases bc (c2.DT == 0) with h0|h0
    all_goals
      first | rw [if_neg (by simpa using h0)] at hmo | rw [if_pos (by simpa using h0)] at hmo
      try simp only [I,B,D,RY,↓ KW,seval,h0,← hmo,hda,hln]
      refine aG (fun j:Nat=>(⟨[(16,.dat (I j) none),(12,.dat (I o.n) none),(15,.dat (Sl) none),(9,.dat (I i) none),(0,.dat (aH aD l) none),(1,.dat (B wild) none),(5,bG Fr.cells (out++(List.range j).map (oD c2 o)) 0),(6,.ptr 6 0),(7,.dat (I c2.DT) none),(8,.ptr 9 0),(13,.ptr 429 0)],[(6,⟨c2.xs.map fv,[]⟩),(9,⟨yy c2,[]⟩),(429,⟨vA o,[]⟩)],bK (out++(List.range j).map (oD c2 o)) 0 e2,600⟩:S)) (fun j=>200 - j) (fun j=>j≤min o.n (1500 - out.length)) ?_ 0 (by omega) ?_
      rotate_left
      · rw [hle]
        by_cases ho:out=[]
        all_goals refine ai (by decide) ?_ ?_ ?_ ?_<;>simp [LX,I,B,D,hmo,hch,ho,bG,bK]
      intro j hj A3 back3
      have hwj:=aB (k:=j) (by omega)
      have hfj:=hfr j
      have hnj:(List.range (j + 1)).map (oD c2 o)=(List.range j).map (oD c2 o)++[oD c2 o j]:=by simp [List.range_succ]
      have hol:(out++(List.range j).map (oD c2 o)).length=out.length + j:=by simp
      have hn2:out++(List.range (j + 1)).map (oD c2 o)=(out++(List.range j).map (oD c2 o))++[oD c2 o j]:=by rw [hnj,List.append_assoc]
      have hscm:Di c2 o out=out++(List.range (min o.n (1500 - out.length))).map (oD c2 o):=rfl
      have hdq:Lh (some (bG Fr.cells (out++(List.range j).map (oD c2 o)) 0))=some (aH Fr.cells (dH (out++(List.range j).map (oD c2 o)))):=KM ..
      have hlq:Ay (aH Fr.cells (dH (out++(List.range j).map (oD c2 o))))=some (I (out++(List.range j).map (oD c2 o)).length):=KN ..
      have hend2:j=min o.n (1500 - out.length)→jd wild (l.getD []) (i + 1)=(c2,out++(List.range j).map (oD c2 o)):=by intro h; rw [hnx,hscm,← h]
      rw [hol] at hlq
      generalize hq:out++(List.range j).map (oD c2 o)=q at *
      generalize oD c2 o j=fr at *
      try simp only [I,B,D,RY,↓ KW,seval,hof,hsf,hwj,hdq,hlq,hda,hln]
      rcases bc (decide ((j:Int) < ((o.n:Nat):Int))) with g1|g1
      · try simp only [I,B,D,RY,↓ KW,seval,g1,hof,hsf,hwj,hdq,hlq,hda,hln]
        refine back (i + 1) _ (by omega) (by omega) ?_
        have he:=hend2 (by have:=of_decide_eq_false g1; omega)
        by_cases ho:q=[]
        all_goals refine ai (by decide) ?_ ?_ ?_ ?_<;>simp [LX,I,B,D,hwr,he,ho,bG,bK]
      rcases bc (decide (((out.length + j:Nat):Int) < 1500)) with g2|g2
      · try simp only [I,B,D,RY,↓ KW,seval,g1,g2,hof,hsf,hwj,hdq,hlq,hda,hln]
        refine back (i + 1) _ (by omega) (by omega) ?_
        have he:=hend2 (by have:=of_decide_eq_false g2; omega)
        by_cases ho:q=[]
        all_goals refine ai (by decide) ?_ ?_ ?_ ?_<;>simp [LX,I,B,D,hwr,he,ho,bG,bK]
      have c1:=of_decide_eq_true g1
      have c3:=of_decide_eq_true g2
      have hb6:∀ a b c d e g a' b' c' d' e' g':AV,setCells [a,b,c,d,e,g] 0 [a',b',c',d',e',g']=[a',b',c',d',e',g']:=fun _ _ _ _ _ _ _ _ _ _ _ _=>rfl
      have hbs:∀ a b c d e g h:AV,setCells [a,b,c,d,e,g] 1 [h]=[a,h,c,d,e,g]∧setCells [a,b,c,d,e,g] 3 [h]=[a,b,c,h,e,g]∧setCells [a,b,c,d,e,g] 4 [h]=[a,b,c,d,h,g]∧setCells [a,b,c,d,e,g] 5 [h]=[a,b,c,d,e,h]:=fun _ _ _ _ _ _ _=>⟨rfl,rfl,rfl,rfl⟩
      have hsc:Sl.cells=[Sl]∧ig Sl none=true:=by rw [hmo]; first | exact ⟨rfl,rfl⟩ | (split<;>exact ⟨rfl,rfl⟩)
      rcases bc ((j:Int) == 0) with z|z
      · have hj0:¬ j=0:=by intro h; rw [h] at z; simp at z
        simp only [if_neg hj0] at hfj
        by_cases ho:q=[]
        all_goals
          try simp only [I,B,D,RY,↓ KW,seval,g1,g2,z,bG,bK,ho,hsc,hb6,hbs,hol,hof,hsf,hwj,hdq,hlq,hda,hln]
          first
            | refine back3 (j + 1) _ (by omega) (by omega) ?_
            | refine ⟨by omega,fun _ _=>rfl,back3 (j + 1) _ (by omega) (by omega) ?_⟩
          refine ai (by decide) ?_ ?_ ?_ ?_<;>simp [LX,I,B,D,hwj,hn2,hfj,ho,bG,bK]
      · have hj0:j=0:=by simpa using z
        simp only [if_pos hj0] at hfj
        by_cases ho:q=[]
        all_goals
          try simp only [I,B,D,RY,↓ KW,seval,g1,g2,z,bG,bK,ho,hsc,hb6,hbs,hol,hof,hsf,hwj,hdq,hlq,hda,hln]
          first
            | refine back3 (j + 1) _ (by omega) (by omega) ?_
            | refine ⟨by omega,fun _ _=>rfl,back3 (j + 1) _ (by omega) (by omega) ?_⟩
          refine ai (by decide) ?_ ?_ ?_ ?_<;>simp [LX,I,B,D,hwj,hn2,hfj,ho,bG,bK]
end
def Fr.inp(x:Fr):IE:=⟨x.samples,x.push,x.ask,x.lines⟩
theorem F8(t:Tb) (s:bP) (x:IE):(RZ t s x).Ok:=⟨zi ..,by simp[RZ,rdE,tr,tq],EP⟩
theorem Me(t:Tb) (s:bP) (x:IE):((RZ t s x).gn.getD []).length=VV t:=by
 rw[RZ,Df,dV];simp[og]
def Few(frs:List Fr):Prop:=∀x∈frs,(x.samples.getD []).length<=1000000
theorem OY{wild:Bool} {l:List Int}:∀i,Few (jd wild l i).2
 |0=>fun x hx=>by simp[jd]at hx
 |i+1=>by
  have ih:=OY (wild:=wild) (l:=l) i
  have hok:=(A5 wild l i).1
  rw[jd];split
  ·intro x hx
   simp only[KK,Di,List.mem_append,List.mem_map]at hx
   rcases hx with hx|⟨j,_,rfl⟩
   ·exact ih x hx
   ·have:=(F7 (wild:=wild) (v:=V2 l i) hok).1.xs
    simp only[oD,dV,List.length_take];omega
  ·exact ih
theorem JD(wild:Bool) (l:List Int):Few (qH wild l):=OY _
theorem JE(wild:Bool) (l:List Int):(qH wild l).length<=1500:=(A5 wild l _).2
structure abJ (t:Tb) (x:Pr):Prop where
 rng:0<=x.aq/\x.aq<6
 which:x.aq≠0->0<=x.which/\x.which<(nR t:Int)
 zero:x.aq=0->x.which=0
structure Z0 (p:Ph) (r:Rn):Prop where
 col:0<=r.aQ/\r.aQ<=3
 gV:0<=r.fst/\r.fst<=2
 stop:r.fst=0->r.dR=0
 off:r.aQ≠1->r.fst=0
 done:r.aQ=1->r.done=true->p.min<=r.time/\r.fst=0
structure ab8 (p:Ph) (r:Rn) (c:Cu) (r':Rn):Prop where
 green:r.aQ=1->c.fin=false->r'.aQ=1/\r'.time=cV r.time/\r'.fst=(SS p r c).1/\r'.dR=(SS p r c).2
 fin:r.aQ=1->c.fin=true->r'.aQ=2/\r'.time=1/\r'.fst=0/\r'.dR=0
 ei:r.aQ=2->(r'.fst=0/\r'.dR=0)/\((r.time<p.ei/\r'.aQ=2/\r'.time=cV r.time)\/(p.ei<=r.time/\0<p.red/\r'.aQ=3/\r'.time=1)\/(p.ei<=r.time/\p.red<=0/\r'.aQ=0/\r'.time=1))
 clear:r.aQ=3->(r'.fst=0/\r'.dR=0)/\((r.time<p.red/\r'.aQ=3/\r'.time=cV r.time)\/(p.red<=r.time/\r'.aQ=0/\r'.time=1))
 red:iu r=true->c.start=false->r'.aQ=0/\r'.time=cV r.time/\r'.fst=0/\r'.dR=0
 start:iu r=true->c.start=true->r'.aQ=1/\r'.time=1/\((r'.fst=1/\r'.dR=1)\/(r'.fst=0/\r'.dR=0))/\r'.done=false
structure TG (t:Tb) (n:Nat):Prop where
 n8:n<=8
 on:∀p:Nat,p<8->(aX t p).on=decide (p<n)
 ph:∀p:Nat,p<n->U9 (aX t p)
 off:∀p:Nat,p<8->n<=p->aX t p=default
 sym:∀p q,p<8->q<8->tb (gI t p) q=tb (gI t q) p
 con:∀p q:Nat,p<8->q<8->tb (gI t p) q=true->p≠q/\mu t p q=false
 uq:Uq t
 wh:∀p:Nat,p<n->(aR t p).2=true
 whn:∀p:Nat,(aR t p).2=true->p<n
 rl:(t.bQ.getD []).length<=2/\∀r∈t.bQ.getD [],Va t n r
theorem TG.min{t:Tb} {n:Nat} (h:TG t n) {p:Nat} (hp:p<8):(aX t p).min<=9999:=by
 by_cases e:p<n
 ·have:=(h.ph p e).min;omega
 ·rw[h.off p hp (by omega)];decide
structure SI (t:Tb) (n:Nat) (s:bP):Prop where
 ok:s.Ok
 safe:∀p q,p<8->q<8->tb (gI t p) q=true->iu (s.rn p)=true\/iu (s.rn q)=true
 run:∀p:Nat,p<8->Z0 (aX t p) (s.rn p)
 off:∀p,p<8->n<=p->iu (s.rn p)=true
 pre:abJ t s.pre
 ring:s.pre.aq=0->∀p:Nat,p<8->(s.rn p).aQ=1->∃k:Int,(k=0\/k=1)/\tP t s.rings k=p
structure ab9 (t:Tb) (n:Nat) (s:bP) (st fn ct:Int) (aq:Int) (rg:gL):Prop where
 start:∀p,p<8->tb st p=true->iu (s.rn p)=true/\p<n/\∀q,q<8->tb (gI t p) q=true->iu (s.rn q)=true
 two:∀p q,p<8->q<8->tb st p=true->tb st q=true->tb (gI t p) q=false
 fin:∀p:Nat,p<8->tb fn p=true->(s.rn p).aQ=1->((aX t p).min<=(s.rn p).time/\(s.rn p).fst=0)\/aq=1\/aq=3
 cut:∀p,p<8->tb ct p=true->aq=1\/aq=3
 ring:aq=0->∀p:Nat,p<8->((s.rn p).aQ=1/\tb fn p=false)\/tb st p=true->∃k:Int,(k=0\/k=1)/\tP t rg k=p
section
open Z
def Au(g0:Nat):bM:=⟨17,[.cell 2 (some 8)],r [o 1 (w 0),o 2 (.alloc [i 0,i 0,i 0,i 0,i 0,i 0,i 0,i 0])] (r [o 3 (.alloc [i 0,i 0,i 0,i 0,i 0,i 0,i 0,i 0])] (j (r [o 6 (L 1 96),V 7 (i 0)] (u 0 (.loop (r [o 8 (bb .lss 7 (i 8))] (j (c 8 z (.exit 0)) (j (u 1 (r [M 9 7,o 10 (.DU (t 6) (t 7) 8 12 (some 12)),o 5 (.alloc aP),M 4 9,n (s 5 10 12)] (R [M 11 4,o 12 (L 5 12),o 13 (.call g0 [t 12]),o 14 (A 3 11 8 1),n (s 14 13 1)]))) (R [o 15 (bb .add 7 (i 1)),M 7 15]))))))) (r [o 16 (L 3 8),n (s 2 16 8)] y)))⟩
def yz:bM:=⟨16,[.tmp 2],r [o 1 (w 0),V 2 (i 0)] (j (r [o 3 (f 1 0),o 4 (l 3)] (u 0 (r [o 6 (bb .eql 4 (i 1)),M 5 6] (c 5 (j (r [o 7 (f 1 2),o 8 (f 7 0),o 9 (l 8)] (u 1 (r [o 11 (bb .eql 9 (i 1)),M 10 11] (c 10 (r [V 2 (i 12)] y) (r [o 13 (bb .eql 9 (i 2)),M 12 13] (c 12 (r [V 2 (i 20)] y) z)))))) (r [V 2 (i 4)] y)) (r [o 15 (bb .eql 4 (i 2)),M 14 15] (c 14 (r [V 2 (i 2)] y) z)))))) (r [V 2 (i 1)] y))⟩
end
theorem tnd(l:Option (List Int)):VV (gh l)<=1000000:=Nat.le_trans (Zi l).1 (by omega)
theorem Z1{l:List Int} (h:l.length=8) {p:Nat} (hp:p<8):l[p]? =some (lD l p):=by
 have:p<l.length:=by omega
 simp[lD,this]
def Mn.AH(m:Mn) (k:Nat) (x:Int):Mn:={m with ticks:=m.ticks.set k x}
theorem Mn.DD{m:Mn} (h:m.Ok) (k:Nat) (x:Int):(m.AH k x).Ok:=⟨h.last,by simp[Mn.AH,h.ticks]⟩
theorem Mn.KO{m:Mn} (h:m.Ok) {k:Nat} (hk:k<8) (x:Int):setCells m.cells (8+k) [I x]=(m.AH k x).cells:=by
 have:=Q8 (A:=m.last.map I) (B:=[]) (l:=m.ticks) (x:=x) (o:=8) (by simp[h.last]) (by rw[h.ticks];exact hk)
 simpa[Mn.cells,Mn.AH]using this
def Dk(m:Mn) (l:List Int) (p:Nat):Int:=if dw .i64 (lD l p) 7==dw .i64 (lD m.last p) 7 then cV (lD m.ticks p)else 1
def yA(m:Mn) (l:List Int) (k:Nat):Mn:=⟨l,Ev (Dk m l) (fun _=>0) k⟩
def JF(m:Mn) (l:List Int):Mn:=yA m l 8
theorem qI{m:Mn} {l:List Int} (h:l.length=8) (k:Nat):(yA m l k).Ok:=⟨h,LV _ _ _⟩
theorem OZ{m:Mn} {l:List Int} {k:Nat} (hk:k<8) (h:(dw .i64 (lD l k) 7==dw .i64 (lD m.last k) 7)=true):((yA m l k).AH k 1).AH k (cV (lD m.ticks k))=yA m l (k+1):=by
 simp only[yA,Mn.AH,List.set_set]
 have:cV (lD m.ticks k)=Dk m l k:=by simp only[Dk,h,if_true]
 rw[this,Ew (Dk m l) _ hk]
theorem Sa{m:Mn} {l:List Int} {k:Nat} (hk:k<8) (h:(dw .i64 (lD l k) 7==dw .i64 (lD m.last k) 7)=false):(yA m l k).AH k 1=yA m l (k+1):=by
 simp only[yA,Mn.AH]
 have:Dk m l k=1:=by simp[Dk,h]
 conv=>lhs;rw[<-this]
 rw[Ew (Dk m l) _ hk]
theorem ET(m:Mn) (l:List Int):(yA m l 0).cells=l.map I++List.replicate 8 (I 0):=rfl
def Dl.Spec(C:aS) (f:Nat):Prop:=∀n:Int,C.c f [I n] (I (cV n)) none
def Dm.Spec(C:aS) (f:Nat):Prop:=∀(t:Tb) (m:Mn) (l:List Int),we t m l->C.c f [.agg t.cells,.agg m.cells,.agg (l.map I)] (.cN [.agg (JF m l).cells,I (gC t m l)]) none
theorem V3{z A B C:List AV} (hz:z.length=155) (hA:A.length=131) (hB:B.length=16) (hC:C.length=8):
  List.take 147 (List.take 131 (A++List.drop 131 z)++B++List.drop 147 (A++List.drop 131 z))++C++List.drop 155 (List.take 131 (A++List.drop 131 z)++B++List.drop 147 (A++List.drop 131 z))=A++(B++C):=by
 rw[List.take_left' hA];generalize hY:List.drop 147 (A++List.drop 131 z)=Y
 have hYl:Y.length=8:=by rw[<-hY];simp;omega
 rw[List.take_left' (by simp;omega),List.drop_of_length_le (by simp;omega),List.append_nil,List.append_assoc]
section
variable{P:Program} (hm:P.follows .mixedOrders=true) {f:Nat}
include hm
theorem Dl.ok(hc:bF P f=some rm):Dl.Spec (Pure P) f:=by
 intro n
 have h1:(if 9999<(if 0>n then 0 else n)then 9999 else(if 0>n then 0 else n))=fj n 0 9999:=by
  unfold fj;split<;>split<;>(try split)<;>omega
 refine ak hm hc (by show 1<=7;decide) (aj (keep:=[]) (i:=0) ?_)
 try simp only[I,RX,↓KW,Nat.reduceBEq,Nat.reduceAdd,rm,Z.H]
 rw[h1];rfl
theorem Dm.ok{fM fF:Nat} (hc:bF P f=some (rj fM fF)) (hM:Dl.Spec (Pure P) fM) (hF:xK.Spec (Pure P) fF):Dm.Spec (Pure P) f:=by
 intro t m l h
 have wt:=h.t.whole
 have wm:=Mn.whole h.m
 have wl:=zW h.l
 have lt:=h.t.len
 have lm:=Mn.len h.m
 have ll:(l.map I).length=8:=by simp[h.l]
 have ll':(l.map (AV.int .i64)).length=8:=ll
 have z16l:dY.length=16:=rfl
 have z16d:dY.drop 8=List.replicate 8 (I 0):=rfl
 have hz0:setCells dY 0 (yA m l 0).cells=(yA m l 0).cells:=bk (by rw[Mn.len (qI h.l 0)];rfl)
 rw[ET]at hz0
 refine ak hm hc (by show 3<=43;decide) (aj (keep:=[]) (i:=0) ?_)
 try simp only[I,RY,↓KW,Nat.reduceBEq,Nat.reduceAdd,rj,Z.H,wl,ll,z16l,z16d,hz0]
 refine⟨by simp[h.l],?_⟩
 refine aG (fun k:Nat=>(⟨[(12,.dat (I k) none),(8,.ptr 11 0),(5,.ptr 6 0),(4,.ptr 5 0),(3,.ptr 4 0),(6,.ptr 7 0)],[(11,⟨(yA m l k).cells,[]⟩),(6,⟨l.map I,[]⟩),(5,⟨m.cells,[]⟩),(4,⟨t.cells,[]⟩),(7,⟨dY,[]⟩)],[],400⟩:S)) (fun k=>8-k) (fun k=>k<=8) ?_ 0 (by omega) ?_
 ·intro k hk A back
  have hwr:=aB (k:=k) (by omega)
  try simp only[I,RY,↓KW,Nat.reduceBEq,Nat.reduceAdd]
  refine ax (fun h2=>?_) (fun h2=>?_)<;>try simp only[RY,↓KW,Nat.reduceBEq,Nat.reduceAdd,h2]
  ·have h8:k<8:=by have:=of_decide_eq_true h2;omega
   have hx:0<=(k:Int)/\(k:Int)<(8:Nat):=by omega
   have o0:=qI (m:=m) h.l k
   have s1:=Mn.KO o0 h8 1
   have o1:=Mn.DD o0 k 1
   have s2:=Mn.KO o1 h8 (cV (lD m.ticks k))
   have e0:=Mn.len o0
   have e1:=Mn.len o1
   obtain⟨m1,m2⟩:=Mn.at h.m h8
   have l1:l[k]? =some (lD l k):=Z1 h.l h8
   try simp only[I,RY,↓KW,Nat.reduceBEq,Nat.reduceAdd,Nat.reduceLeDiff,hx,s1,e0,m1,l1]
   refine⟨by omega,?_⟩
   try simp only[I,B,D,RY,↓KW,Nat.reduceBEq,Nat.reduceAdd,Nat.reduceLeDiff,Int.reduceNe,Int.reduceBEq,Int.reduceEq,reduceCtorEq,Nat.reduceMul,Int.reduceLT,Int.reduceLE,Int.reduceToNat,hx,s1,e0,e1,m1,m2,l1,Option.map_some]
   cases hq:dw .i64 (lD l k) 7==dw .i64 (lD m.last k) 7
   ·try simp only[RY,↓KW,Nat.reduceBEq,Nat.reduceAdd]
    have hn:=Sa h8 hq
    refine back (k+1) _ (by omega) (by omega) ?_
    refine ai (by decide) ?_ ?_ ?_ ?_<;>simp[LX,I,hwr,hn]
   ·try simp only[I,RY,↓KW,Nat.reduceBEq,Nat.reduceAdd,hx,m2]
    refine af (hM _) ?_
    have hn:=OZ h8 hq
    try simp only[I,RY,↓KW,Nat.reduceBEq,Nat.reduceAdd,Nat.reduceLeDiff,hx,e1,s2]
    refine⟨by omega,back (k+1) _ (by omega) (by omega) ?_⟩
    refine ai (by decide) ?_ ?_ ?_ ?_<;>simp[LX,I,hwr,hn]
  ·have:k=8:=by have:=of_decide_eq_false h2;omega
   subst this
   have o8:=qI (m:=m) h.l 8
   have wo:=Mn.whole o8
   have lo:=Mn.len o8
   have hz:setCells dY 0 (yA m l 8).cells=(yA m l 8).cells:=bk (by rw[lo];rfl)
   have hfill:List.take 147 (List.take 131 (t.cells++List.drop 131 kB)++m.cells++List.drop 147 (t.cells++List.drop 131 kB))++List.map I l++List.drop 155 (List.take 131 (t.cells++List.drop 131 kB)++m.cells++List.drop 147 (t.cells++List.drop 131 kB))=rS t m l:=V3 (z:=kB) rfl lt lm ll
   try simp only[I,B,D,RY,↓KW,Nat.reduceBEq,Nat.reduceAdd,Nat.reduceLeDiff,Int.reduceNe,Int.reduceBEq,Int.reduceEq,reduceCtorEq,Nat.reduceMul,Int.reduceLT,Int.reduceLE,Int.reduceToNat,wt,wm,wl,lt,lm,ll,ll',z16l,z16d,hz0,wo,lo,hz,hfill,List.nil_append]
   refine dG (by rfl) ?_
   try simp only[RY,↓KW,Nat.reduceBEq,Nat.reduceAdd,wt,wm,wl,lt,lm,ll,wo,hfill]
   refine af (hF t m l h) ?_;try simp only[I,RY,↓KW,Nat.reduceBEq,Nat.reduceAdd,z16l,wo,lo,hz]
   rfl
 ·refine ai (by decide) ?_ ?_ ?_ ?_<;>simp[LX,I,ET]
end
def tU(r:Rn):Int:=if r.aQ==1 then(if r.fst==1 then 12 else if r.fst==2 then 20 else 4)else if r.aQ==2 then 2 else 1
def iG(l:List Rn):List Int:=(List.range 8).map fun p=>tU (bp l p)
theorem kE(l:List Rn):(iG l).length=8:=by simp[iG]
theorem Iq(l:List Rn) {p:Nat} (hp:p<8):lD (iG l) p=tU (bp l p):=by
 rw[lD,iG,List.getD_eq_getElem?_getD,List.getElem?_map,List.getElem?_range hp];rfl
def abK:Mn:=⟨List.replicate 8 0,List.replicate 8 0⟩
structure MI (m:Mn) (s:bP):Prop where
 ok:m.Ok
 seen:(m=abK/\∀p,p<8->(s.rn p).aQ=0)\/∀p,p<8->lD m.last p=tU (s.rn p)/\((s.rn p).aQ=2->lD m.ticks p=(s.rn p).time)
def Dn.Spec(C:aS) (f:Nat):Prop:=∀r:Rn,C.c f [.agg r.cells] (I (tU r)) none
def Ir.Spec(C:aS) (f:Nat):Prop:=∀l:List Rn,l.length=8->C.c f [.agg (cz l)] (.agg ((iG l).map I)) none
def jS(l:List Rn) (k:Nat):List Int:=(List.range 8).map fun p=>if p<k then tU (bp l p)else 0
theorem F9(l:List Rn) {k:Nat} (hk:k<8):setCells ((jS l k).map I) k [I (tU (bp l k))]=(jS l (k+1)).map I:=by
 have:k=0\/k=1\/k=2\/k=3\/k=4\/k=5\/k=6\/k=7:=by omega
 rcases this with rfl|rfl|rfl|rfl|rfl|rfl|rfl|rfl<;>rfl
section
variable{P:Program} (hm:P.follows .mixedOrders=true) {f:Nat}
include hm
theorem Dn.ok(hc:bF P f=some yz):Dn.Spec (Pure P) f:=by
 intro r
 refine ak hm hc (by show 1<=16;decide) (aj (keep:=[]) (i:=0) ?_)
 try simp only[I,B,D,RX,↓KW,seval,yz,Z.H,Rn.cells]
 repeat' (((first|refine aV ?_ ?_|refine ax ?_ ?_|refine bC ?_ ?_)<;>intro h)<;>try simp only[I,B,D,RX,↓KW,seval,Rn.cells,h])
 all_goals simp[tU, *]
theorem Ir.ok{fS:Nat} (hc:bF P f=some (Au fS)) (hS:Dn.Spec (Pure P) fS):Ir.Spec (Pure P) f:=by
 intro l hl
 have hw:=gB hl
 have h8:∀k,((jS l k).map I).length=8/\ay ((jS l k).map I) 0 (some 8)=some (.agg ((jS l k).map I)):=fun k=>by
  have:(jS l k).length=8:=by simp[jS]
  exact⟨by simp[this],zW this⟩
 have hz:∀k,setCells [.int .i64 0,.int .i64 0,.int .i64 0,.int .i64 0,.int .i64 0,.int .i64 0,.int .i64 0,.int .i64 0] 0 ((jS l k).map I)=(jS l k).map I:=fun k=>bk (by rw[(h8 k).1];rfl)
 have h8l:=fun k=>(h8 k).1
 have h8p:=fun k=>(h8 k).2
 refine ak hm hc (by show 1<=17;decide) (aj (keep:=[]) (i:=0) ?_)
 try simp only[I,B,D,RY,↓KW,seval,Au,Z.H,hw,h8l,h8p,hz]
 refine aG (fun k:Nat=>(⟨[(7,.dat (I k) none),(6,.dat (.agg (cz l)) none),(2,.ptr 5 0),(3,.ptr 6 0)],[(5,⟨[.int .i64 0,.int .i64 0,.int .i64 0,.int .i64 0,.int .i64 0,.int .i64 0,.int .i64 0,.int .i64 0],[]⟩),(6,⟨(jS l k).map I,[]⟩)],[],400⟩:S)) (fun k=>8-k) (fun k=>k<=8) ?_ 0 (by omega) ?_
 rotate_left
 ·refine ai (by decide) ?_ ?_ ?_ ?_<;>simp[LX,I,B,D,jS,List.range_succ]
 intro k hk A back
 have hwr:=aB (k:=k) (by omega)
 try simp only[I,B,D,RY,↓KW,seval]
 rcases bc (decide ((k:Int)<8))with h|h
 ·have:k=8:=by have:=of_decide_eq_false h;omega
  subst this;try simp only[I,B,D,RY,↓KW,seval,h,hw,h8l,h8p,hz]
  rfl
 ·have h8:k<8:=by have:=of_decide_eq_true h;omega
  have hat:ay (cz l) (k*12) (some 12)=some (.agg (bp l k).cells):=i6 hl h8
  have hy:0<=(k:Int)/\(k:Int)<8:=by omega
  have qz:setCells aP 0 (bp l k).cells=(bp l k).cells:=rfl
  have ql:aP.length=12:=rfl
  have qw:ay (bp l k).cells 0 (some 12)=some (.agg (bp l k).cells):=rfl
  have hn:=F9 l h8
  try simp only[I,B,D,RY,↓KW,seval,h,hy,hat,qz,ql,qw,Rn.len,hw,h8l,h8p,hz]
  refine af (hS _) ?_;try simp only[I,B,D,RY,↓KW,seval,hy,hn,hw,h8l,h8p,hz]
  refine⟨by omega,back (k+1) _ (by omega) (by omega) ?_⟩
  refine ai (by decide) ?_ ?_ ?_ ?_<;>simp[LX,I,B,D,hwr]
end
open Go.RowKit
def wC(p:Nat->Bool) (k:Nat):Nat:=((List.range k).filter p).length
theorem uL(p:Nat->Bool) (k:Nat):wC p (k+1)=if p k then wC p k+1 else wC p k:=by
 simp only[wC,List.range_succ,List.filter_append,List.filter_cons,List.filter_nil]
 split<;>simp
theorem Ga(p:Nat->Bool) {k:Nat} (hp:p k=true):∀n,k<n->((List.range n).filter p)[wC p k]? =some k
 |n+1,h=>by
  simp only[List.range_succ,List.filter_append]
  by_cases hk:k<n
  ·have ih:=Ga p hp n hk
   rw[List.getElem?_append_left (List.getElem?_eq_some_iff.1 ih).1,ih]
  ·obtain rfl:k=n:=by omega
   rw[List.getElem?_append_right (by simp[wC])]
   simp[wC,hp]
theorem Dp(s:Int) {k:Nat} (hk:k<8):(bits .and .i64 (s/2^k) 1=1)↔tb s k=true:=by
 have h:=FN s hk
 have e:min k IntKind.i64.bits=k:=by have:IntKind.i64.bits=64:=rfl;omega
 rw[e,Int.fdiv_eq_ediv_of_nonneg _ (by exact Int.pow_nonneg (by decide))]at h
 have h':bits .and .i64 (s/2^k) 1=if tb s k then 1 else 0:=h
 rw[h']
 cases tb s k<;>simp
def Is(P:Program) (fn:Nat):Prop:=∀(l B1 o1 B2 o2 b off len cap:Nat) (s:Int) (f:Nat->Nat->Int) (J:Nat->World->Prop) (Jx:World->Prop) (W:World) (cnt:Nat->Nat),cnt 0=0->
  (∀k,k<4->bits .and .i64 (s/2^k) 1=1->cnt (k+1)=cnt k+1)->(∀k,k<4->¬bits .and .i64 (s/2^k) 1=1->cnt (k+1)=cnt k)->len<=cap->
  W.cell? ⟨B1,o1+115,none⟩=some (.slice (some ⟨b,off,none⟩) len cap)->
  (∀i wr,J i wr->(∀k,k<min len 4->wr.cell? ⟨b,off+k*2,none⟩=some (.int .i64 (f k 0))/\wr.cell? ⟨b,off+k*2+1,none⟩=some (.int .i64 (f k 1)))/\wr.cell? ⟨B2,o2,none⟩=some (.int .i64 s))->
  (∀i wr o,J i wr->J i (wr.alloc o))->(∀wr o,Jx wr->Jx (wr.alloc o))->
  (∀n k wr,k<min len 4->bits .and .i64 (s/2^k) 1=1->J (cnt k) wr->YieldAt Fence.wide n P l #[.int .i64 k,.agg #[.int .i64 (f k 0),.int .i64 (f k 1)]] wr fun e W'=>(e=.returned (.bool true)/\J (cnt k+1) W')\/(e=.returned (.bool false)/\Jx W'))->
  J 0 W->
  Calls P fn #[.func (.yield l) #[] #[],.pointer (some ⟨B1,o1,none⟩),.pointer (some ⟨B2,o2,none⟩)] W fun e W'=>(∃v,e=.returned v)/\(J (cnt (min len 4)) W'\/Jx W')
def It(P:Program) (fn:Nat):Prop:=∀(x:Option Addr) (l B1 o1 B2 o2:Nat) (J:World->Prop) (W:World),W.cell? ⟨B1,o1+115,none⟩=some (.slice x 0 0)->(∀wr o,J wr->J (wr.alloc o))->J W->
  Calls P fn #[.func (.yield l) #[] #[],.pointer (some ⟨B1,o1,none⟩),.pointer (some ⟨B2,o2,none⟩)] W fun e W'=>(∃v,e=.returned v)/\J W'
theorem Av(w:World) (o:Obj):Below w.heap.size w (w.alloc o):=(Below.refl _ w).alloc (Nat.le_refl _) o
theorem Gb{w:World} {π:Nat->Nat->Prop} {k:IntKind} {n:Int} {v:Value} (h:DV w π (.int k n) v):v=.int k n:=by cases h;rfl
theorem Hs.of{P:Program} {fn:Nat} (hca:cg P fn=true) (hS:Is P fn) (hN:It P fn):Hs.Spec (Pure P) fn:=by
 intro t s ht;refine⟨fn,_,rfl,hca,?_,?_⟩
 ·intro x hx a ha
  obtain⟨k,_,rfl⟩:=List.mem_map.1 hx;simp only[oA,List.mem_cons,List.not_mem_nil,or_false]at ha
  rcases ha with rfl|rfl<;>simp[je,kM,Bs.cells,I]
 intro l J Jx W π vs hπ dv hJk hJb hJxb hY h0;obtain⟨hlen,hdv⟩:=dv
 match vs,hlen with
 |[v0,v1],_=>
 have d0:=hdv 0 _ _ rfl rfl
 have d1:=hdv 1 _ _ rfl rfl
 cases d0 with
 |ref _ B1 o1 g1 a1 a2 a3 a4=>
 cases d1 with
 |ref _ B2 o2 g2 b1 b2 b3 b4=>
 have hsl:=a3 115 _ (Tb.G5 ht)
 have hdb:=a4 115 _ (Tb.G5 ht)
 have hs0:=b3 0 (I s) rfl
 rw[Gb (b4 0 (I s) rfl),Nat.add_zero]at hs0
 have hp2:π B2 o2:=by have:=b2 0 (I s) rfl;rwa[Nat.add_zero]at this
 have hst:∀i wr o,J i wr->J i (World.alloc wr o):=fun i wr o h=>hJb i _ _ h (Av _ _)
 have hstx:∀wr o,Jx wr->Jx (World.alloc wr o):=fun wr o h=>hJxb _ _ h (Av _ _)
 generalize hgv:g1 115=gv at hsl hdb
 cases hbb:t.jC with
 |none=>
  rw[hbb]at hdb;cases hdb
  have he:iS t s=[]:=by simp[iS,m9,hbb]
  refine(hN none l B1 o1 B2 o2 (J 0) W hsl (fun wr o=>hst 0 wr o) h0).mono ?_
  rintro e W' ⟨h1,h2⟩
  exact⟨h1,.inl (by rw[he];exact h2)⟩
 |some L=>
  rw[hbb]at hdb;generalize hxs:L.map Bs.cells=xs at hdb
  have hdb':DV W π (.sl xs) gv:=by rw[<-hxs];exact hdb
  cases hdb' with
  |Mm a=>
   have hL:L=[]:=by simpa using hxs
   have he:iS t s=[]:=by simp[iS,m9,hbb,hL]
   refine(hN (some a) l B1 o1 B2 o2 (J 0) W hsl (fun wr o=>hst 0 wr o) h0).mono ?_
   rintro e W' ⟨h1,h2⟩
   exact⟨h1,.inl (by rw[he];exact h2)⟩
  |sl _ B off cap z f c1 c2 c3 c4 c5 c6=>
  have hxl:xs.length=L.length:=by rw[<-hxs];simp
  have hrow:∀k,k<L.length->xs[k]? =some (rq t k).cells:=fun k hk=>by
   rw[<-hxs];simp[rq,hbb,hk]
  have hz:∀k,k<L.length->z=2:=fun k hk=>(c2 k _ (hrow k hk)).symm
  have hcell:∀k,k<L.length->(W.cell? ⟨B,off+k*2,none⟩=some (.int .i64 (rq t k).set)/\W.cell? ⟨B,off+k*2+1,none⟩=some (.int .i64 (rq t k).lock))/\π B (off+k*2)/\π B (off+k*2+1):=fun k hk=>by
   have hz':=hz k hk
   subst hz'
   have e0:=c5 k 0 _ _ (hrow k hk) rfl
   have e1:=c5 k 1 _ _ (hrow k hk) rfl
   rw[Gb (c6 k 0 _ _ (hrow k hk) rfl)]at e0;rw[Gb (c6 k 1 _ _ (hrow k hk) rfl)]at e1;exact⟨⟨e0,e1⟩,c4 k 0 _ _ (hrow k hk) rfl,c4 k 1 _ _ (hrow k hk) rfl⟩
  have hnb:m9 t=min xs.length 4:=by simp[m9,hbb,hxl]
  have hek:((iS t s).map (oA t)).length=wC (fun k=>tb s k) (min xs.length 4):=by simp[iS,wC,hnb]
  rw[hek]
  refine hS l B1 o1 B2 o2 B off xs.length cap s (fun k c=>if c=0 then(rq t k).set else(rq t k).lock) J Jx W (wC fun k=>tb s k) rfl ?_ ?_ c1 hsl ?_ hst hstx ?_ h0
  ·intro k hk hb;rw[uL,if_pos ((Dp s (by omega)).1 hb)]
  ·intro k hk hb;rw[uL,if_neg (fun h=>hb ((Dp s (by omega)).2 h))]
  ·intro i wr hJ
   refine⟨fun k hk=>?_,?_⟩
   ·obtain⟨⟨e0,e1⟩,p0,p1⟩:=hcell k (by omega)
    simp only[if_true,if_neg (show ¬(1:Nat)=0 by decide)]
    exact⟨(hJk i wr hJ _ _ p0).trans e0,(hJk i wr hJ _ _ p1).trans e1⟩
   ·exact(hJk i wr hJ _ _ hp2).trans hs0
  ·intro n k wr hk hb hJ
   have hb':=(Dp s (by omega)).1 hb
   have hat:=Ga (fun k=>tb s k) hb' (m9 t) (by omega)
   have hx:((iS t s).map (oA t))[wC (fun k=>tb s k) k]? =some (oA t k):=by rw[List.getElem?_map,iS,hat];rfl
   exact hY n _ _ wr hx hJ
open Go.RowKit
def A6(P:Program) (fH:Nat):Prop:=∀(s p:Int) (w:World),Calls P fH #[.int .i64 s,.int .i64 p] w fun e w'=>e=.returned (.bool (ej s p))/\Below w.heap.size w w'
theorem A6.of{P:Program} {fH:Nat} (h:kn.Spec (Pure P) fH):A6 P fH:=by
 intro s p w
 refine((h s p).2 w (fun _ _=>False) [.int .i64 s,.int .i64 p] (fun _ _ h=>h.elim) ⟨rfl,?_⟩).mono fun e w' ⟨v,π',he,hb,_,_,_,hdv,_⟩=>?_
 ·intro i a v ha hv
  match i with
  |0=>simp at ha hv;subst ha;subst hv;exact .int _ _
  |1=>simp at ha hv;subst ha;subst hv;exact .int _ _
  |i+2=>simp at ha
 cases hdv;exact⟨he,hb⟩
def KQ(P:Program) (fn:Nat):Prop:=∀(l B2 o2:Nat) (s:Int) (J:Nat->World->Prop) (Jx:World->Prop) (W:World) (cnt:Nat->Nat),cnt 0=0->
  (∀k:Nat,k<8->ej s k=true->cnt (k+1)=cnt k+1)->(∀k:Nat,k<8->ej s k=false->cnt (k+1)=cnt k)->
  (∀i wr,J i wr->wr.cell? ⟨B2,o2,none⟩=some (.int .i64 s))->
  (∀i wr wr',J i wr->Below wr.heap.size wr wr'->J i wr')->(∀wr wr',Jx wr->Below wr.heap.size wr wr'->Jx wr')->
  (∀(n k:Nat) wr,k<8->ej s k=true->J (cnt k) wr->YieldAt Fence.wide n P l #[.int .i64 k] wr fun e W'=>(e=.returned (.bool true)/\J (cnt k+1) W')\/(e=.returned (.bool false)/\Jx W'))->
  J 0 W->
  Calls P fn #[.func (.yield l) #[] #[],.pointer (some ⟨B2,o2,none⟩)] W fun e W'=>(∃v,e=.returned v)/\(J (cnt 8) W'\/Jx W')
theorem th.of{P:Program} {fn:Nat} (hca:cg P fn=true) (hS:KQ P fn):th.Spec (Pure P) fn:=by
 intro s;refine⟨fn,_,rfl,hca,?_,?_⟩
 ·intro x hx a ha
  obtain⟨k,_,rfl⟩:=List.mem_map.1 hx;simp only[List.mem_cons,List.not_mem_nil,or_false]at ha;subst ha;simp[je,kM]
 intro l J Jx W π vs hπ dv hJk hJb hJxb hY h0;obtain⟨hlen,hdv⟩:=dv
 match vs,hlen with
 |[v1],_=>
 have d1:=hdv 0 _ _ rfl rfl
 cases d1 with
 |ref _ B2 o2 g2 b1 b2 b3 b4=>
 have hs0:=b3 0 (I s) rfl
 rw[Gb (b4 0 (I s) rfl),Nat.add_zero]at hs0
 have hp2:π B2 o2:=by have:=b2 0 (I s) rfl;rwa[Nat.add_zero]at this
 have hek:(((List.range 8).filter fun p=>tb s p).map fun(p:Nat)=>[I p]).length=wC (fun k=>tb s k) 8:=by simp[wC]
 rw[hek]
 refine hS l B2 o2 s J Jx W (wC fun k=>tb s k) rfl ?_ ?_ ?_ (fun i wr wr' h hb=>hJb i _ _ h hb) (fun wr wr' h hb=>hJxb _ _ h hb) ?_ h0
 ·intro k hk hb;rw[FE (by omega)]at hb;rw[uL,if_pos hb]
 ·intro k hk hb;rw[FE (by omega)]at hb;rw[uL,if_neg (by rw[hb];simp)]
 ·intro i wr hJ
  exact(hJk i wr hJ _ _ hp2).trans hs0
 ·intro n k wr hk hb hJ
  rw[FE (by omega)]at hb
  have hat:=Ga (fun k=>tb s k) hb 8 (by omega)
  have hx:(((List.range 8).filter fun p=>tb s p).map fun(p:Nat)=>[I p])[wC (fun k=>tb s k) k]? =some [I k]:=by rw[List.getElem?_map,hat];rfl
  exact hY n _ _ wr hx hJ
def SU(l:List Int) (p:Nat):List Int:=l.set p (yE .i64 (lD l p) 4)
def zk(l:List Int) (s:Int):List Int:=(fJ s).foldl SU l
theorem Sb(l:List Int) (p:Nat):(SU l p).length=l.length:=by simp[SU]
theorem Dq:∀(L:List Nat) (l:List Int),(L.foldl SU l).length=l.length
 |[],l=>rfl
 |p::L,l=>by rw[List.foldl_cons,Dq L,Sb]
theorem yB{l:List Int} (h:l.length=8) (s:Int):(zk l s).length=8:=by rw[zk,Dq,h]
theorem Z2{l:List Int} (h:l.length=8) {p:Nat} (hp:p<8) (v:Int):setCells (l.map I) p [I v]=(l.set p v).map I:=by
 rw[List.map_set];simp[setCells,List.set_eq_take_append_cons_drop,h,hp]
def Gc(t:Tb) (b:Bx) (x:Fr):bP:=RZ t b.st x.inp
def Gn(t:Tb) (b:Bx) (x:Fr):List Int:=iG (Gc t b x).runs
def tV(t:Tb) (b:Bx) (x:Fr):List Int:=zk (Gn t b x) x.iU
def Pj(t:Tb) (b:Bx) (x:Fr):Mn:=JF b.bt (tV t b x)
def Gp(t:Tb) (b:Bx) (x:Fr):Int:=if gC t b.bt (tV t b x)==0&&vZ t (Gc t b x).pre then 7 else gC t b.bt (tV t b x)
def V4(t:Tb) (b:Bx) (x:Fr):Prop:=t.Ok/\t.Fw/\VV t<=1000000/\b.Ok/\(b.st.gn.getD []).length<=1000000/\(x.samples.getD []).length<=1000000
def ruR(t:Tb) (b:Bx) (x:Fr):AV:=.cN [.agg (Gc t b x).cells,.agg (Pj t b x).cells,.agg ((Gn t b x).map I),I (Gp t b x)]
def Iu.Spec(C:aS) (f:Nat):Prop:=∀c0 c1 c2 c3:List AV,C.d f .gk [c0,c1,c2,c3] [none,none,none,none] [c0,c1,c2,c3]
def Dr.Spec(C:aS) (f:Nat):Prop:=∀(t:Tb) (b:Bx) (x:Fr),V4 t b x->C.c f [.agg t.cells,.agg b.cells,.agg x.cells] (ruR t b x) none
theorem Bx.Sd{b:Bx} (h:b.Ok):ay b.cells 3 (some 117)=some (.agg b.st.cells):=eu (pre:=[I b.mode,I b.time,I b.fault]) (mid:=b.st.cells) (post:=b.bt.cells++[I b.lines,I b.tick]) (off:=3) (z:=117) rfl (bP.len h.st)
theorem Bx.O0{b:Bx} (h:b.Ok):ay b.cells 120 (some 16)=some (.agg b.bt.cells):=by
 have e:b.cells=(I b.mode::I b.time::I b.fault::b.st.cells)++(b.bt.cells++[I b.lines,I b.tick]):=rfl
 rw[e]
 exact eu (off:=120) (z:=16) (by simp[bP.len h.st]) (Bx.Ow h)
theorem bP.O1{s:bP} (h:s.Ok):ay s.cells 106 (some 8)=some (.agg s.pre.cells):=by
 have e:s.cells=(cz s.runs++(s.rings.cells++s.kW.cells))++(s.pre.cells++(s.calls.cells++[aH Ch.cells s.gn])):=by simp[bP.cells,List.append_assoc]
 rw[e]
 exact eu (off:=106) (z:=8) (by simp[dF h.runs,gL.cells,Rd.cells,h.lock]) (by simp[Pr.cells,h.held])
section
variable{P:Program} (hm:P.follows .mixedOrders=true) {f:Nat}
include hm
theorem Iu.ok(hc:Rq P f=some ob):Iu.Spec (Pure P) f:=by
 intro c0 c1 c2 c3
 refine Od hm hc rfl (by show 4<=11;decide) rfl (by simp) ?_
 try simp only[I,B,D,RX,aY,aZ,bh,↓KW,↓bg,seval,ob,Z.H]
theorem Dr.ok{fR fS fL fE fM fK:Nat} (hc:Rv P f=some (rF fR fS fL fE fM fK)) (hR:Iu.Spec (Pure P) fR) (hS:Dg.Spec (Pure P) fS) (hL:Ir.Spec (Pure P) fL) (hE:tf.Spec (Pure P) fE) (hM:Dm.Spec (Pure P) fM) (hK:Cr.Spec (Pure P) fK):Dr.Spec (Pure P) f:=by
 intro t b x ⟨ht,hfw,hnd,hb,hch,hsm⟩;refine Jl ?_
 have hl:=Tb.len ht
 have hp:=Tb.whole ht
 have bl:=Bx.len hb
 have bw:=Bx.whole hb
 have bs:ay b.cells 3 (some 117)=some (.agg b.st.cells):=Bx.Sd hb
 have bm:ay b.cells 120 (some 16)=some (.agg b.bt.cells):=Bx.O0 hb
 have cS:=hS t b.st x.inp ht hfw hnd hb.st hch hsm
 have s0:(RZ t b.st x.inp)=Gc t b x:=rfl
 rw[s0]at cS
 have sok:(Gc t b x).Ok:=F8 ..
 have sl:=bP.len sok
 have sw:=bP.whole sok
 have sr:=bP.Ex sok
 have sp:ay (Gc t b x).cells 106 (some 8)=some (.agg (Gc t b x).pre.cells):=bP.O1 sok
 have cL:=hL (Gc t b x).runs sok.runs
 have cK:=hK t (Gc t b x).pre ht sok.held
 have l8:(Gn t b x).length=8:=kE _
 have i8:(tV t b x).length=8:=yB l8 _
 have cM:=hM t b.bt (tV t b x) ⟨ht.ln,hb.bt,i8⟩
 have mok:(Pj t b x).Ok:=qI i8 8
 obtain⟨ke,ck,ie⟩:=hE x.iU
 have x0:x.cells[0]? =some (aH iZ x.samples):=rfl
 have x1:x.cells[1]? =some (I x.push):=rfl
 have x2:x.cells[2]? =some (I x.ask):=rfl
 have x3:x.cells[3]? =some (I x.lines):=rfl
 have x4:x.cells[4]? =some (I x.iU):=rfl
 have x5:x.inp.cells=[aH iZ x.samples,.int .i64 x.push,.int .i64 x.ask,.int .i64 x.lines]:=rfl
 have x6:∀q,ig (aH iZ x.samples) q=true:=by intro q;cases x.samples<;>rfl
 have x7:(aH iZ x.samples).cells=[aH iZ x.samples]:=by cases x.samples<;>rfl
 have x8:x.cells.length=6/\ay x.cells 0 (some 6)=some (.agg x.cells):=⟨rfl,rfl⟩
 rw[x5]at cS;generalize aH iZ x.samples=Sl at*
 have hfo:Gp t b x=if gC t b.bt (tV t b x)==0&&vZ t (Gc t b x).pre then 7 else gC t b.bt (tV t b x):=rfl
 show wJ P f [] _ (.cN [.agg (Gc t b x).cells,.agg (Pj t b x).cells,.agg ((Gn t b x).map I),I (Gp t b x)]) none []
 have m0:JF b.bt (tV t b x)=Pj t b x:=rfl
 rw[m0]at cM
 have hlit:zk (Gn t b x) x.iU=tV t b x:=rfl
 have hll:iG (Gc t b x).runs=Gn t b x:=rfl
 rw[hll]at cL;generalize Gp t b x=fo at*;generalize Pj t b x=m at*;generalize tV t b x=lit at*;generalize Gn t b x=la at*;generalize Gc t b x=s at*
 have z1:bX.length=117:=rfl
 have z2:setCells bX 0 s.cells=s.cells:=bk (by rw[sl];rfl)
 have z3:setCells s.cells 0 s.cells=s.cells:=bk rfl
 have z4:dY.length=16:=rfl
 have z5:(la.map I).length=8:=by simp[l8]
 have z6:setCells [.int .i64 0,.int .i64 0,.int .i64 0,.int .i64 0,.int .i64 0,.int .i64 0,.int .i64 0,.int .i64 0] 0 (la.map I)=la.map I:=bk (by rw[z5];rfl)
 have z7:ay (la.map I) 0 (some 8)=some (.agg (la.map I)):=by have:=lG (la.map I) 0 8 (by rw[z5];decide);rw[this,List.drop_zero,<-z5,List.take_length]
 have z8:setCells (la.map I) 0 (la.map I)=la.map I:=bk rfl
 have faA:=And.intro hl (And.intro hp (And.intro bl (And.intro bw (And.intro bs (And.intro bm (And.intro sl (And.intro sw (And.intro sr (And.intro sp (And.intro x0 (And.intro x1 (And.intro x2 (And.intro x3 (And.intro x4 (And.intro x6 (And.intro x7 (And.intro x8 (And.intro z1 (And.intro z2 (And.intro z3 (And.intro z4 (And.intro z5 (And.intro z6 (And.intro z7 (z8)))))))))))))))))))))))))
 refine Og hm hc (by show 3<=59;decide) rfl (by simp) (Of (keep:=[]) ?_)
 try simp only[I,B,D,RY,aY,aZ,bh,↓KW,↓bg,seval,rF,Z.H,List.map_cons,List.map_nil,faA]
 refine aC cS ?_;try simp only[I,B,D,RY,aY,aZ,bh,↓KW,↓bg,seval,faA]
 refine aC cL ?_;try simp only[I,B,D,RY,aY,aZ,bh,↓KW,↓bg,seval,faA]
 refine aC ck ?_;try simp only[I,B,D,RY,aY,aZ,bh,↓KW,↓bg,seval,faA]
 refine ia (fun z:List Int=>(⟨[(32,.dat (.fn (.func ke) [] [.ref [I x.iU]]) none),(3,.ptr 4 0),(4,.ptr 5 0),(6,.ptr 7 0),(7,.ptr 8 0),(8,.ptr 9 0),(9,.ptr 10 0),(10,.ptr 32 0),(12,.oF fR [none,none,none,none] [7,8,9,10])],[(4,⟨t.cells,[]⟩),(5,⟨b.cells,[]⟩),(7,⟨s.cells,[]⟩),(8,⟨dY,[]⟩),(9,⟨la.map I,[]⟩),(10,⟨[.int .i64 0],[]⟩),(32,⟨z.map I,[]⟩)],[],400⟩:S)) (fun i z=>z=((fJ x.iU).take i).foldl SU la) ie rfl (gZ fun _=>rfl) (fun _=>rfl) ?_ ?_ la rfl ?_
 ·rintro i y z hy' he A back
  obtain⟨p,hp',rfl⟩:=m7 hy'
  have hp':(fJ x.iU)[i]? =some p:=hp'
  have hn:=kq (f:=SU) (b:=la) hp'
  rw[<-he]at hn
  have h8:=xF (List.mem_of_getElem? hp')
  have hz8:z.length=8:=by rw[he,Dq,l8]
  have hb8:0<=(p:Int)/\(p:Int)<8:=by omega
  have hat:(z.map I)[p]? =some (I (lD z p)):=Oh hz8 h8
  have hzl:(z.map I).length=8:=by simp[hz8]
  have hst:setCells (z.map I) p [I (yE .i64 (lD z p) 4)]=(SU z p).map I:=Z2 hz8 h8 _
  have hp7:p<=7:=by omega
  try simp only[I,B,D,RY,aY,aZ,bh,↓KW,↓bg,seval,hb8,hat,hzl,hst,hp7,faA]
  refine back (SU z p) _ hn.symm ?_
  refine ai (by decide) ?_ ?_ ?_ ?_<;>simp[LX,I,B,D,AA]
 ·rintro z hz
  have hzl:z=lit:=by
   rw[hz,<-hlit,zk]
   congr 1
   exact List.take_of_length_le (by simp[fJ])
  subst hzl
  have m1:=Mn.len mok
  have m2:=Mn.whole mok
  have m3:setCells dY 0 m.cells=m.cells:=bk (by rw[m1];rfl)
  have m4:setCells m.cells 0 m.cells=m.cells:=bk rfl
  have i1:(z.map I).length=8:=by simp[i8]
  have i2:ay (z.map I) 0 (some 8)=some (.agg (z.map I)):=by have:=lG (z.map I) 0 8 (by rw[i1];decide);rw[this,List.drop_zero,<-i1,List.take_length]
  have u1:∀v w:AV,setCells [v] 0 [w]=[w]:=fun _ _=>rfl
  have faA2:=And.intro m1 (And.intro m2 (And.intro m3 (And.intro m4 (And.intro i1 (And.intro i2 (And.intro u1 (faA)))))))
  try simp only[I,B,D,RY,aY,aZ,bh,↓KW,↓bg,seval,faA2]
  refine aC cM ?_;try simp only[I,B,D,RY,aY,aZ,bh,↓KW,↓bg,seval,faA2]
  rcases bf (gC t b.bt z==0)with h|h
  ·simp only[h,Bool.false_and,if_false,Bool.false_eq_true]at hfo
   try simp only[I,B,D,RY,aY,aZ,bh,↓KW,↓bg,seval,h,faA2]
   refine dG rfl ?_;try simp only[I,B,D,RY,aY,aZ,bh,↓KW,↓bg,seval,faA2]
   refine FY (hR _ _ _ _) rfl rfl rfl ?_;rw[hfo];try simp only[I,B,D,RY,aY,aZ,bh,↓KW,↓bg,seval,faA2]
  ·try simp only[I,B,D,RY,aY,aZ,bh,↓KW,↓bg,seval,h,faA2]
   refine aC cK ?_;try simp only[I,B,D,RY,aY,aZ,bh,↓KW,↓bg,seval,h,faA2]
   simp only[h,Bool.true_and]at hfo
   rcases bf (vZ t s.pre)with h2|h2
   ·simp only[h2,if_false,Bool.false_eq_true]at hfo
    try simp only[I,B,D,RY,aY,aZ,bh,↓KW,↓bg,seval,h2,faA2]
    refine dG rfl ?_;try simp only[I,B,D,RY,aY,aZ,bh,↓KW,↓bg,seval,faA2]
    refine FY (hR _ _ _ _) rfl rfl rfl ?_;rw[hfo];try simp only[I,B,D,RY,aY,aZ,bh,↓KW,↓bg,seval,faA2]
   ·simp only[h2,if_true]at hfo
    try simp only[I,B,D,RY,aY,aZ,bh,↓KW,↓bg,seval,h2,faA2]
    refine dG rfl ?_;try simp only[I,B,D,RY,aY,aZ,bh,↓KW,↓bg,seval,faA2]
    refine FY (hR _ _ _ _) rfl rfl rfl ?_;rw[hfo];try simp only[I,B,D,RY,aY,aZ,bh,↓KW,↓bg,seval,faA2]
 ·refine ai (by decide) ?_ ?_ ?_ ?_<;>simp[LX,I,B,D,AA]
end
open Go.RowKit (Below)
def KR(css:List (List AV)) (tg:Option (Nat×Nat×Nat)) (args:List (Option AV)):S:=⟨i9 0 0 args,qM 0 [0,1,2,3] tg (iE 0 css),yG 0 tg [],4⟩
def V5(res:List gG) (r:AV) (css:List (List AV)) (tg:Option (Nat×Nat×Nat)):Exit->S->Prop
 | .normal,s| .ret,s=>an (dO s res) fun p=>p.1=r/\iA s.boxes 0 css/\an (IJ s.boxes s.live ([0,1,2,3].take css.length) tg) fun _=>True
 |_,_=>False
theorem Se(res:List gG) (r:AV) (css:List (List AV)) (tg:Option (Nat×Nat×Nat)) (s:S):V5 res r css tg .normal s=an (dO s res) fun p=>p.1=r/\iA s.boxes 0 css/\an (IJ s.boxes s.live ([0,1,2,3].take css.length) tg) fun _=>True:=rfl
theorem Sf(res:List gG) (r:AV) (css:List (List AV)) (tg:Option (Nat×Nat×Nat)) (s:S):V5 res r css tg .ret s=an (dO s res) fun p=>p.1=r/\iA s.boxes 0 css/\an (IJ s.boxes s.live ([0,1,2,3].take css.length) tg) fun _=>True:=rfl
theorem Sg(css:List (List AV)) (tg:Option (Nat×Nat×Nat)) (args:List (Option AV)):KR css tg args=⟨i9 0 0 args,qM 0 [0,1,2,3] tg (iE 0 css),yG 0 tg [],4⟩:=rfl
theorem Mf(k:Nat):iE k []=[]:=rfl
theorem O2(k:Nat) (cs:List AV) (css:List (List AV)):iE k (cs::css)=(k,⟨cs,[]⟩)::iE (k+1) css:=rfl
theorem V6(id:Nat) (ids:List Nat) (l:List (Nat×bV)):qM id ids none l=l:=rfl
theorem V7(id b o e:Nat) (ids:List Nat) (l:List (Nat×bV)):qM id (b::ids) (some (0,o,e)) l=Az b o id l:=rfl
theorem V8(id b b' o e:Nat) (ids:List Nat) (l:List (Nat×bV)):qM id (b::b'::ids) (some (1,o,e)) l=Az b' o id l:=rfl
theorem V9(b o q:Nat):Az b o q []=[]:=rfl
theorem Z3(b o q k:Nat) (x:bV) (r:List (Nat×bV)):Az b o q ((k,x)::r)=bif b==k then(k,⟨x.cells,[(o,q)]⟩)::r else(k,x)::Az b o q r:=rfl
theorem Wa(id:Nat) (l:List (Nat×Nat)):yG id none l=l:=rfl
theorem Wb(id j o e:Nat) (l:List (Nat×Nat)):yG id (some (j,o,e)) l=(id,e)::l:=rfl
theorem Wc(bx:List (Nat×bV)) (lv:List (Nat×Nat)) (ids:List Nat):IJ bx lv ids none=some none:=rfl
def tgK(lv:List (Nat×Nat)) (o e:Nat):Option bV->Option (Option Nat)
 |some x=>(d7 o x.tags).bind fun q=>if d7 q lv=some e then some (some q)else none
 |none=>none
theorem Wd(bx:List (Nat×bV)) (lv:List (Nat×Nat)) (b o e:Nat) (ids:List Nat):IJ bx lv (b::ids) (some (0,o,e))=tgK lv o e (b9 b bx):=by
 simp only[IJ,List.getElem?_cons_zero,Option.bind_some]
 cases b9 b bx<;>rfl
theorem We(bx:List (Nat×bV)) (lv:List (Nat×Nat)) (b b' o e:Nat) (ids:List Nat):IJ bx lv (b::b'::ids) (some (1,o,e))=tgK lv o e (b9 b' bx):=by
 simp only[IJ,List.getElem?_cons_succ,List.getElem?_cons_zero,Option.bind_some]
 cases b9 b' bx<;>rfl
theorem Z4(lv:List (Nat×Nat)) (o e:Nat) (x:bV):tgK lv o e (some x)=(d7 o x.tags).bind fun q=>if d7 q lv=some e then some (some q)else none:=rfl
theorem Si(l:List (Nat×Nat)):Gv none l=l:=rfl
theorem Sj(q:Nat) (l:List (Nat×Nat)):Gv (some q) l=jr q l:=rfl
theorem Sk(q:Nat):jr q []=[]:=rfl
theorem Wf(q m e:Nat) (r:List (Nat×Nat)):jr q ((m,e)::r)=bif q==m then jr q r else(m,e)::jr q r:=rfl
def bD:=
 And.intro @Se (And.intro @Sf (And.intro @Sg (And.intro @Mf (And.intro @O2 (And.intro @V6 (And.intro @V7 (And.intro @V8 (And.intro @V9 (And.intro @Z3 (And.intro @Wa (And.intro @Wb (And.intro @Wc (And.intro @Wd (And.intro @We (And.intro @Z4 (And.intro @Si (And.intro @Sj (And.intro @Sk (@Wf)))))))))))))))))))
theorem dn{C:aS} {f:Nat} {css:List (List AV)} {as:List (Option AV)} {ids:List Nat} {id:Nat} {bx:List (Nat×bV)} {lv:List (Nat×Nat)} {k:SV->List (Nat×bV)->List (Nat×Nat)->Prop} {x:AV->List (Nat×bV)->Prop} {r:AV} {css':List (List AV)} {tg':Option (Nat×Nat×Nat)}
  (h:C.t f css none as r css' tg') (hk:k (.dat r none) (qM id ids tg' (d8 ids css' bx)) (yG id tg' lv)):@N7 C f css as ids id bx lv ⟨k,x⟩:=EC h rfl hk
theorem aA{C:aS} {f:Nat} {css:List (List AV)} {as:List (Option AV)} {ids:List Nat} {id:Nat} {bx:List (Nat×bV)} {lv:List (Nat×Nat)} {k:SV->List (Nat×bV)->List (Nat×Nat)->Prop} {x:AV->List (Nat×bV)->Prop} {r:AV} {css':List (List AV)} {tg':Option (Nat×Nat×Nat)} {j o e b q:Nat} {y:bV}
  (h:C.t f css (some (j,o,e)) as r css' tg') (h1:ids[j]? =some b) (h2:b9 b bx=some y) (h3:d7 o y.tags=some q) (h4:d7 q lv=some e) (hk:k (.dat r none) (qM id ids tg' (d8 ids css' bx)) (yG id tg' (jr q lv))):@N7 C f css as ids id bx lv ⟨k,x⟩:=
 EC (qo:=some q) h (by simp[IJ,h1,h2,h3,h4]) hk
section
variable{P:Program}
theorem Wg {w:World} {π:Nat→Nat→Prop} {Bs:List Nat} {vs:List Value} {css:List (List AV)} {tg:Option (Nat × Nat × Nat)} {tv:Value} {args:List (Option AV)} {nt:Nat} (hn:args.length≤nt) (h4:css.length≤4)
    (hprot:∀ b o,π b o→b < w.heap.size) (hnd:Bs.Nodup) (hbx:cw w π css Bs) (hd:fh w π args Bs vs) (htv:E6 P w π Bs (fun _=>True) tv tg) :
    dI P nt (gb.wK w Bs (Bj tg tv)) w π (KR css tg args) { tmps:=vs.toArray++Array.replicate (nt - vs.toArray.size) undef,defers:=[] } w:=by
  have hlen:=oQ hd
  obtain ⟨hbl,hbget⟩:=hbx.get
  have hβ:∀ (j B:Nat),Bs[j]? = some B→(gb.wK w Bs (Bj tg tv)).β j=B:=fun j B hj=>by simp [gb.wK,hj]
  have hbox:∀ b x,b9 b (iE 0 css)=some x→∃ B cs,b < 4∧Bs[b]? = some B∧(gb.wK w Bs (Bj tg tv)).β b=B∧x=⟨cs,[]⟩∧p8 (fun _=>tv) w π B ⟨cs,[]⟩:=by
    intro b x hb
    obtain ⟨cs,_,h2,h3⟩:=qi hb
    simp only [Nat.sub_zero] at h2
    have hlt:b < css.length:=(List.getElem?_eq_some_iff.1 h2).1
    have hB:Bs[b]? = some Bs[b]:=List.getElem?_eq_getElem (by omega)
    exact ⟨_,cs,by omega,hB,hβ _ _ hB,h3,(hbget b cs _ h2 hB).sB⟩
  have hlive:∀ q e,d7 q (yG 0 tg [])=some e→q=0∧∃ j o,tg=some (j,o,e):=by
    intro q e h
    cases tg with
    | none=>cases h
    | some p =>
      obtain ⟨j,o,e'⟩:=p
      simp only [yG,d7] at h
      by_cases hq:q=0
      · subst hq; simp at h; subst h; exact ⟨rfl,j,o,rfl⟩
      · have:(q == 0)=false:=by simpa using hq
        simp [this] at h
  have hinBs:∀ b x,b9 b (iE 0 css)=some x→(gb.wK w Bs (Bj tg tv)).β b∈Bs:=fun b x h=>by
    obtain ⟨B,cs,h1,h2,h3,_⟩:=hbox b x h
    rw [h3]; exact List.mem_of_getElem? h2
  have R0:Rel P nt (gb.wK w Bs (Bj tg tv)) w π (fun n=>n < 4) ⟨i9 0 0 args,iE 0 css,yG 0 tg [],4⟩ { tmps:=vs.toArray++Array.replicate (nt - vs.toArray.size) undef,defers:=[] } w (gb.wK w Bs (Bj tg tv)).β (fun _=>tv) π:=by
    refine { size:=?_,slots:=?_,boxes:=?_,inj:=?_,live:=fun q e h=>?_,cq:=fun q q' e e' B h h' _ _=>?_,cH:=fun q e b x h hb=>?_,below:=.refl _ _,eS:=Nat.le_refl _,eO:=hprot,eF:=fun _ _ h=>h,dc:=fun _ _ h=>.inl h,mj:=fun _ _=>rfl,jf:=fun _ h=>h,kept:=fun _ _ _=>rfl }
    · simp; omega
    · intro t v hv
      obtain ⟨x,_,hx,hor⟩:=oP hd hv
      simp only [Nat.sub_zero] at hx
      have htl:t < vs.length:=(List.getElem?_eq_some_iff.1 hx).1
      have hget:(vs.toArray++Array.replicate (nt - vs.toArray.size) undef)[t]? = some x:=by
        simp [Array.getElem?_append,htl]
        simpa using (List.getElem?_eq_some_iff.1 hx).2
      rcases hor with ⟨a,rfl,hda⟩|⟨j,B,rfl,hB,rfl⟩
      · exact ⟨⟨x,hget,(kS (U:=fun n=>n < 4) hda).1⟩,(kS (β:=id) (τ:=fun _=>undef) hda).2⟩
      · refine ⟨⟨_,hget,?_⟩,?_⟩
        · show Value.pointer (some ⟨B,0,none⟩)=.pointer (some ⟨(gb.wK w Bs (Bj tg tv)).β (0 + j),0,none⟩)
          rw [Nat.zero_add,hβ j B hB]
        · have:j < Bs.length:=(List.getElem?_eq_some_iff.1 hB).1
          show 0 + j < 4
          omega
    · intro b x hb
      obtain ⟨B,cs,h1,h2,h3,rfl,h5⟩:=hbox b x hb
      exact ⟨h1,.inr ⟨h1,by rw [h3]; exact .inl (List.mem_of_getElem? h2)⟩,by rw [h3]; exact h5,fun o q hq=>by cases hq⟩
    · intro b b' x x' hb hb' e
      obtain ⟨B,_,_,h2,h3,_,_⟩:=hbox b x hb
      obtain ⟨B',_,_,h2',h3',_,_⟩:=hbox b' x' hb'
      rw [h3,h3'] at e
      subst e
      exact uj hnd b b' B h2 h2'
    · obtain ⟨rfl,j,o,rfl⟩:=hlive q e h
      refine ⟨by decide,?_⟩
      obtain ⟨B,cur,el,_,_,_,htk,_⟩:=htv
      rcases htk with h|⟨TB,len,cap,cu,i,hv,_,hrest⟩
      · exact .inl h
      · exact .inr ⟨TB,len,cap,cu,i,hv,.inr (.inr ⟨rfl,by rw [hv]; rfl⟩),hrest⟩
    · rw [(hlive q e h).1,(hlive q' e' h').1]
    · intro hT
      obtain ⟨rfl,j,o,rfl⟩:=hlive q e h
      obtain ⟨B,cur,el,_,_,_,_,hnb⟩:=htv
      exact hnb _ hT (hinBs b x hb)
  refine ⟨Nat.le_refl 4,(gb.wK w Bs (Bj tg tv)).β,fun _=>tv,π,fun n=>n < 4,fun _ h=>h,?_⟩
  cases tg with
  | none=>exact R0
  | some p =>
    obtain ⟨j,o,e⟩:=p
    obtain ⟨B,cur,el,hj,hB,hcur,_,_⟩:=htv
    have hjl:j < Bs.length:=(List.getElem?_eq_some_iff.1 hj).1
    have hj4:([0,1,2,3]:List Nat)[j]? = some j:=by
      have:j=0∨j=1∨j=2∨j=3:=by omega
      rcases this with rfl|rfl|rfl|rfl<;>rfl
    have R1:=R0.tag (b:=j) (o:=o) (q:=0) (by decide) (fun cur' el' h=>by
      rw [hβ j B hj,hB] at h
      cases h
      exact hcur)
    simp only [KR,qM,hj4]
    exact R1
theorem Dt (hm:P.follows .mixedOrders=true) {f:FuncId} {cf:bM} {mo:Bool} (hcf:pZ mo P f=some cf) {css css':List (List AV)} {tg tg':Option (Nat × Nat × Nat)} {args:List (Option AV)} {r:AV} (hn:args.length≤cf.nt) (hl:css'.length=css.length) (h4:css.length≤4)
    (h:aw (Pure P) cf.code (V5 cf.res r css' tg') (KR css tg args)):MB P f css tg args r css' tg':=by
  obtain ⟨fn,c,cc,hfn,hbody,hrs,hcc,ec,en,hfit,hcall⟩:=BJ hcf
  rw [ec] at h
  rw [en] at hn
  refine ⟨hcall,hl,h4,fun w π Bs vs tv hprot hnd hbx hd htv=>?_⟩
  have hbl:=hbx.get.1
  have R:=Wg (P:=P) hn h4 hprot hnd hbx hd htv
  refine callsIn_wide.1 (callsIn_of_wp_marks (n:=0) (F:=Fence.wide) hfn hbody trivial (wpIn_mono (uh (wY hm c cc hcc hfit _ (fun _=>False) ⟨#[],[]⟩ (fun _ h=>h.elim) none 0 w _ _ _ _ ⟨R,fun l h=>by (cases h),⟨[],rfl,.nil,by simp⟩,fun _ h=>h.elim⟩ h)) ?_))
  have main:∀ (s:S) (a':Act) (w':World),(an (dO s cf.res) fun p=>p.1=r∧iA s.boxes 0 css'∧an (IJ s.boxes s.live ([0,1,2,3].take css'.length) tg') fun _=>True)→dI P fn.ntmps (gb.wK w Bs (Bj tg tv)) w π s a' w' →
      ∃ v,(results fn a'.tmps).run P w'=.ok v w'∧∃ u π' tv',Ending.returned v=.returned u∧uS (gb.wK w Bs (Bj tg tv)) w w'∧(∀ b o,π b o→π' b o)∧(∀ b o,π' b o→π b o∨w.heap.size≤b∨Bj tg tv b) ∧
        (∀ b o,π' b o→b < w'.heap.size)∧(∀ b o,π b o→w'.cell? ⟨b,o,none⟩=w.cell? ⟨b,o,none⟩)∧cw w' π' css' Bs∧DV w' π' r u∧E6 P w' π' Bs (fun B=>w.heap.size≤B∨Bj tg tv B) tv' tg':=by
    rintro s a' w' hq ⟨_,β,τ,π',U,hU,R'⟩
    obtain ⟨⟨av,q⟩,hp,hav,hho,htg⟩:=ah hq
    obtain ⟨qo,hqo,_⟩:=ah htg
    simp only at hav hho
    subst hav
    obtain ⟨v,hv,hdv,htq⟩:=qh R' hrs hp
    have hβ:∀ (j B:Nat),Bs[j]? = some B→β j=B:=fun j B hj=>by
      have:j < Bs.length:=(List.getElem?_eq_some_iff.1 hj).1
      rw [R'.mj j (by omega)]
      simp [gb.wK,hj]
    have hB:cw w' π' css' Bs:=w8 (β:=β) (fun b x hb=>(R'.boxes b x hb).2.2.1.sB) (by omega) (fun j B hj=>by rw [Nat.zero_add]; exact hβ j B hj) hho
    have hmemB:∀ B∈Bs,∃ j x,b9 j s.boxes=some x∧β j=B:=fun B hB'=>by
      obtain ⟨j,hj⟩:=List.mem_iff_getElem?.1 hB'
      have hjl:j < Bs.length:=(List.getElem?_eq_some_iff.1 hj).1
      obtain ⟨x,hx⟩:=yQ hho (j:=j) (by omega)
      rw [Nat.zero_add] at hx
      exact ⟨j,x,hx,hβ j B hj⟩
    suffices hx:∃ tv',E6 P w' π' Bs (fun B=>w.heap.size≤B∨Bj tg tv B) tv' tg' by
      obtain ⟨tv',ht'⟩:=hx
      exact ⟨v,hv,v,π',tv',rfl,R'.below,R'.eF,fun b o h=>(R'.dc b o h).imp id (fun k=>k.elim .inl (fun k=>k.elim (fun k=>absurd h (mR hB b k o)) .inr)),R'.eO,R'.kept,hB,hdv,ht'⟩
    cases tg' with
    | none=>exact ⟨undef,trivial⟩
    | some p =>
      obtain ⟨j,o,e⟩:=p
      obtain ⟨b,x,q',h1,h2,h3,h5,_⟩:=GI hqo
      have hbj:b=j∧j < css'.length:=by
        have hj:j < 4∧j < css'.length:=by
          have:=(List.getElem?_eq_some_iff.1 h1).1
          simp only [List.length_take,List.length_cons,List.length_nil] at this
          omega
        rw [List.getElem?_take_of_lt hj.2] at h1
        have:j=0∨j=1∨j=2∨j=3:=by omega
        rcases this with rfl|rfl|rfl|rfl<;>(simp at h1; exact ⟨h1.symm,hj.2⟩)
      obtain ⟨rfl,hj4⟩:=hbj
      obtain ⟨_,hokb,⟨cur,el,k1,_,_,k4,_⟩,_⟩:=R'.boxes b x h2
      refine ⟨τ q',β b,cur,el,?_,k1,k4 o q' h3,?_,fun TB hTB hm=>?_⟩
      · have hB':Bs[b]? = some Bs[b]:=List.getElem?_eq_getElem (by omega)
        rw [hβ b _ hB',hB']
      · have ht:=(R'.live q' e h5).2
        rcases ht with h|⟨B,len,cap,cu,i,hv',hok,hrest⟩
        · exact .inl h
        · refine .inr ⟨B,len,cap,cu,i,hv',?_,hrest⟩
          rcases hok with h|h|h
          · exact .inl h
          · exfalso
            obtain ⟨j',x',hx',hb'⟩:=hmemB B h
            exact R'.cH q' e j' x' h5 hx' (by rw [hv',hb']; rfl)
          · exact .inr h
      · obtain ⟨j',x',hx',hb'⟩:=hmemB TB hm
        exact R'.cH q' e j' x' h5 hx' (by rw [hTB,hb'])
  rintro e a' w' ⟨s,hq,R',_,⟨Ds,hm1,hm2,hm3⟩,_⟩
  have hm1:a'.defers=Ds.map MT:=by simpa using hm1
  cases e with
  | normal=>show LeavesInM _ _ _ _ _ _ a'.defers _ _; rw [hm1]; exact gw (main s a' · hq) Ds w' hm2 hm3 R' (Nat.le_refl _)
  | ret=>show LeavesInM _ _ _ _ _ _ a'.defers _ _; rw [hm1]; exact gw (main s a' · hq) Ds w' hm2 hm3 R' (Nat.le_refl _)
  | _=>exact hq.elim
end
def eJ(at' kind which:Int):List AV:=[I at',I kind,I which]
def qJ.Spec(C:aS) (e f:Nat):Prop:=∀(o:AV) (bc:List AV) (kind which:Int),C.t f [[o],bc] (some (0,0,e)) [some (B false),some (I kind),some (I which),none,none] (.cN []) [[o],bc] (some (0,0,e))
def qK.Spec(C:aS) (e f:Nat):Prop:=∀(bc:List AV) (tick kind which:Int),bc[137]? =some (I tick)->C.t f [[.aL],bc] none [some (B true),some (I kind),some (I which),none,none] (.cN []) [[.sl [eJ tick kind which]],bc] (some (0,0,e))
def qL.Spec(C:aS) (e f:Nat):Prop:=∀(l:List (List AV)) (bc:List AV) (tick kind which:Int),bc[137]? =some (I tick)->l.length<=1000->(∀r∈l,r.length=3)->C.t f [[.sl l],bc] (some (0,0,e)) [some (B true),some (I kind),some (I which),none,none] (.cN []) [[.sl (l++[eJ tick kind which])],bc] (some (0,0,e))
section
variable{P:Program} (hm:P.follows .mixedOrders=true) {f:Nat}
include hm
theorem qJ.ok{e:Nat} (hc:pZ true P f=some (bS e)):qJ.Spec (Pure P) e f:=by
 intro o bc kind which
 refine Dt hm hc (by show 5<=17;decide) rfl (by simp) (aj (keep:=[]) (i:=0) ?_)
 try simp only[I,B,D,RX,bD,Option.bind_some,cond_true,cond_false,if_true,aY,aZ,bh,↓KW,↓bg,seval,bS,Z.H,List.length_cons,List.length_nil,List.take_succ_cons,List.take_zero]
theorem qK.ok{e:Nat} (hc:pZ true P f=some (bS e)):qK.Spec (Pure P) e f:=by
 intro bc tick kind which h1
 have h2:∀x,setCells [.aL] 0 [x]=[x]:=fun _=>rfl
 refine Dt hm hc (by show 5<=17;decide) rfl (by simp) (aj (keep:=[]) (i:=0) ?_)
 try simp only[I,B,D,RX,bD,Option.bind_some,cond_true,cond_false,if_true,aY,aZ,bh,↓KW,↓bg,seval,bS,Z.H,h1,h2,eJ,List.length_cons,List.length_nil,List.take_succ_cons,List.take_zero]
theorem qL.ok{e:Nat} (hc:pZ true P f=some (bS e)):qL.Spec (Pure P) e f:=by
 intro l bc tick kind which h1 hl hr
 have h2:∀x y:AV,setCells [x] 0 [y]=[y]:=fun _ _=>rfl
 refine Dt hm hc (by show 5<=17;decide) rfl (by simp) (aj (keep:=[]) (i:=0) ?_)
 try simp only[I,B,D,RX,bD,Option.bind_some,cond_true,cond_false,if_true,aY,aZ,bh,↓KW,↓bg,seval,bS,Z.H,h1,h2,eJ,List.length_cons,List.length_nil,List.take_succ_cons,List.take_zero]
 exact⟨by omega,hr⟩
end
structure ace (t:Tb):Prop where
 lim:∀k,k<nR t->0<=(Ku t k).limit
 share:0<=t.share
structure Tm where
 out:List Fm
 left:Int
 held:Nat->Int
def h4(h:Nat->Int):List AV:=[I (h 0),I (h 1),I (h 2),I (h 3)]
structure acR (t:Tb) (i:Nat) (s:Tm):Prop where
 len:s.out.length=i
 left:0<=s.left/\s.left<=t.share
 held:∀k,0<=s.held k/\s.held k<=i
def Fr.fm(x:Fr):Fm:=⟨x.samples.map (List.map iZ),x.push,x.ask,x.lines,x.iU,x.reset⟩
theorem Fr.tW(x:Fr):x.fm.cells=x.cells:=by
 obtain⟨s,p,a,l,st,r⟩:=x
 cases s with
 |none=>rfl
 |some s=>
  have:aH smR (some (s.map iZ))=aH iZ (some s):=by
   simp only[aH,AV.sl.injEq,List.map_map];rfl
  simp only[Fr.fm,Fm.cells,Fr.cells,Option.map_some,this]
structure acS (x:Fm):Prop where
 Sl:(x.samples.getD []).length<=16
 ask:0<=x.ask/\x.ask<=15
 lines:0<=x.lines/\x.lines<=15
structure ScM (c:Sc):Prop where
 ask:0<=c.ask/\c.ask<=15
 lines:0<=c.lines/\c.lines<=15
end Go.Eng
