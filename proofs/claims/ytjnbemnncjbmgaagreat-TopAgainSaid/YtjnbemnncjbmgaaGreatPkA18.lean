/- Part 18 of the engine and its library. -/
import Derived.Test.YtjnbemnncjbmgaaGreatPkA17
set_option linter.all false
set_option maxRecDepth 10000
set_option maxHeartbeats 4000000
namespace Go.Eng
open Go
section
variable (wild:Bool) (l:List Int) {d k:Nat} {xs:List (Option Nat)} {α:Type} (f:α->List AV) (q:List α) (C:aQ) (i t v w:Nat) (x:Option Nat)
structure Fr where
 samples:Option (List (Option Nat))
 push:Int
 ask:Int
 lines:Int
 jB:Int
 reset:Bool
 deriving Inhabited
def Fr.cells(x:Fr):List AV:=[aJ jF x.samples,I x.push,I x.ask,I x.lines,I x.jB,B x.reset]
def c20:Nat:=4626322717216342016
def f20:Option Nat->Option Nat
 |none=>none
 |some x=>DF.sub c20 x
theorem ais:d7 .sub (.float .f64 4626322717216342016) (fv x)=some (fv (f20 x)):=by
 cases x with
 |none=>rfl
 |some x=>
  show Mx .f64 (DF.sub c20 x)=some (fv (DF.sub c20 x))
  cases DF.sub c20 x<;>rfl
theorem ait(q:Option Nat):gS (fv x) q=true:=by cases x<;>rfl
theorem US:(fv x).cells=[fv x]:=by cases x<;>rfl
def six:List (Option Nat):=[none,some 9218868437227405312,some 9223372036854775808,some 4613937818241073152,some 4711630319722168320,some 4604930618986332160]
structure Sc where
 xs:List (Option Nat)
 Gx:Nat
 ask:Int
 lines:Int
 deriving Inhabited
structure On where
 n:Nat
 push:Int
 lines:Int
 jB:Int
 reset:Bool
 deriving Inhabited
def ic:Nat:=v/16%64
def UT:Nat:=1+v/1024%30
def rA:On:=⟨UT v,0,0,0,false⟩
def ad1(k:Nat):Int:=IntKind.i64.wrap (256*2^min k IntKind.i64.bits)
def i9(c:Sc):Sc×On:=
 if v%16<3 then({c with xs:=c.xs.set (ic v%16) (f20 (c.xs.getD (ic v%16) none))},rA v)
 else if v%16=3 then({c with xs:=c.xs.set (ic v%16) (six.getD (ic v%6) none)},rA v)
 else if v%16<6 then(c,{rA v with push:=(v/1024%256:Nat)})
 else if v%16=6 then({c with ask:=Qm .i64 c.ask (2^(ic v%4))},rA v)
 else if v%16=7 then(c,{rA v with lines:=2^(ic v%4)})
 else if v%16=8 then({c with lines:=Qm .i64 c.lines (2^(ic v%4))},rA v)
 else if v%16=9 then(c,{rA v with n:=UT v*6})
 else if v%16=10 then({c with xs:=List.replicate 16 (some (FloatKind.f64.nearest (ic v%2*20:Nat)))},rA v)
 else if v%16=11 then({c with Gx:=ic v%17},rA v)
 else if v%16=12 then({c with Gx:=16,lines:=0},rA v)
 else if v%16=13 then(c,{rA v with push:=if wild&&ic v%4==0 then ad1 (ic v)else 0,jB:=if wild&&ic v%4==1 then(v/1024%256:Nat)else 0,reset:=wild&&ic v%2==0})
 else(c,rA v)
def oL(c:Sc) (o:On) (j:Nat):Fr:=
 ⟨d9 (c.xs.take c.Gx),if j=0 then o.push else 0,c.ask,if j=0 then AQ .i64 c.lines o.lines else c.lines,if j=0 then o.jB else 0,if j=0 then o.reset else false⟩
def Fz(c:Sc) (o:On) (out:List Fr):List Fr:=out++(List.range (min o.n (1500-out.length))).map (oL c o)
def O2(x:Sc×List Fr):Sc×List Fr:=((i9 wild v x.1).1,Fz (i9 wild v x.1).1 (i9 wild v x.1).2 x.2)
def scV:Nat:=(place (l.getD i 0) 1099511627776).toNat
def jN(wild:Bool) (l:List Int):Nat->Sc×List Fr
 |0=>(⟨List.replicate 16 (some 0),16,0,0⟩,[])
 |i+1=>if(jN wild l i).2.length<1500 then O2 wild (scV l i) (jN wild l i)else jN wild l i
def wL:List Fr:=(jN wild l (min l.length 120)).2
structure Sc.Ok (c:Sc):Prop where
 xs:c.xs.length=16
 Gx:c.Gx<=16
theorem O3:v%16=0\/v%16=1\/v%16=2\/v%16=3\/v%16=4\/v%16=5\/v%16=6\/v%16=7\/v%16=8\/v%16=9\/v%16=10\/v%16=11\/v%16=12\/v%16=13\/v%16=14\/v%16=15:=by omega
theorem Jc{wild:Bool} {v:Nat} {c:Sc} (h:c.Ok):(i9 wild v c).1.Ok/\(i9 wild v c).2.n<=180:=by
 have M:UT v<=30:=by unfold UT;omega
 have D:=h.Gx
 have L:=h.xs
 rcases O3 v with e|e|e|e|e|e|e|e|e|e|e|e|e|e|e|e<;>
  exact⟨⟨by simp[i9,e,L],by simp[i9,e,D];try omega⟩,by simp[i9,e,rA];omega⟩
theorem NG{c:Sc} {o:On} {out:List Fr} (h:out.length<=1500):(Fz c o out).length<=1500:=by simp[Fz];omega
theorem Jd(wild:Bool) (l:List Int):∀i,(jN wild l i).1.Ok/\(jN wild l i).2.length<=1500
 |0=>⟨⟨by simp[jN],by simp[jN]⟩,by simp[jN]⟩
 |i+1=>by
  have D:=Jd wild l i
  rw[jN];split
  ·exact⟨(Jc D.1).1,NG D.2⟩
  ·exact D
theorem HC{wild:Bool} {l:List Int} {i:Nat} (h:¬(jN wild l i).2.length<1500):∀j,jN wild l (i+j)=jN wild l i
 |0=>rfl
 |j+1=>by rw[<-Hb,jN,HC h j,ge h]
theorem NH{wild:Bool} {l:List Int} {i:Nat} (D:i<=min l.length 120) (h:i=min l.length 120\/¬(jN wild l i).2.length<1500):(jN wild l i).2=wL wild l:=by
 rcases h with h|h
 ·rw[h];rfl
 ·have:=HC h (min l.length 120-i)
  rw[show i+(min l.length 120-i)=min l.length 120 by omega]at this
  rw[wL,this]
theorem Y3:(scV l i:Int)=place (l.getD i 0) 1099511627776/\scV l i<1099511627776:=by
 have h:0<=place (l.getD i 0) 1099511627776/\place (l.getD i 0) 1099511627776<1099511627776:=by
  generalize l.getD i 0=v
  have D:=Ix v (b:=1099511627776) aaN
  have L:-1099511627776<v.tmod 1099511627776:=by
   have:=Int.lt_tmod_of_pos v (b:=1099511627776) aaN
   omega
  unfold place;split
  ·have:eo (v.tmod 1099511627776+1099511627776)=v.tmod 1099511627776+1099511627776:=aY aaN aaN
   rw[this];omega
  ·omega
 unfold scV;omega
theorem aiu(h:k<xs.length):(xs.map fv)[k]? =some (fv (xs.getD k none)):=by
 simp[ia,h]
theorem UU{x:Option Nat} (h:k<xs.length):setCells (xs.map fv) k [fv x]=(xs.set k x).map fv:=by
 rw[setCells,List.map_set,yi,ib (by simpa using h)]
 simp
theorem HD:∀(n:Nat) (xs:List (Option Nat)),n<=xs.length->cU 1 n (xs.map fv)=(xs.take n).map jF
 |0,_,_=>rfl
 |n+1,x::xs,h=>by
  have:=HD n xs (by simpa using h)
  simp[cU,this,jF]
 |n+1,[],h=>by simp at h
theorem O4:Qd (some (bA f q t))=some (aJ f (d9 q)):=by unfold bA d9;split<;>rfl
theorem O5:xH (aJ f (d9 q))=some (I q.length):=by unfold d9;split<;>simp_all [aJ,xH]
theorem LQ(k:SV->Prop):Qg k (bA f q t)=k (.dat (I q.length) none):=by
 unfold bA;split
 ·rename_i h;subst h;rfl
 ·rw[Ow];simp[xH]
theorem Y4:aj (X4 (some (bA f q t))) λp=>p.1=aJ f (d9 q):=by unfold bA d9;split<;>rfl
def MA(xs:List (Option Nat)) (w d:Nat):List (Option Nat):=List.replicate d (some w)++xs.drop d
theorem Y5(h:d<xs.length):(MA xs w d).set d (some w)=MA xs w (d+1):=by
 rw[MA,List.set_append,ge aaP]
 simp only[List.length_replicate,Nat.sub_self]
 have e:xs.drop d=xs[d]::xs.drop (d+1):=aaa h
 rw[e,List.set_cons_zero,MA];simp[List.replicate_succ',List.append_assoc]
theorem Y6(h:d<=xs.length):(MA xs w d).length=xs.length:=by simp[MA];omega
theorem Y7:MA xs w xs.length=List.replicate xs.length (some w):=by simp[MA]
theorem UW(xs:List (Option Nat)) (w:Nat):MA xs w 0=xs:=by simp[MA]
def Au(c:Sc):List AV:=[.aU,I 0,I c.ask,I c.lines,I 0,B false]
def xC(o:On):List AV:=[.aU,I o.push,I 0,I o.lines,I o.jB,B o.reset]
def FA.Spec(f:Nat):Prop:=∀(l:Option (List Int)) (wild:Bool),C.c f [aJ aH l,B wild] (aJ Fr.cells (d9 (wL wild (l.getD [])))) none
def UX.Spec(f:Nat):Prop:=C.c f [I 1] (Fl 9218868437227405312) none
def UY.Spec(f:Nat):Prop:=C.c f [Fl 0,Fl 13830554455654793216] (Fl 9223372036854775808) none
end
section
variable{P:Program} (hm:P.follows .mixedOrders=true) {f:Nat}
include hm
theorem UX.ok(D:bF P f=some Cr):UX.Spec (Pure P) f:=by
 show(Pure P).c f _ _ none
 refine aq hm D [] rfl ?_;try simp only[I,RX,↓KW,seval,Cr,Z.H]
 try rfl
theorem UY.ok(D:bF P f=some rz):UY.Spec (Pure P) f:=by
 show(Pure P).c f _ _ none
 refine aq hm D [] rfl ?_;try simp only[RX,↓KW,seval,rz,Z.H]
 try rfl
theorem FA.ok{fP fN fI fC e e2:Nat} (hc:bF P f=some (mW fP fN fI fC e e2)) (hP:Place.Spec (Pure P) fP) (hN:Ra.Spec (Pure P) fN) (hI:UX.Spec (Pure P) fI) (hC:UY.Spec (Pure P) fC):FA.Spec (Pure P) f:=by
 intro l wild;refine aq hm hc [3] rfl ?_;try simp only[B,RX,↓KW,seval,mW,Z.H]
 refine aK (λi:Nat=>(⟨[(9,.dat (I i) none),(0,.dat (aJ aH l) none),(1,.dat (B wild) none),(5,bA Fr.cells (jN wild (l.getD []) i).2 0),(6,.ptr 6 0),(7,.dat (I (jN wild (l.getD []) i).1.Gx) none),(8,.ptr 9 0)],[(6,⟨(jN wild (l.getD []) i).1.xs.map fv,[]⟩),(9,⟨Au (jN wild (l.getD []) i).1,[]⟩)],bP (jN wild (l.getD []) i).2 0 e2,400⟩:S)) (λi=>120-i) (λi=>i<=min (l.getD []).length 120) ?_ 0 aaN ?_
 rotate_left
 ·refine ai aaO ?_ ?_ ?_ ?_<;>simp[LX,I,B,jN,Au,Hu,fv,List.replicate]
 intro i hi A back
 have bd:=aD (k:=i) aaN
 have ao:=Jd wild (l.getD []) i
 have ab:=NH (wild:=wild) (l:=l.getD []) (i:=i) aaN
 have aa:jN wild (l.getD []) (i+1)=if(jN wild (l.getD []) i).2.length<1500 then O2 wild (scV (l.getD []) i) (jN wild (l.getD []) i)else jN wild (l.getD []) i:=rfl
 generalize hx:jN wild (l.getD []) i=x at*;obtain⟨c,out⟩:=x;simp only at ao ab aa
 have c8:Qd (some (bA Fr.cells out 0))=some (aJ Fr.cells (d9 out)):=O4 ..
 have b5:xH (aJ Fr.cells (d9 out))=some (I out.length):=O5 ..
 have df:=λk=>LQ Fr.cells out 0 k
 have ae:∀r,out=r->aj (X4 (some (bA Fr.cells out 0))) λp=>p.1=aJ Fr.cells (d9 r):=by
  intro r hr;subst hr;exact Y4 ..
 have am:=dC c8 (dC b5 (df))
 try simp only[I,B,RY,↓KW,seval]
 rcases bc (decide ((i:Int)<((l.getD []).length:Int)))with h1|h1
 ·try simp only[RY,↓KW,seval,h1]
  exact ae _ (ab (.inl (by have:=dE h1;omega)))
 rcases bc (decide ((i:Int)<120))with h2|h2
 ·try simp only[RY,↓KW,seval,h1,h2]
  exact ae _ (ab (.inl (by have:=dE h2;omega)))
 rcases bc (decide ((out.length:Int)<1500))with h3|h3
 ·try simp only[I,RY,↓KW,seval,h1,h2,h3,am]
  exact ae _ (ab (.inr (by have:=dE h3;omega)))
 have a1:=dT h1
 have a2:=dT h2
 have a3:=dT h3
 rw[ib aaN]at aa
 obtain⟨y,hy⟩:∃y,(l.getD [])[i]? =some y:=⟨_,eh aaN⟩
 have ct:(l.getD []).getD i 0=y:=by rw[ia,hy];rfl
 have hv:=Y3 (l.getD []) i
 rw[ct]at hv
 obtain⟨v,ca⟩:∃v,scV (l.getD []) i=v:=⟨_,rfl⟩
 rw[ca]at hv aa
 have hb:0<=(i:Int)/\(i:Int)<((l.getD []).length:Int):=aaN
 have cP:=hP y 1099511627776 aaN
 rw[<-hv.1]at cP
 have n1:IntKind.i64.wrap ((v:Int).tdiv 16)=((v/16:Nat):Int):=by rw[show(v:Int).tdiv 16=((v/16:Nat):Int)from rfl,aY aaN aaN]
 have n2:((v/16:Nat):Int).tmod 64=((ic v:Nat):Int):=rfl
 have n3:IntKind.i64.wrap ((v:Int).tdiv 1024)=((v/1024:Nat):Int):=by rw[show(v:Int).tdiv 1024=((v/1024:Nat):Int)from rfl,aY aaN aaN]
 have n4:IntKind.i64.wrap (1+((v/1024:Nat):Int).tmod 30)=((UT v:Nat):Int):=by rw[show((v/1024:Nat):Int).tmod 30=((v/1024%30:Nat):Int)from rfl,aY aaN aaN];rfl
 have n5:(v:Int).tmod 16=((v%16:Nat):Int):=rfl
 try simp only[I,RY,↓KW,seval,h2,h3,hy,hb,aH,am]
 refine af cP ?_;try simp only[I,RY,↓KW,seval,n1,n2,n3,n4,n5]
 apply adY (λy:Sc×On=>(⟨[(9,.dat (I i) none),(0,.dat (aJ aH l) none),(1,.dat (B wild) none),(5,bA Fr.cells out 0),(6,.ptr 6 0),(7,.dat (I y.1.Gx) none),(8,.ptr 9 0),(12,.dat (I y.2.n) none),(13,.ptr 429 0)],[(6,⟨y.1.xs.map fv,[]⟩),(9,⟨Au y.1,[]⟩),(429,⟨xC y.2,[]⟩)],bP out 0 e2,500⟩:S)) (λy=>y=i9 wild v c)
 ·intro L
  have ad:=ao.1.xs
  have dp:(v:Int).tdiv 1024=((v/1024:Nat):Int):=rfl
  have b4:((ic v:Nat):Int).tmod 16=((ic v%16:Nat):Int):=rfl
  have m6:((ic v:Nat):Int).tmod 6=((ic v%6:Nat):Int):=rfl
  have m4:((ic v:Nat):Int).tmod 4=((ic v%4:Nat):Int):=rfl
  have m2:((ic v:Nat):Int).tmod 2=((ic v%2:Nat):Int):=rfl
  have cv:((ic v:Nat):Int).tmod 17=((ic v%17:Nat):Int):=rfl
  have bo:((v/1024:Nat):Int).tmod 256=((v/1024%256:Nat):Int):=rfl
  have ci:c.xs[ic v%16]? =some (c.xs.getD (ic v%16) none):=by rw[ia,eh aaN];rfl
  have x6:([.fc,.float .f64 9218868437227405312,.float .f64 9223372036854775808,.float .f64 4613937818241073152,.float .f64 4711630319722168320,.float .f64 4604930618986332160]:List AV)[ic v%6]? =some (fv (six.getD (ic v%6) none)):=aiu (xs:=six) (by show ic v%6<6;omega)
  have sb:=ais (c.xs.getD (ic v%16) none)
  have st:=λx=>UU (xs:=c.xs) (k:=ic v%16) (x:=x) aaN
  have cr:0<=((ic v%16:Nat):Int)/\((ic v%16:Nat):Int)<16:=aaN
  have b6:0<=((ic v%6:Nat):Int)/\((ic v%6:Nat):Int)<6:=aaN
  have bw:ic v%16+1<=c.xs.length:=aaN
  have cb:setCells [.aU,.int .i64 0,.int .i64 0,.int .i64 0,.int .i64 0,.bool false] 0 [.aU,.int .i64 0,.int .i64 0,.int .i64 0,.int .i64 0,.bool false]=xC (rA v):=rfl
  have sf:∀(c:Sc) (x:Int),(Au c).length=6/\(Au c)[2]? =some (I c.ask)/\(Au c)[3]? =some (I c.lines)/\setCells (Au c) 2 [I x]=Au {c with ask:=x}/\setCells (Au c) 3 [I x]=Au {c with lines:=x}:=λ_ _=>⟨rfl,rfl,rfl,rfl,rfl⟩
  have cy:=λc=>(sf c 0).1
  have cu:=λc=>(sf c 0).2.1
  have c6:=λc=>(sf c 0).2.2.1
  have so:∀(o:On) (x:Int),setCells (xC o) 1 [I x]=xC {o with push:=x}/\setCells (xC o) 3 [I x]=xC {o with lines:=x}/\setCells (xC o) 4 [I x]=xC {o with jB:=x}:=λ_ _=>⟨rfl,rfl,rfl⟩
  have b8:∀(o:On) (x:Bool),setCells (xC o) 5 [B x]=xC {o with reset:=x}:=λ_ _=>rfl
  have ch:∀o:On,(xC o).length=6:=λ_=>rfl
  have s4:IntKind.i64.wrap (1*2^min (IntKind.u64.wrap ((ic v%4:Nat):Int)).toNat IntKind.i64.bits)=2^(ic v%4)/\0<=IntKind.u64.wrap ((ic v%4:Nat):Int):=by
   have:ic v%4=0\/ic v%4=1\/ic v%4=2\/ic v%4=3:=aaN
   rcases this with h|h|h|h<;>rw[h]<;>decide
  have dj:ic v<64:=by unfold ic;omega
  have s5:IntKind.u64.wrap ((ic v:Nat):Int)=((ic v:Nat):Int):=by
   rw[IntKind.wrap];simp[IntKind.signed,IntKind.bits];omega
  have s6:IntKind.i64.wrap (256*2^min (ic v) IntKind.i64.bits)=ad1 (ic v):=rfl
  have s7:0<=((ic v:Nat):Int):=aaN
  have n6:IntKind.i64.wrap (((UT v:Nat):Int)*6)=((UT v*6:Nat):Int):=by
   have:UT v<=30:=by unfold UT;omega
   rw[aY aaN aaN];omega
  have tn:((ic v:Nat):Int).toNat=ic v:=rfl
  have pf:∀ps,wZ 0 1 (some .fc) (some ps)=some ((0,[.fc])::ps):=λ_=>rfl
  have al:=dC pf (dC s4.1 (dC s5 (dC s6 (dC s7 (dC tn (dC n6 (dC n3 (dC b4 (dC m6 (dC m4 (dC m2 (dC cv (dC bo (dC ci (dC x6 (dC sb (dC st (dC cr (dC b6 (dC ad (dC bw (dC ait (dC US (dC cb (dC sf (dC cy (dC cu (dC c6 (dC so (dC b8 (dC ch (am))))))))))))))))))))))))))))))))
  rcases O3 v with e|e|e|e|e|e|e|e|e|e|e|e|e|e|e|e
  all_goals
   rw[e];try simp only[I,RY,↓KW,seval,al]
  iterate 3
   ·refine⟨aaN,?_⟩
    have R:i9 wild v c=({c with xs:=c.xs.set (ic v%16) (f20 (c.xs.getD (ic v%16) none))},rA v):=by simp[i9,e]
    refine L _ _ R.symm ?_
    by_cases O:out=[]
    all_goals refine ai aaO ?_ ?_ ?_ ?_<;>simp[LX,I,B,rA,Au,xC,O,bA,bP]
  ·refine af hN ?_
   try simp only[RY,↓KW,seval]
   refine af hI ?_;try simp only[RY,↓KW,seval]
   refine af hC ?_;try simp only[RY,↓KW,seval,al]
   refine⟨aaN,?_⟩
   have R:i9 wild v c=({c with xs:=c.xs.set (ic v%16) (six.getD (ic v%6) none)},rA v):=by simp[i9,e]
   refine L _ _ R.symm ?_
   by_cases O:out=[]
   all_goals refine ai aaO ?_ ?_ ?_ ?_<;>simp[LX,I,B,rA,Au,xC,O,bA,bP]
  iterate 2
   ·have R:i9 wild v c=(c,{rA v with push:=(v/1024%256:Nat)}):=by simp[i9,e]
    refine L _ _ R.symm ?_
    by_cases O:out=[]
    all_goals refine ai aaO ?_ ?_ ?_ ?_<;>simp[LX,I,B,rA,Au,xC,O,bA,bP]
  ·refine⟨s4.2,?_⟩
   have R:i9 wild v c=({c with ask:=Qm .i64 c.ask (2^(ic v%4))},rA v):=by simp[i9,e]
   refine L _ _ R.symm ?_
   by_cases O:out=[]
   all_goals refine ai aaO ?_ ?_ ?_ ?_<;>simp[LX,I,B,rA,Au,xC,O,bA,bP]
  ·refine⟨s4.2,?_⟩
   have R:i9 wild v c=(c,{rA v with lines:=2^(ic v%4)}):=by simp[i9,e]
   refine L _ _ R.symm ?_
   by_cases O:out=[]
   all_goals refine ai aaO ?_ ?_ ?_ ?_<;>simp[LX,I,B,rA,Au,xC,O,bA,bP]
  ·refine⟨s4.2,?_⟩
   have R:i9 wild v c=({c with lines:=Qm .i64 c.lines (2^(ic v%4))},rA v):=by simp[i9,e]
   refine L _ _ R.symm ?_
   by_cases O:out=[]
   all_goals refine ai aaO ?_ ?_ ?_ ?_<;>simp[LX,I,B,rA,Au,xC,O,bA,bP]
  ·have R:i9 wild v c=(c,{rA v with n:=UT v*6}):=by simp[i9,e]
   refine L _ _ R.symm ?_
   by_cases O:out=[]
   all_goals refine ai aaO ?_ ?_ ?_ ?_<;>simp[LX,I,B,rA,Au,xC,O,bA,bP]
  ·have R:i9 wild v c=({c with xs:=List.replicate 16 (some (FloatKind.f64.nearest (ic v%2*20:Nat)))},rA v):=by simp[i9,e]
   have n7:IntKind.i64.wrap (((ic v%2:Nat):Int)*20)=((ic v%2*20:Nat):Int):=by rw[aY aaN aaN];omega
   obtain⟨w,hw⟩:∃w,FloatKind.f64.nearest (ic v%2*20:Nat)=w:=⟨_,rfl⟩
   rw[hw]at R
   refine aK (λd:Nat=>(⟨[(14,.dat (I d) none),(9,.dat (I i) none),(0,.dat (aJ aH l) none),(1,.dat (B wild) none),(5,bA Fr.cells out 0),(6,.ptr 6 0),(7,.dat (I c.Gx) none),(8,.ptr 9 0),(11,.dat (I (ic v)) none),(12,.dat (I (UT v)) none),(13,.ptr 429 0)],[(6,⟨(MA c.xs w d).map fv,[]⟩),(9,⟨Au c,[]⟩),(429,⟨xC (rA v),[]⟩)],bP out 0 e2,460⟩:S)) (λd=>16-d) (λd=>d<=16) ?_ 0 aaN ?_
   rotate_left
   ·by_cases O:out=[]
    all_goals refine ai aaO ?_ ?_ ?_ ?_<;>simp[LX,I,B,UW,rA,Au,xC,O,bA,bP]
   intro d hd A3 V
   have ck:=aD (k:=d) aaN
   rcases bc (decide ((d:Int)<16))with g|g
   ·have bs:d=16:=by have:=dE g;omega
    subst bs
    have c5:MA c.xs w 16=List.replicate 16 (some w):=by have:=Y7 (xs:=c.xs) w;rw[ad]at this;exact this
    rw[c5];try simp only[I,B,RY,↓KW,seval]
    refine L _ _ R.symm ?_
    by_cases O:out=[]
    all_goals refine ai aaO ?_ ?_ ?_ ?_<;>simp[LX,I,B,rA,Au,xC,O,bA,bP]
   ·have dl:d<16:=by have:=dT g;omega
    have a5:0<=(d:Int)/\(d:Int)<16:=aaN
    have c0:(MA c.xs w d).length=16:=by rw[Y6 w aaN];exact ad
    have ak:=UU (xs:=MA c.xs w d) (k:=d) (x:=some w) aaN
    rw[Y5 w aaN]at ak
    have ak:setCells ((MA c.xs w d).map fv) d [.float .f64 w]=(MA c.xs w (d+1)).map fv:=ak
    try simp only[I,B,RY,↓KW,seval,a5,ak,c0,n7,hw,al]
    refine⟨aaN,V (d+1) _ aaN aaN ?_⟩
    by_cases O:out=[]
    all_goals refine ai aaO ?_ ?_ ?_ ?_<;>simp[LX,I,B,ck,rA,Au,xC,O,bA,bP]
  ·have R:i9 wild v c=({c with Gx:=ic v%17},rA v):=by simp[i9,e]
   refine L _ _ R.symm ?_
   by_cases O:out=[]
   all_goals refine ai aaO ?_ ?_ ?_ ?_<;>simp[LX,I,B,rA,Au,xC,O,bA,bP]
  ·have R:i9 wild v c=({c with Gx:=16,lines:=0},rA v):=by simp[i9,e]
   refine L _ _ R.symm ?_
   by_cases O:out=[]
   all_goals refine ai aaO ?_ ?_ ?_ ?_<;>simp[LX,I,B,rA,Au,xC,O,bA,bP]
  ·have R:i9 wild v c=(c,{rA v with push:=if wild&&ic v%4==0 then ad1 (ic v)else 0,jB:=if wild&&ic v%4==1 then(v/1024%256:Nat)else 0,reset:=wild&&ic v%2==0}):=by simp[i9,e]
   have e0:(((ic v%4:Nat):Int)==0)=(ic v%4==0):=by rw[Id];simp;omega
   have e1:(((ic v%4:Nat):Int)==1)=(ic v%4==1):=by rw[Id];simp;omega
   have e2:(((ic v%2:Nat):Int)==0)=(ic v%2==0):=by rw[Id];simp;omega
   obtain⟨b0,ce⟩:∃b,(ic v%4==0)=b:=⟨_,rfl⟩
   obtain⟨b1,da⟩:∃b,(ic v%4==1)=b:=⟨_,rfl⟩
   obtain⟨b2,a5⟩:∃b,(ic v%2==0)=b:=⟨_,rfl⟩
   rw[ce]at e0 R;rw[da]at e1 R;rw[a5]at e2 R
   have bi:=dC e0 (dC e1 (dC e2 (dC s6 (al))))
   rcases bc wild with hw|hw<;>rcases bc b0 with g0|g0<;>rcases bc b1 with g1|g1<;>rcases bc b2 with g2|g2
   all_goals
    subst hw g0 g1 g2;try simp only[RY,↓KW,seval,bi]
    try refine⟨s7,?_⟩
    try try simp only[I,B,D,RY,↓KW,seval,bi]
    refine L _ _ R.symm ?_
    by_cases O:out=[]
    all_goals refine ai aaO ?_ ?_ ?_ ?_<;>simp[LX,I,B,rA,Au,xC,O,bA,bP]
  iterate 2
   ·have R:i9 wild v c=(c,rA v):=by simp[i9,e]
    refine L _ _ R.symm ?_
    by_cases O:out=[]
    all_goals refine ai aaO ?_ ?_ ?_ ?_<;>simp[LX,I,B,rA,Au,xC,O,bA,bP]
 ·rintro _ rfl
  obtain⟨a4,cp⟩:=Jc (wild:=wild) (v:=v) ao.1
  rw[O2]at aa;simp only at aa;generalize i9 wild v c=y at*;obtain⟨M,o⟩:=y;simp only at a4 cp aa
  have ad:=a4.xs
  have dk:=a4.Gx
  have bj:=HD M.Gx M.xs aaN
  rw[List.map_take]at bj
  have c7:∀c:Sc,(Au c).length=6/\(Au c)[2]? =some (I c.ask)/\(Au c)[3]? =some (I c.lines):=λ_=>⟨rfl,rfl,rfl⟩
  have cx:∀o:On,(xC o).length=6/\(xC o)[1]? =some (I o.push)/\(xC o)[3]? =some (I o.lines)/\(xC o)[4]? =some (I o.jB)/\(xC o)[5]? =some (B o.reset):=λ_=>⟨rfl,rfl,rfl,rfl,rfl⟩
  have ac:aJ jF (d9 (M.xs.take M.Gx))=if M.Gx=0 then .aU else .sl ((M.xs.take M.Gx).map jF):=by
   unfold d9
   by_cases h0:M.Gx=0
   ·simp[h0,aJ]
   ·have:¬(M.xs.take M.Gx=[]):=by intro h;have:=rh List.length h;rw[H1]at this;simp only[gs]at this;omega
    simp[h0,this,aJ]
  obtain⟨Zp,a8⟩:∃x,aJ jF (d9 (M.xs.take M.Gx))=x:=⟨_,rfl⟩
  rw[a8]at ac
  have c4:∀j,(oL M o j).cells=[Zp,I (if j=0 then o.push else 0),I M.ask,I (if j=0 then AQ .i64 M.lines o.lines else M.lines),I (if j=0 then o.jB else 0),B (if j=0 then o.reset else false)]:=λj=>by rw[<-a8];rfl
  have co:out++(List.range 0).map (oL M o)=out:=aaP
  try simp only[I,B,RY,↓KW,seval,ad]
  refine⟨⟨aaN,aaN⟩,⟨aaN,aaN⟩,?_⟩
  rcases bc (M.Gx==0)with h0|h0
  all_goals
   first|rw[ge (by simpa using h0)]at ac|rw[ib (by simpa using h0)]at ac
   try simp only[RY,↓KW,seval,h0,<-ac]
   refine aK (λj:Nat=>(⟨[(16,.dat (I j) none),(12,.dat (I o.n) none),(15,.dat (Zp) none),(9,.dat (I i) none),(0,.dat (aJ aH l) none),(1,.dat (B wild) none),(5,bA Fr.cells (out++(List.range j).map (oL M o)) 0),(6,.ptr 6 0),(7,.dat (I M.Gx) none),(8,.ptr 9 0),(13,.ptr 429 0)],[(6,⟨M.xs.map fv,[]⟩),(9,⟨Au M,[]⟩),(429,⟨xC o,[]⟩)],bP (out++(List.range j).map (oL M o)) 0 e2,600⟩:S)) (λj=>200-j) (λj=>j<=min o.n (1500-out.length)) ?_ 0 aaN ?_
   rotate_left
   ·rw[co]
    by_cases O:out=[]
    all_goals refine ai aaO ?_ ?_ ?_ ?_<;>simp[LX,I,B,ac,bj,O,bA,bP]
   intro j hj A3 V
   have b7:=aD (k:=j) aaN
   have an:=c4 j
   have db:(List.range (j+1)).map (oL M o)=(List.range j).map (oL M o)++[oL M o j]:=by simp[lL]
   have au:(out++(List.range j).map (oL M o)).length=out.length+j:=aaP
   have bl:out++(List.range (j+1)).map (oL M o)=(out++(List.range j).map (oL M o))++[oL M o j]:=by rw[db,List.append_assoc]
   have bm:Fz M o out=out++(List.range (min o.n (1500-out.length))).map (oL M o):=rfl
   have di:Qd (some (bA Fr.cells (out++(List.range j).map (oL M o)) 0))=some (aJ Fr.cells (d9 (out++(List.range j).map (oL M o)))):=O4 ..
   have a7:xH (aJ Fr.cells (d9 (out++(List.range j).map (oL M o))))=some (I (out++(List.range j).map (oL M o)).length):=O5 ..
   have ag:j=min o.n (1500-out.length)->jN wild (l.getD []) (i+1)=(M,out++(List.range j).map (oL M o)):=by intro h;rw[aa,bm,<-h]
   have a9:=λk=>LQ Fr.cells (out++(List.range j).map (oL M o)) 0 k
   rw[au]at a7 a9;generalize hq:out++(List.range j).map (oL M o)=q at*;generalize oL M o j=fr at*
   have a6:=dC cx (dC c7 (dC b7 (dC di (dC a7 (dC a9 (am))))))
   try simp only[I,B,RY,↓KW,seval]
   rcases bc (decide ((j:Int)<((o.n:Nat):Int)))with g1|g1
   ·try simp only[RY,↓KW,seval,g1]
    refine back (i+1) _ aaN aaN ?_
    have he:=ag (by have:=dE g1;omega)
    by_cases O:q=[]
    all_goals refine ai aaO ?_ ?_ ?_ ?_<;>simp[LX,I,B,bd,he,O,bA,bP]
   rcases bc (decide (((out.length+j:Nat):Int)<1500))with g2|g2
   ·try simp only[I,RY,↓KW,seval,g1,g2,a6]
    refine back (i+1) _ aaN aaN ?_
    have he:=ag (by have:=dE g2;omega)
    by_cases O:q=[]
    all_goals refine ai aaO ?_ ?_ ?_ ?_<;>simp[LX,I,B,bd,he,O,bA,bP]
   have c1:=dT g1
   have c3:=dT g2
   have be:∀a b c d e g a' b' c' d' e' g':AV,setCells [a,b,c,d,e,g] 0 [a',b',c',d',e',g']=[a',b',c',d',e',g']:=λ_ _ _ _ _ _ _ _ _ _ _ _=>rfl
   have b3:∀a b c d e g h:AV,setCells [a,b,c,d,e,g] 1 [h]=[a,h,c,d,e,g]/\setCells [a,b,c,d,e,g] 3 [h]=[a,b,c,h,e,g]/\setCells [a,b,c,d,e,g] 4 [h]=[a,b,c,d,h,g]/\setCells [a,b,c,d,e,g] 5 [h]=[a,b,c,d,e,h]:=λ_ _ _ _ _ _ _=>⟨rfl,rfl,rfl,rfl⟩
   have ba:Zp.cells=[Zp]/\gS Zp none=true:=by rw[ac];first|exact⟨rfl,rfl⟩|(split<;>exact⟨rfl,rfl⟩)
   rcases bc ((j:Int)==0)with z|z
   ·have ar:¬j=0:=by intro h;rw[h]at z;simp at z
    simp only[ge ar]at an
    by_cases O:q=[]
    all_goals
     try simp only[I,RY,↓KW,seval,g1,g2,z,bA,bP,O,ba,be,au,a6]
     first
      |refine V (j+1) _ aaN aaN ?_
      |refine⟨aaN,λ_ _=>rfl,V (j+1) _ aaN aaN ?_⟩
     refine ai aaO ?_ ?_ ?_ ?_<;>simp[LX,I,B,bl,an,O,bA,bP]
   ·have ar:j=0:=by simpa using z
    simp only[ib ar]at an
    by_cases O:q=[]
    all_goals
     try simp only[I,B,RY,↓KW,seval,g1,g2,z,bA,bP,O,ba,be,b3,au,a6]
     first
      |refine V (j+1) _ aaN aaN ?_
      |refine⟨aaN,λ_ _=>rfl,V (j+1) _ aaN aaN ?_⟩
     refine ai aaO ?_ ?_ ?_ ?_<;>simp[LX,I,B,bl,an,O,bA,bP]
end
section
variable (p:Ph) (r:Rn) {l:List Rn} {t:Tb} {x y:Pr} (c:Cu)
def Fr.Wf(x:Fr):Hx:=⟨x.samples,x.push,x.ask,x.lines⟩
theorem FB(t:Tb) (s:bB) (x:Hx):(Mz t s x).Ok:=⟨Bq ..,by simp[Mz,rdE,vn,vm],Hy⟩
theorem Re(t:Tb) (s:bB) (x:Hx):((Mz t s x).gH.getD []).length=nDt t:=by
 rw[Mz,Fu,ez];simp[pL]
def Y8(D:List Fr):Prop:=∀x∈D,(x.samples.getD []).length<=1000000
theorem UZ{wild:Bool} {l:List Int}:∀i,Y8 (jN wild l i).2
 |0=>λx D=>by simp[jN]at D
 |i+1=>by
  have M:=UZ (wild:=wild) (l:=l) i
  have L:=(Jd wild l i).1
  rw[jN];split
  ·intro x D
   simp only[O2,Fz,lh,ne]at D
   rcases D with D|⟨j,_,rfl⟩
   ·exact M x D
   ·have:=(Jc (wild:=wild) (v:=scV l i) L).1.xs
    simp only[oL,ez,H1];omega
  ·exact M
theorem NJ(wild:Bool) (l:List Int):Y8 (wL wild l):=UZ _
structure Y9 (t:Tb) (x:Pr):Prop where
 rng:0<=x.ay/\x.ay<6
 which:x.ay≠0->0<=x.which/\x.which<(nR t:Int)
 zero:x.ay=0->x.which=0
theorem HE(h:x.which=y.which):bD t x=bD t y:=by rw[bD,bD,h]
theorem NK(h:x.which=y.which):jC t x l=jC t y l:=by rw[jC,jC,HE h]
theorem Je(h:x.which=y.which):iG t x l=iG t y l:=by rw[iG,iG,HE h]
theorem U0(lines:Int) (l:List Rn) (h:Y9 t x):Y9 t (j5 t x lines l).1/\
  (((j5 t x lines l).2=⟨0,0,0,true,false⟩/\x.ay=0/\(j5 t x lines l).1.ay=0)\/
   ((j5 t x lines l).2=jC t x l/\x.ay=5/\(j5 t x lines l).1.ay=0/\iG t x l=0)\/
   (1<=(j5 t x lines l).1.ay/\(j5 t x lines l).1.ay<6/\(j5 t x lines l).2=oC t (j5 t x lines l).1 l (j5 t x lines l).1.ay)):=by
 have hx:=h.rng
 have hw:=h.which
 have hz:=h.zero
 have hu:Gu (kG t x lines)=kG t x lines:=ge (by show ¬(x.ay<0\/6<=x.ay);omega)
 have Z:(kG t x lines).ay=x.ay:=rfl
 have V:(kG t x lines).which=x.which:=rfl
 have hr:j5 t x lines l=j4 t (kG t x lines) l:=by rw[j5,Y1,hu]
 rw[hr]
 have e3:=NK (t:=t) (l:=l) V
 have e4:=Je (t:=t) (l:=l) V
 generalize kG t x lines=u at*;rw[<-Z,<-V]at hw;rw[<-Z]at hx;rw[<-Z,<-V]at hz;rw[<-e3,<-e4,<-Z];clear Z V e3 e4 hr hu;unfold j4;split
 ·rename_i hk
  obtain⟨h1,h2⟩:=ND hk
  have ab:=Hz t u
  exact⟨⟨by show(0:Int)<=1/\(1:Int)<6;omega,λ_=>(by show 0<=aN t u/\aN t u<_;omega),λe=>(by cases e)⟩,.inr (.inr ⟨by show(1:Int)<=1;omega,by show(1:Int)<6;omega,rfl⟩)⟩
 ·split
  ·rename_i _ R
   have e:aF t u l=(iG t u l,u):=by rw[aF,ge aaN,ge aaN,ge aaN,ge aaN,ge aaN]
   rw[e]at R⊢
   exact⟨⟨by show(0:Int)<=0/\(0:Int)<6;omega,λe=>absurd rfl e,λ_=>rfl⟩,.inr (.inl ⟨rfl,R.1,rfl,R.2⟩)⟩
  ·rename_i _ R
   have L:=lO t u l
   have D:(aF t u l).1≠0->0<=(aF t u l).2.which/\(aF t u l).2.which<(nR t:Int):=by
    intro O
    have aa:u.ay≠0:=by
     intro e
     apply O
     simp[aF,e]
    have hk:=hw aa
    unfold aF
    repeat' split
    all_goals first|exact hk|skip
    unfold i7
    have ac:(gQ t u).which=u.which:=by unfold gQ;split<;>rfl
    split
    ·exact hk
    ·split
     ·rename_i h0
      have ab:=Hz t (gQ t u)
      exact⟨h0,by show aN t (gQ t u)<_;omega⟩
     ·rw[ac];exact hk
   have hzero:(aF t u l).1=0->u.ay=0/\(aF t u l).2=u:=by
    intro M
    by_cases e:u.ay=0
    ·exact⟨e,by simp[aF,e]⟩
    exfalso;revert M R;simp only[aF,sI,pI,nL,i7]
    repeat' split
    all_goals(simp only[];omega)
   refine⟨⟨L,λO=>D O,λM=>?_⟩,?_⟩
   ·obtain⟨a,b⟩:=hzero M
    show(aF t u l).2.which=0
    rw[b];exact hz a
   ·by_cases M:(aF t u l).1=0
    ·obtain⟨a,b⟩:=hzero M
     refine .inl ⟨?_,a,M⟩
     show oC t _ l (aF t u l).1=_
     rw[M];rfl
    ·exact .inr (.inr ⟨by show 1<=(aF t u l).1;omega,L.2,rfl⟩)
structure U1 (p:Ph) (r:Rn):Prop where
 col:0<=r.aA/\r.aA<=3
 iy:0<=r.fst/\r.fst<=2
 stop:r.fst=0->r.dH=0
 off:r.aA≠1->r.fst=0
 done:r.aA=1->r.done=true->p.min<=r.time/\r.fst=0
theorem HF(st time:Int) (b:Bool):(Lw p st time b=(2,1)/\st=1/\p.walk<=time)\/(Lw p st time b=(0,0)/\st=2/\p.eP<=time)\/(Lw p st time b=(1,bM time)/\st=1/\time<p.walk)\/(Lw p st time b=(2,bM time)/\st=2/\time<p.eP)\/((Lw p st time b=(1,1)\/Lw p st time b=(0,0))/\st≠1/\st≠2):=by
 unfold Lw
 by_cases D:st=1
 ·subst D
  by_cases h:time>=p.walk
  ·left;simp[h]
  ·right;right;left;simp[h];omega
 ·by_cases L:st=2
  ·subst L
   by_cases h:time>=p.eP
   ·right;left;simp[h]
   ·right;right;right;left;simp[h];omega
  ·right;right;right;right
   refine⟨?_,D,L⟩
   simp only[show(st==1)=false by simpa using D,show(st==2)=false by simpa using L,pc,eQ,il,PQ]
   split
   ·exact .inl rfl
   ·exact .inr rfl
theorem Bt:(JL p r c=(2,1)/\r.fst=1/\(p.walk<=r.dH\/c.cut=true))\/(JL p r c=(0,0)/\r.fst=2/\p.eP<=r.dH)\/(JL p r c=(1,bM r.dH)/\r.fst=1/\r.dH<p.walk)\/(JL p r c=(2,bM r.dH)/\r.fst=2/\r.dH<p.eP)\/((JL p r c=(1,1)\/JL p r c=(0,0))/\r.fst≠1/\r.fst≠2):=by
 unfold JL;split
 ·rename_i h
  simp only[ed,md]at h
  left
  exact⟨by rw[Q6,h.2];rfl,h.2,.inr h.1⟩
 ·rcases HF p r.fst r.dH (c.push&& !c.dM)with⟨a,b,d⟩|h
  ·exact .inl ⟨a,b,.inl d⟩
  ·exact .inr h
theorem Za{x m:Int} (h:m<=x) (D:m<=9999):m<=bM x:=by
 have:bM x=gN x 0 9999+1:=aY (by unfold gN;split<;>(try split)<;>omega) (by unfold gN;split<;>(try split)<;>omega)
 rw[this];unfold gN;split
 ·omega
 ·split<;>omega
structure aiv (p:Ph) (r:Rn) (c:Cu) (r':Rn):Prop where
 green:r.aA=1->c.fin=false->r'.aA=1/\r'.time=bM r.time/\r'.fst=(JL p r c).1/\r'.dH=(JL p r c).2
 fin:r.aA=1->c.fin=true->r'.aA=2/\r'.time=1/\r'.fst=0/\r'.dH=0
 dQ:r.aA=2->(r'.fst=0/\r'.dH=0)/\((r.time<p.dQ/\r'.aA=2/\r'.time=bM r.time)\/(p.dQ<=r.time/\0<p.red/\r'.aA=3/\r'.time=1)\/(p.dQ<=r.time/\p.red<=0/\r'.aA=0/\r'.time=1))
 clear:r.aA=3->(r'.fst=0/\r'.dH=0)/\((r.time<p.red/\r'.aA=3/\r'.time=bM r.time)\/(p.red<=r.time/\r'.aA=0/\r'.time=1))
 red:dX r=true->c.start=false->r'.aA=0/\r'.time=bM r.time/\r'.fst=0/\r'.dH=0
 start:dX r=true->c.start=true->r'.aA=1/\r'.time=1/\((r'.fst=1/\r'.dH=1)\/(r'.fst=0/\r'.dH=0))/\r'.done=false
theorem NL:aiv p r c (cj p r c):=by
 have L:dX r=true↔(r.aA≠1/\r.aA≠2/\r.aA≠3):=by simp[dX]
 constructor
 ·intro D M
  have e:cj p r c=gF p r c:=by simp[cj,D]
  rw[e,gF,M];simp only[eQ,il];split
  ·exact⟨rfl,rfl,rfl,rfl⟩
  ·split<;>exact⟨rfl,rfl,rfl,rfl⟩
 ·intro D M
  have e:cj p r c=gF p r c:=by simp[cj,D]
  rw[e,gF,M];simp only[kv]
  split<;>exact⟨rfl,rfl,rfl,rfl⟩
 ·intro D
  have e:cj p r c=nD p r:=by simp[cj,D]
  rw[e,nD];split
  ·exact⟨⟨rfl,rfl⟩,.inl ⟨by assumption,rfl,rfl⟩⟩
  ·split
   ·exact⟨⟨rfl,rfl⟩,.inr (.inl ⟨aaN,aaN,rfl,rfl⟩)⟩
   ·exact⟨⟨rfl,rfl⟩,.inr (.inr ⟨aaN,aaN,rfl,rfl⟩)⟩
 ·intro D
  have e:cj p r c=vF p r:=by simp[cj,D]
  rw[e,vF];split
  ·exact⟨⟨rfl,rfl⟩,.inl ⟨by assumption,rfl,rfl⟩⟩
  ·exact⟨⟨rfl,rfl⟩,.inr ⟨aaN,rfl,rfl⟩⟩
 ·intro D M
  obtain⟨a,b,d⟩:=L.1 D
  have e:cj p r c=Gt p r c:=by simp[cj,a,b,d]
  rw[e,Gt,M];exact⟨rfl,rfl,rfl,rfl⟩
 ·intro D M
  obtain⟨a,b,d⟩:=L.1 D
  have e:cj p r c=Gt p r c:=by simp[cj,a,b,d]
  rw[e,Gt,M];simp only[kv];refine⟨rfl,rfl,?_,rfl⟩
  show((Lw p 0 0 c.push).1=1/\(Lw p 0 0 c.push).2=1)\/((Lw p 0 0 c.push).1=0/\(Lw p 0 0 c.push).2=0)
  rcases HF p 0 0 c.push with⟨_,h,_⟩|⟨_,h,_⟩|⟨_,h,_⟩|⟨_,h,_⟩|⟨h,_⟩
  ·cases h
  ·cases h
  ·cases h
  ·cases h
  ·rcases h with h|h<;>rw[h]<;>simp
theorem HG{r:Rn} (h:0<=r.aA/\r.aA<=3):(r.aA=0/\dX r=true)\/(r.aA=1/\dX r=false)\/(r.aA=2/\dX r=false)\/(r.aA=3/\dX r=false):=by
 have:r.aA=0\/r.aA=1\/r.aA=2\/r.aA=3:=aaN
 rcases this with e|e|e|e<;>simp[dX,e]
theorem Zb{p:Ph} {r:Rn} (hm:p.min<=9999) (h:U1 p r):U1 p (cj p r c):=by
 have o:=NL p r c
 have hd:(cj p r c).aA=1->r.aA=1->c.fin=false->(cj p r c).done=true->p.min<=(cj p r c).time/\(cj p r c).fst=0:=by
  intro _ h1 h2 V;obtain⟨g1,g2,g3,g4⟩:=o.green h1 h2
  have hf:=Bt p r c
  have e:cj p r c=gF p r c:=by simp[cj,h1]
  have D:(dY p (iZ p r c) c=true)\/(iZ p r c).done=true:=by
   rw[e,gF,h2]at V;simp only[eQ,il]at V;split at V
   ·exact .inr V
   ·split at V
    ·rename_i hh;exact .inl hh
    ·exact .inr V
  rcases D with D|D
  ·simp only[dY,ed,ii,sm,gE,zd,wb]at D
   obtain⟨⟨⟨_,k1⟩,k2⟩,_⟩:=D
   refine⟨by rw[g2];exact k1,?_⟩
   have k3:(JL p r c).1≠1/\(JL p r c).1≠2:=k2
   rw[g3]
   rcases hf with⟨a,_⟩|⟨a,_⟩|⟨a,_⟩|⟨a,_⟩|⟨a|a,_⟩<;>rw[a]at k3⊢<;>simp at k3⊢
  ·have L:(if bN p r c then false else r.done)=true:=D
   have R:bN p r c=false:=by
    cases M:bN p r c
    ·rfl
    ·rw[M]at L;cases L
   rw[R]at L;obtain⟨m1,m2⟩:=h.done h1 L
   refine⟨by rw[g2];exact Za m1 hm,?_⟩
   rw[g3]
   have O:(JL p r c).1≠1:=by
    simp only[bN,gE,m2]at R
    simpa using R
   rcases hf with⟨a,b,_⟩|⟨a,b,_⟩|⟨a,b,_⟩|⟨a,b,_⟩|⟨a|a,_⟩
   ·omega
   ·rw[a]
   ·omega
   ·omega
   ·rw[a]at O;exact absurd rfl O
   ·rw[a]
 rcases HG h.col with⟨e,Z⟩|⟨e,Z⟩|⟨e,Z⟩|⟨e,Z⟩
 ·cases M:c.start
  ·obtain⟨a,b,d,g⟩:=o.red Z M
   exact⟨aaN,aaN,λ_=>g,λ_=>d,λk=>aaN⟩
  ·obtain⟨a,b,d,g⟩:=o.start Z M
   exact⟨aaN,aaN,λk=>aaN,λk=>aaN,λ_ k=>by rw[g]at k;cases k⟩
 ·cases M:c.fin
  ·obtain⟨a,b,d,g⟩:=o.green e M
   refine⟨aaN,?_,λk=>?_,λk=>absurd a k,λk1 k2=>hd k1 e M k2⟩
   ·rw[d]
    rcases Bt p r c with⟨x,_⟩|⟨x,_⟩|⟨x,_⟩|⟨x,_⟩|⟨x|x,_⟩<;>rw[x]<;>simp
   ·rw[d]at k
    rw[g]
    rcases Bt p r c with⟨x,_⟩|⟨x,_⟩|⟨x,_⟩|⟨x,_⟩|⟨x|x,_⟩<;>rw[x]at k⊢<;>simp at k⊢
  ·obtain⟨a,b,d,g⟩:=o.fin e M
   exact⟨aaN,aaN,λ_=>g,λ_=>d,λk=>aaN⟩
 ·obtain⟨⟨d,g⟩,a⟩:=o.dQ e
  exact⟨aaN,aaN,λ_=>g,λ_=>d,λk=>aaN⟩
 ·obtain⟨⟨d,g⟩,a⟩:=o.clear e
  exact⟨aaN,aaN,λ_=>g,λ_=>d,λk=>aaN⟩
structure TG (t:Tb) (n:Nat):Prop where
 n8:n<=8
 on:∀p:Nat,p<8->(aV t p).on=decide (p<n)
 ph:∀p:Nat,p<n->ada (aV t p)
 off:∀p:Nat,p<8->n<=p->aV t p=default
 sym:∀p q,p<8->q<8->tb (gm t p) q=tb (gm t q) p
 con:∀p q:Nat,p<8->q<8->tb (gm t p) q=true->p≠q/\gq t p q=false
 uq:Uq t
 wh:∀p:Nat,p<n->(aC t p).2=true
 whn:∀p:Nat,(aC t p).2=true->p<n
 rl:(t.bQ.getD []).length<=2/\∀r∈t.bQ.getD [],TZ t n r
theorem TG.min{t:Tb} {n:Nat} (h:TG t n) {p:Nat} (D:p<8):(aV t p).min<=9999:=by
 by_cases e:p<n
 ·have:=(h.ph p e).min;omega
 ·rw[h.off p D aaN];decide
end
section
variable (t:Tb) (r:gx) (l:List Rn) (want:Int) {i p:Nat} (k:Int)
structure SI (t:Tb) (n:Nat) (s:bB):Prop where
 ok:s.Ok
 safe:∀p q,p<8->q<8->tb (gm t p) q=true->dX (s.rn p)=true\/dX (s.rn q)=true
 run:∀p:Nat,p<8->U1 (aV t p) (s.rn p)
 off:∀p,p<8->n<=p->dX (s.rn p)=true
 pre:Y9 t s.pre
 ring:s.pre.ay=0->∀p:Nat,p<8->(s.rn p).aA=1->∃k:Int,(k=0\/k=1)/\oE t s.rings k=p
structure LR (t:Tb) (n:Nat) (s:bB) (st fn ct:Int) (ay:Int) (rg:gx):Prop where
 start:∀p,p<8->tb st p=true->dX (s.rn p)=true/\p<n/\∀q,q<8->tb (gm t p) q=true->dX (s.rn q)=true
 two:∀p q,p<8->q<8->tb st p=true->tb st q=true->tb (gm t p) q=false
 fin:∀p:Nat,p<8->tb fn p=true->(s.rn p).aA=1->((aV t p).min<=(s.rn p).time/\(s.rn p).fst=0)\/ay=1\/ay=3
 cut:∀p,p<8->tb ct p=true->ay=1\/ay=3
 ring:ay=0->∀p:Nat,p<8->((s.rn p).aA=1/\tb fn p=false)\/tb st p=true->∃k:Int,(k=0\/k=1)/\oE t rg k=p
theorem FC{t:Tb} {l:List Rn} (h:jh t l p=true):dX (aX l p)=true/\(aX l p).time>=t.revert/\∀q,q<8->tb (gm t p) q=true->dX (aX l q)=true:=by
 simp only[jh,ed,ii]at h;exact⟨h.1.1,h.1.2,vq.1 h.2⟩
def Zc:Prop:=Db t r l k=false/\yH t r want k>=0/\jh t l (tW t r.group k (yH t r want k)).toNat=true
def enR:Prop:=Db t r l k=true/\Ht t r l want k=true
def qR:Int:=tW t r.group k (yH t r want k)
theorem wM(x:gx×Int×Int):
  (enR t r l want k/\¬Zc t r l want k/\tX t r l want k x=(x.1,x.2.1,dZ x.2.2 (oE t r k)))\/(Zc t r l want k/\¬enR t r l want k/\tX t r l want k x=(x.1.put k (yH t r want k),dZ x.2.1 (qR t r want k),x.2.2))\/(¬enR t r l want k/\¬Zc t r l want k/\tX t r l want k x=x):=by
 unfold tX;split
 ·rename_i h
  split
  ·rename_i L
   exact .inl ⟨⟨h,L⟩,λD=>(by rw[D.1]at h;cases h),rfl⟩
  ·rename_i L
   exact .inr (.inr ⟨λD=>L D.2,λD=>(by rw[D.1]at h;cases h),rfl⟩)
 ·rename_i h
  split
  ·rename_i M
   split
   ·rename_i L
    exact .inr (.inl ⟨⟨by simpa using h,M,L⟩,λD=>h D.1,rfl⟩)
   ·rename_i L
    exact .inr (.inr ⟨λD=>h D.1,λD=>L D.2.2,rfl⟩)
  ·rename_i M
   exact .inr (.inr ⟨λD=>h D.1,λD=>M D.2.1,rfl⟩)
theorem mI{s:Int} {p:Int} (D:0<=p/\p<8) (i:Nat):tb (dZ s p) i=(tb s i&&decide (i<8)||decide ((i:Int)=p)):=by
 obtain⟨k,rfl⟩:∃k:Nat,p=k:=⟨p.toNat,aaN⟩
 rw[o5 aaN]
 congr 1
 exact decide_eq_decide.2 aaN
theorem vJ(O:i<8):
  (tb (kJ t r l want).2.1 i=true->∃k:Int,(k=0\/k=1)/\Zc t r l want k/\(i:Int)=qR t r want k)/\
  (tb (kJ t r l want).2.2 i=true->∃k:Int,(k=0\/k=1)/\enR t r l want k/\(i:Int)=oE t r k):=by
 have D:∀k:Int,(k=0\/k=1)->Zc t r l want k->0<=qR t r want k/\qR t r want k<8:=λk hk h=>LF h.2.1 aaN
 have n8:∀k:Int,enR t r l want k->0<=oE t r k/\oE t r k<8:=λk h=>Nt h.1
 unfold kJ
 have L:=wM t r l want 1 (tX t r l want 0 (r,0,0))
 have M:=wM t r l want 0 (r,0,0)
 rcases M with⟨a,b,e⟩|⟨a,b,e⟩|⟨a,b,e⟩<;>rw[e]at L⊢<;>rcases L with⟨a1,b1,e1⟩|⟨a1,b1,e1⟩|⟨a1,b1,e1⟩<;>rw[e1]<;>
  constructor<;>intro h<;>simp only[lU]at h<;>(try(cases h;done))
 all_goals
  first
   |rw[mI (n8 1 a1),mI (n8 0 a)]at h
   |rw[mI (D 1 (.inr rfl) a1),mI (D 0 (.inl rfl) a)]at h
   |rw[mI (n8 1 a1)]at h
   |rw[mI (D 1 (.inr rfl) a1)]at h
   |rw[mI (n8 0 a)]at h
   |rw[mI (D 0 (.inl rfl) a)]at h
  simp only[lU,O,decide_true,pB,w5,px,ii]at h
  first
   |(rcases h with h|h
     ·exact⟨0,.inl rfl,a,h⟩
     ·exact⟨1,.inr rfl,a1,h⟩)
   |exact⟨0,.inl rfl,a,h⟩
   |exact⟨1,.inr rfl,a1,h⟩
theorem U2:(kJ t r l want).1.group=r.group/\∀k:Int,(k=0\/k=1)->(Zc t r l want k->(kJ t r l want).1.at k=yH t r want k)/\(¬Zc t r l want k->(kJ t r l want).1.at k=r.at k):=by
 unfold kJ
 have D:=wM t r l want 1 (tX t r l want 0 (r,0,0))
 have L:=wM t r l want 0 (r,0,0)
 rcases L with⟨a,b,e⟩|⟨a,b,e⟩|⟨a,b,e⟩<;>rw[e]at D⊢<;>rcases D with⟨a1,b1,e1⟩|⟨a1,b1,e1⟩|⟨a1,b1,e1⟩<;>rw[e1]<;>
  refine⟨rfl,λk hk=>?_⟩<;>rcases hk with rfl|rfl<;>refine⟨λh=>?_,λh=>?_⟩<;>first|rfl|exact absurd h (by assumption)|exact absurd (by assumption) h
theorem O6{t:Tb} {r:gx} {k:Int} (hk:k=0\/k=1):oE t r k=tW t r.group k (r.at k):=by rw[oE,ge aaN]
theorem ad3{t:Tb} {r:gx} {l:List Rn} {want k:Int} (hk:k=0\/k=1) (h:Zc t r l want k) (L:(i:Int)=qR t r want k):jh t l i=true:=by
 have D:=h.2.2
 rw[show tW t r.group k (yH t r want k)=qR t r want k from rfl,<-L,pu]at D
 exact D
theorem HH{t:Tb} {n:Nat} {s:bB} (g:TG t n) {r:gx} {want:Int} (O:p<8) (h:tb (kJ t r s.runs want).2.1 p=true):dX (s.rn p)=true/\p<n/\∀q,q<8->tb (gm t p) q=true->dX (s.rn q)=true:=by
 obtain⟨k,hk,M,L⟩:=(vJ t r s.runs want O).1 h
 obtain⟨a,_,b⟩:=FC (ad3 hk M L)
 refine⟨a,?_,b⟩
 have D:=Fx g.uq (t:=t) (g:=r.group) (r:=k) (pl:=yH t r want k) (LF M.2.1 aaN).1
 rw[show tW t r.group k (yH t r want k)=qR t r want k from rfl,<-L]at D
 exact g.whn p (by rw[D])
end
section
variable {e k:Int} {n p q:Nat} {r:gx} {s:bB} {t:Tb} {want:Int}
theorem O7(g:TG t n) (M:p<8) (O:q<8) (h:tb (kJ t r s.runs want).2.1 p=true) (Z:tb (kJ t r s.runs want).2.1 q=true):tb (gm t p) q=false:=by
 obtain⟨k,hk,h1,L⟩:=(vJ t r s.runs want M).1 h
 obtain⟨j,hj,h3,h4⟩:=(vJ t r s.runs want O).1 Z
 cases hc:tb (gm t p) q with
 |false=>rfl
 |true=>
  exfalso;obtain⟨V,D⟩:=g.con p q M O hc
  have a1:=(LF h1.2.1 aaN).1
  have R:=(LF h3.2.1 aaN).1
  rw[L,h4]at D
  rcases hk with rfl|rfl<;>rcases hj with rfl|rfl
  ·exact V (by have:=L.trans h4.symm;omega)
  ·have:=HB g.uq a1 R
   rw[show gq t (qR t r want 0) (qR t r want 1)=true from this]at D;cases D
  ·have:=HB g.uq R a1
   rw[Nh,show gq t (qR t r want 0) (qR t r want 1)=true from this]at D;cases D
  ·exact V (by have:=L.trans h4.symm;omega)
theorem O8(I:SI t n s) (D:p<8) (L:(s.rn p).aA=1) (h:(s.rn p).done=true\/Nq (aV t p) (s.rn p)=true):(aV t p).min<=(s.rn p).time/\(s.rn p).fst=0:=by
 have R:=I.run p D
 rcases h with h|h
 ·exact R.done L h
 ·simp only[Nq,ed,ii,sm,zd,wb]at h
  have:=R.iy
  exact⟨h.1.1.2,aaN⟩
theorem Zd(I:SI t n s) (L:p<8) (h:tb (kJ t r s.runs want).2.2 p=true):(aV t p).min<=(s.rn p).time/\(s.rn p).fst=0:=by
 obtain⟨k,hk,M,O⟩:=(vJ t r s.runs want L).2 h
 have D:=M.2
 rw[Ht,<-O,pu]at D
 have D:((s.rn p).aA==1&&(((s.rn p).done&&decide (yH t r want k>=0))||(Nq (aV t p) (s.rn p)&& !eK want p)))=true:=D
 simp only[ed,px,md]at D;refine O8 I L D.1 ?_
 rcases D.2 with h|h
 ·exact .inl h.1
 ·exact .inr h.1
theorem FD(D:(s.rn p).aA=1) (h:oE t r k=p):Db t r s.runs k=true:=by
 rw[Db,h,pu]
 have:dX (aX s.runs p)=false:=by show dX (s.rn p)=false;simp[dX,D]
 rw[this];simp
theorem ad4(g:TG t n) (I:SI t n s) (want:Int) (h0:s.pre.ay=0):LR t n s (LD t s.rings s.runs want).2.1 (LD t s.rings s.runs want).2.2 0 0 (LD t s.rings s.runs want).1:=by
 have z:∀p,tb (0:Int) p=true->False:=λp h=>by rw[lU]at h;cases h
 unfold LD;split
 ·refine⟨λp _ h=>(z p h).elim,λp q _ _ h=>(z p h).elim,λp _ h=>(z p h).elim,λp _ h=>(z p h).elim,λ_ p D h=>?_⟩
  rcases h with h|h
  ·have hr:((List.range 8).all λp=>dX (aX s.runs p))=false:=List.all_eq_false.2 ⟨p,j9.2 D,by show ¬dX (s.rn p)=true;simp[dX,h.1]⟩
   have e:crE t s.rings s.runs want=s.rings:=by rw[crE,hr];rfl
   show∃k:Int,(k=0\/k=1)/\oE t (crE t s.rings s.runs want) k=p
   rw[e];exact I.ring h0 p D h.1
  ·exact(z p h).elim
 ·have keep:∀p:Nat,p<8->(s.rn p).aA=1->∃k:Int,(k=0\/k=1)/\oE t (kJ t s.rings s.runs want).1 k=p:=by
   intro p D O;obtain⟨k,hk,R⟩:=I.ring h0 p D O;refine⟨k,hk,?_⟩
   have V:=FD O R
   have aa:¬Zc t s.rings s.runs want k:=λhs=>by rw[hs.1]at V;cases V
   obtain⟨e1,e2⟩:=U2 t s.rings s.runs want;rw[O6 hk,e1,(e2 k hk).2 aa,<-O6 hk,R]
  have begun:∀p:Nat,p<8->tb (kJ t s.rings s.runs want).2.1 p=true->∃k:Int,(k=0\/k=1)/\oE t (kJ t s.rings s.runs want).1 k=p:=by
   intro p D h
   obtain⟨k,hk,h1,h2⟩:=(vJ t s.rings s.runs want D).1 h
   refine⟨k,hk,?_⟩;obtain⟨e1,e2⟩:=U2 t s.rings s.runs want;rw[O6 hk,e1,(e2 k hk).1 h1,h2];rfl
  split
  ·rename_i M
   simp only[YT,ed,md]at M
   refine⟨λp D h=>HH g D h,λp q D hq h Z=>O7 g D hq h Z,λp D h O=>.inl ?_,λp _ h=>(z p h).elim,λ_ p D h=>?_⟩
   ·obtain⟨k,hk,R⟩:=I.ring h0 p D O
    have V:=FD O R
    have L:Cp t s.rings s.runs want k=true:=by rcases hk with rfl|rfl;exact M.2.1;exact M.2.2.1
    simp only[Cp,An,V,R,pu,nz,w5,ed]at L;exact O8 I D O (.inl L.2.2)
   ·rcases h with h|h
    ·exact keep p D h.1
    ·exact begun p D h
  ·refine⟨λp D h=>HH g D h,λp q D hq h Z=>O7 g D hq h Z,λp D h _=>.inl (Zd I D h),λp _ h=>(z p h).elim,λ_ p D h=>?_⟩
   rcases h with h|h
   ·exact keep p D h.1
   ·exact begun p D h
theorem Ze(r:gx) (hk:k=0\/k=1) (x:Int):(r.put k x).at k=x/\(r.put k x).group=r.group/\∀j:Int,(j=0\/j=1)->j≠k->(r.put k x).at j=r.at j:=by
 rcases hk with rfl|rfl
 ·exact⟨rfl,rfl,λj D L=>by rcases D with rfl|rfl;exact absurd rfl L;rfl⟩
 ·exact⟨rfl,rfl,λj D L=>by rcases D with rfl|rfl;rfl;exact absurd rfl L⟩
theorem LS{t:Tb} {G:Int}:∀(L:List Nat) (r:gx),(∀p∈L,(aC t p).2=true/\(aC t p).1.group=G)->L.Pairwise (λp q:Nat=>(aC t p).1.ring≠(aC t q).1.ring)->r.group=G->(∀p∈L,r.at (aC t p).1.ring<0)->
  (L.foldl (Wc t) r).group=G/\(∀p∈L,(L.foldl (Wc t) r).at (aC t p).1.ring=(aC t p).1.pos)/\∀k:Int,(k=0\/k=1)->(∀p∈L,(aC t p).1.ring≠k)->(L.foldl (Wc t) r).at k=r.at k
 |[],r,_,_,V,_=>⟨V,λp h=>(by cases h),λ_ _ _=>rfl⟩
 |p::L,r,Z,hp,V,hn=>by
  obtain⟨w1,w2⟩:=Z p aaP
  have hr:=lN w1
  have hk:(aC t p).1.ring=0\/(aC t p).1.ring=1:=aaN
  obtain⟨g1,g2,g3⟩:=Ze r hk (aC t p).1.pos
  have e:Wc t r p=r.put (aC t p).1.ring (aC t p).1.pos:=by
   rw[Wc,w1,w2,V,decide_eq_true (hn p aaP)];simp
  obtain⟨O,aa⟩:=List.pairwise_cons.1 hp
  obtain⟨i1,i2,i3⟩:=LS L (Wc t r p) (λq D=>Z q (by simp[D])) aa (by rw[e,g2,V]) (λq D=>by
   have ac:=lN (Z q (by simp[D])).1
   rw[e,g3 _ aaN (λh=>O q D h.symm)]
   exact hn q (by simp[D]))
  rw[ui]
  refine⟨i1,λq D=>?_,λk R M=>?_⟩
  ·rcases nb.1 D with rfl|D
   ·rw[i3 _ hk (λq' ab h=>O q' ab h.symm),e,g1]
   ·exact i2 q D
  ·rw[i3 k R (λq D=>M q (by simp[D])),e,g3 k R (λh=>M p aaP h.symm)]
theorem Cv{p q:Int} (h:gq t p q=true):(aC t p).2=true/\(aC t q).2=true/\(aC t p).1.group=(aC t q).1.group/\(aC t p).1.ring≠(aC t q).1.ring:=by
 simp only[gq,ed,md,bne_iff_ne]at h;exact⟨h.1.1.1,h.1.1.2,h.1.2,h.2⟩
theorem Zf(g:TG t n) (he:Tog t n e) (hp:p<8) (h:tb e p=true):∃k:Int,(k=0\/k=1)/\oE t (Q9 t e) k=p:=by
 have hm:=EJ hp h
 have D:∀q∈fe e,(aC t q).2=true:=λq L=>g.wh q (he.2.1 q (lX L) (sF L))
 obtain⟨O,hf⟩:∃O,(fe e).head? =some O:=by
  cases hs:fe e with
  |nil=>rw[hs]at hm;cases hm
  |cons a b=>exact⟨a,rfl⟩
 have V:O∈fe e:=List.mem_of_mem_head? hf
 have Z:Af e=O:=by rw[Af,hf]
 have R:∀q∈fe e,(aC t q).1.group=(aC t O).1.group:=λq L=>by
  by_cases M:q=O
  ·rw[M]
  ·exact(Cv (he.2.2 q O (lX L) (lX V) (sF L) (sF V) M)).2.2.1
 have aa:(fe e).Pairwise (λp q:Nat=>(aC t p).1.ring≠(aC t q).1.ring):=by
  refine List.Pairwise.imp_of_mem ?_ (Ni e);intro a b ha hb M;exact(Cv (he.2.2 a b (lX ha) (lX hb) (sF ha) (sF hb) M)).2.2.2
 have ac:=lN (D p hm)
 have hk:(aC t p).1.ring=0\/(aC t p).1.ring=1:=aaN
 obtain⟨a,b,_⟩:=LS (fe e) ⟨(aC t O).1.group,-1,-1,false⟩ (λq L=>⟨D q L,R q L⟩) aa rfl (λq L=>by
  have ab:=lN (D q L)
  have:(aC t q).1.ring=0\/(aC t q).1.ring=1:=aaN
  rcases this with h|h<;>rw[h]<;>exact(by decide:(-1:Int)<0))
 refine⟨(aC t p).1.ring,hk,?_⟩;rw[O6 hk,Q9,Z,a,b p hm,<-R p hm];exact UR (D p hm)
theorem aam(g:TG t n) {x:Pr} (h:0<=x.which/\x.which<(nR t:Int)):TZ t n (bD t x):=by
 rw[bD,ib h]
 have D:x.which.toNat<(t.bQ.getD []).length:=by have:nR t<=(t.bQ.getD []).length:=Nat.min_le_left _ _;omega
 refine g.rl.2 _ ?_;rw[Ng,ia,eh D];exact xn D
theorem ad5{x:Pr} (h:0<=x.which/\x.which<(nR t:Int)):YX t x.which=(bD t x).exit:=by
 have:nR t<=(t.bQ.getD []).length:=Nat.min_le_left _ _
 rw[YX,ge aaN,bD,ib h]
theorem Jf(g:TG t n) (O:Tog t n e) (L:p<8) (M:q<8) (V:tb e p=true) (R:tb e q=true):tb (gm t p) q=false:=by
 cases Z:tb (gm t p) q with
 |false=>rfl
 |true=>
  obtain⟨c1,D⟩:=g.con p q L M Z;rw[O.2.2 p q L M V R c1]at D;cases D
theorem U3(g:TG t n) (I:SI t n s) (h5:s.pre.ay=5) (hl:iG t s.pre s.runs=0):
  LR t n s (jC t s.pre s.runs).start (jC t s.pre s.runs).fin (jC t s.pre s.runs).cut 0 (Q9 t (YX t s.pre.which)):=by
 have hw:=I.pre.which (by rw[h5];decide)
 have V:=aam g hw
 have ac:=ad5 (t:=t) hw
 have R:pH s.runs (dW .i64 255 (bD t s.pre).exit)=true:=by
  unfold iG at hl;split at hl
  ·rename_i h;simp only[ed]at h;exact h.1
  ·exact absurd hl aaO
 have O:∀q,q<8->tb (bD t s.pre).exit q=false->dX (s.rn q)=true:=λq M h=>vq.1 R q M (by rw[adZ M,h];rfl)
 have L:∀p,p<8->tb (jC t s.pre s.runs).start p=(tb (bD t s.pre).exit p&&dX (s.rn p)):=λp D=>by
  show tb (yq (bD t s.pre).exit λp=>dX (aX s.runs p)) p=_
  rw[NF D];rfl
 have ab:(jC t s.pre s.runs).fin=0:=by rw[jC]
 have aa:(jC t s.pre s.runs).cut=0:=by rw[jC]
 rw[ac]
 refine⟨λp D h=>?_,λp q D M h h'=>?_,λp _ h=>?_,λp _ h=>?_,λ_ p D h=>?_⟩
 ·rw[L p D,ed]at h
  refine⟨h.2,V.exit.1.2.1 p D h.1,λq M hc=>?_⟩
  refine O q M ?_
  cases Z:tb (bD t s.pre).exit q with
  |false=>rfl
  |true=>rw[Jf g V.exit.1 D M h.1 Z]at hc;cases hc
 ·rw[L p D,ed]at h
  rw[L q M,ed]at h';exact Jf g V.exit.1 D M h.1 h'.1
 ·rw[ab,lU]at h;cases h
 ·rw[aa,lU]at h;cases h
 ·refine Zf g V.exit.1 D ?_
  rcases h with h|h
  ·cases Z:tb (bD t s.pre).exit p with
   |true=>rfl
   |false=>have:=O p D Z;simp[dX,h.1]at this
  ·rw[L p D,ed]at h;exact h.1
theorem U4(g:TG t n) {x:Pr} (hw:0<=x.which/\x.which<(nR t:Int)) (h1:1<=x.ay) (h6:x.ay<6) (I:SI t n s) (O:gx):
  LR t n s (oC t x s.runs x.ay).start (oC t x s.runs x.ay).fin (oC t x s.runs x.ay).cut x.ay O:=by
 have hg:=aam g hw
 have z:∀p,tb (0:Int) p=true->False:=λp h=>by rw[lU]at h;cases h
 have Wi:∀e:Int,Tog t n e->LR t n s (EX t s.runs e) 0 0 x.ay O:=λe Z=>by
  have M:∀p,p<8->tb (EX t s.runs e) p=(tb e p&&jh t s.runs p):=λp D=>NF D
  refine⟨λp D h=>?_,λp q D V h R=>?_,λp _ h=>(z p h).elim,λp _ h=>(z p h).elim,λh=>absurd h aaN⟩
  ·rw[M p D,ed]at h
   obtain⟨a,_,b⟩:=FC h.2;exact⟨a,Z.2.1 p D h.1,b⟩
  ·rw[M p D,ed]at h
   rw[M q V,ed]at R;exact Jf g Z D V h.1 R.1
 have e:x.ay=1\/x.ay=2\/x.ay=3\/x.ay=4\/x.ay=5:=aaN
 rcases e with e|e|e|e|e
 ·rw[e]
  exact⟨λp _ h=>(z p h).elim,λp q _ _ h=>(z p h).elim,λp _ _ _=>.inr (.inl rfl),λp _ _=>.inl rfl,λh=>absurd h aaO⟩
 ·have:=Wi _ hg.clear
  rw[e]at this⊢;exact this
 ·rw[e]
  exact⟨λp _ h=>(z p h).elim,λp q _ _ h=>(z p h).elim,λp _ _ _=>.inr (.inr rfl),λp _ _=>.inr rfl,λh=>absurd h aaO⟩
 ·have:=Wi _ hg.iO.1
  rw[e]at this⊢;exact this
 ·rw[e]
  refine⟨λp _ h=>(z p h).elim,λp q _ _ h=>(z p h).elim,λp D h hc=>.inl ?_,λp _ h=>(z p h).elim,λh=>absurd h aaO⟩
  have hh:tb (yq (dW .i64 255 (bD t x).exit) λp=>lvP t p (aX s.runs p)) p=true:=h
  rw[NF D,ed]at hh
  have L:=hh.2
  simp only[lvP,ed,ii,sm,zd,wb]at L
  have hf:=(I.run p D).iy
  exact⟨L.1.2,by have:(s.rn p).fst≠1/\(s.rn p).fst≠2:=L.2;omega⟩
theorem U5(g:TG t n) (I:SI t n s) (x:Hx):Y9 t (uj t s x).1/\LR t n s (LO t s x).start (LO t s x).fin (LO t s x).cut (uj t s x).1.ay (Gv t s x):=by
 obtain⟨V,h⟩:=U0 x.lines s.runs I.pre;refine⟨V,?_⟩
 rw[show j5 t s.pre x.lines s.runs=uj t s x from rfl]at*
 rcases h with⟨D,O,L⟩|⟨D,O,L,h4⟩|⟨D,O,L⟩
 ·have M:(uj t s x).2.free=true:=by rw[D]
  rw[LO,Gv,M,L];exact ad4 g I _ O
 ·have M:(uj t s x).2.free=false:=by rw[D];rfl
  have R:(uj t s x).2.back=true:=by rw[D];rfl
  rw[LO,Gv,M,R,D,L];exact U3 g I O h4
 ·have Z:=NC t (uj t s x).1 s.runs (to:=(uj t s x).1.ay) aaN
  have M:(uj t s x).2.free=false:=by rw[L,Z.1];simp;omega
  have R:(uj t s x).2.back=false:=by rw[L,Z.2]
  rw[LO,Gv,M,R]
  have:=U4 g (V.which aaN) D O I s.rings
  rw[<-L]at this;exact this
theorem Av(t:Tb) (s:bB) (x:Hx) (D:p<8):(Mz t s x).rn p=cj (aV t p) (s.rn p) (Gw t s x p):=by
 show(nr t s (Gw t s x) 8).getD p default=_
 rw[nr,ia,kx,mr D];simp[D]
theorem Aw(t:Tb) (s:bB) (x:Hx) (D:p<8):(Gw t s x p).start=tb (LO t s x).start p/\(Gw t s x p).fin=tb (LO t s x).fin p/\(Gw t s x p).cut=tb (LO t s x).cut p:=⟨wq D,wq D,wq D⟩
theorem LU{p:Ph} {r:Rn} {c:Cu} (h:dX r=true) (D:c.start=false):dX (cj p r c)=true:=by
 have:=((NL p r c).red h D).1
 simp[dX,this]
theorem FE(t:Tb) (D:p<8):(fQ t).rn p=EG (aV t p):=by
 show((List.range 8).map λ(p:Nat)=>if p<8 then EG (aV t p)else default).getD p default=_
 rw[ia,kx,mr D];simp[D]
theorem LV:SI t n (fQ t) where
 ok:=sE t
 safe:=λp q D _ _=>.inl (by rw[FE t D];rfl)
 run:=λp D=>by
  rw[FE t D]
  exact⟨by show(0:Int)<=0/\(0:Int)<=3;decide,by show(0:Int)<=0/\(0:Int)<=2;decide,λ_=>rfl,λ_=>rfl,λh=>absurd (show(0:Int)=1 from h) aaO⟩
 off:=λp D _=>by rw[FE t D];rfl
 pre:=⟨by show(0:Int)<=0/\(0:Int)<6;decide,λh=>absurd rfl h,λ_=>rfl⟩
 ring:=λ_ p D h=>by rw[FE t D]at h;exact absurd (show(0:Int)=1 from h) aaO
theorem Zg(g:TG t n) (I:SI t n s) (x:Hx):SI t n (Mz t s x):=by
 obtain⟨D,o⟩:=U5 g I x
 have L:∀p,p<8->dX ((Mz t s x).rn p)=false->dX (s.rn p)=false\/tb (LO t s x).start p=true:=λp D h=>by
  cases h1:dX (s.rn p)with
  |false=>exact .inl rfl
  |true=>
   cases R:tb (LO t s x).start p with
   |true=>exact .inr rfl
   |false=>
    rw[Av t s x D,LU h1 (by rw[(Aw t s x D).1,R])]at h;cases h
 refine⟨FB t s x,λp q D O M=>?_,λp D=>?_,λp D hn=>?_,D,λh0 p D M=>?_⟩
 ·cases h1:dX ((Mz t s x).rn p)with
  |true=>exact .inl rfl
  |false=>
   cases R:dX ((Mz t s x).rn q)with
   |true=>exact .inr rfl
   |false=>
    exfalso
    rcases L p D h1 with a|a<;>rcases L q O R with b|b
    ·rcases I.safe p q D O M with h|h
     ·rw[a]at h;cases h
     ·rw[b]at h;cases h
    ·have:=(o.start q O b).2.2 p D (by rw[g.sym q p O D];exact M)
     rw[a]at this;cases this
    ·have:=(o.start p D a).2.2 q O M
     rw[b]at this;cases this
    ·rw[o.two p q D O a b]at M;cases M
 ·rw[Av t s x D]
  exact Zb _ (g.min D) (I.run p D)
 ·rw[Av t s x D]
  refine LU (I.off p D hn) ?_;rw[(Aw t s x D).1]
  cases R:tb (LO t s x).start p with
  |false=>rfl
  |true=>exact absurd (o.start p D R).2.1 aaN
 ·refine o.ring h0 p D ?_
  rw[Av t s x D]at M
  have V:=NL (aV t p) (s.rn p) (Gw t s x p)
  obtain⟨b1,b2,_⟩:=Aw t s x D
  rcases HG (I.run p D).col with⟨e,Z⟩|⟨e,Z⟩|⟨e,Z⟩|⟨e,Z⟩
  ·right
   rw[<-b1]
   cases hs:(Gw t s x p).start with
   |true=>rfl
   |false=>have:=(V.red Z hs).1;omega
  ·left
   refine⟨e,?_⟩;rw[<-b2]
   cases hs:(Gw t s x p).fin with
   |false=>rfl
   |true=>have:=(V.fin e hs).1;omega
  ·have:=(V.dQ e).2;omega
  ·have:=(V.clear e).2;omega
end
section
open Z
def Cw(D:Nat):bE:=⟨17,[.cell 2 (some 8)],r [o 1 (w 0),o 2 (.alloc [i 0,i 0,i 0,i 0,i 0,i 0,i 0,i 0])] (r [o 3 (.alloc [i 0,i 0,i 0,i 0,i 0,i 0,i 0,i 0])] (j (r [o 6 (L 1 96),V 7 (i 0)] (u 0 (.loop (r [o 8 (bb .lss 7 (i 8))] (j (c 8 z (.exit 0)) (j (u 1 (r [M 9 7,o 10 (.GC (t 6) (t 7) 8 12 (some 12)),o 5 (.alloc bC),M 4 9,n (s 5 10 12)] (R [M 11 4,o 12 (L 5 12),o 13 (.call D [t 12]),o 14 (A 3 11 8 1),n (s 14 13 1)]))) (R [o 15 (bb .add 7 (i 1)),M 7 15]))))))) (r [o 16 (L 3 8),n (s 2 16 8)] y)))⟩
def Ay:bE:=(⟨_,by conv=>lhs;cbv⟩:bT (cH 16 [.tmp 2] [] [0,1,12,2,20,4] 0x5109020ca61204010700ca7787e8be40aa120419502408020c0199eda2f90290481004140121745f20170400228f3303040a0120d45f2007040222030181a20)).1
end
section
variable (C:aQ) (m:Mn) {l:List Int} (f k:Nat)
theorem tnd(l:Option (List Int)):nDt (eJ l)<=1000000:=kw (ahP l).1 aaN
theorem aix(h:l.length=8) {p:Nat} (D:p<8):l[p]? =some (nj l p):=by
 have:p<l.length:=aaN
 simp[nj,this]
def Mn.CG(x:Int):Mn:={m with ticks:=m.ticks.set k x}
theorem Mn.AT{m:Mn} (h:m.Ok) (k:Nat) (x:Int):(m.CG k x).Ok:=⟨h.last,by simp[Mn.CG,h.ticks]⟩
theorem Mn.O9{m:Mn} (h:m.Ok) {k:Nat} (hk:k<8) (x:Int):setCells m.cells (8+k) [I x]=(m.CG k x).cells:=by
 have:=Yt (A:=m.last.map I) (B:=[]) (l:=m.ticks) (x:=x) (o:=8) (by simp[h.last]) (by rw[h.ticks];exact hk)
 simpa[Mn.cells,Mn.CG]using this
def FF(l:List Int) (p:Nat):Int:=if dL .i64 (nj l p) 7==dL .i64 (nj m.last p) 7 then bM (nj m.ticks p)else 1
def Az(l:List Int) (k:Nat):Mn:=⟨l,G9 (FF m l) (λ_=>0) k⟩
def NM(l:List Int):Mn:=Az m l 8
theorem sJ{m:Mn} (h:l.length=8) (k:Nat):(Az m l k).Ok:=⟨h,QW _ _ _⟩
theorem U6{m:Mn} {k:Nat} (hk:k<8) (h:(dL .i64 (nj l k) 7==dL .i64 (nj m.last k) 7)=true):((Az m l k).CG k 1).CG k (bM (nj m.ticks k))=Az m l (k+1):=by
 simp only[Az,Mn.CG,List.set_set]
 have:bM (nj m.ticks k)=FF m l k:=by simp only[FF,h,kv]
 rw[this,He (FF m l) _ hk]
theorem Zh{m:Mn} {k:Nat} (hk:k<8) (h:(dL .i64 (nj l k) 7==dL .i64 (nj m.last k) 7)=false):(Az m l k).CG k 1=Az m l (k+1):=by
 simp only[Az,Mn.CG]
 have:FF m l k=1:=by simp[FF,h]
 conv=>lhs;rw[<-this]
 rw[He (FF m l) _ hk]
theorem HI(l:List Int):(Az m l 0).cells=l.map I++List.replicate 8 (I 0):=rfl
def FH.Spec:Prop:=∀n:Int,C.c f [I n] (I (bM n)) none
def FJ.Spec:Prop:=∀(t:Tb) (m:Mn) (l:List Int),yo t m l->C.c f [.agg t.cells,.agg m.cells,.agg (l.map I)] (.de [.agg (NM m l).cells,I (iY t m l)]) none
theorem ad6{z A B C:List AV} (M:z.length=155) (hA:A.length=131) (hB:B.length=16) (hC:C.length=8):
  List.take 147 (List.take 131 (A++List.drop 131 z)++B++List.drop 147 (A++List.drop 131 z))++C++List.drop 155 (List.take 131 (A++List.drop 131 z)++B++List.drop 147 (A++List.drop 131 z))=A++(B++C):=by
 rw[yk hA];generalize D:List.drop 147 (A++List.drop 131 z)=Y
 have L:Y.length=8:=by rw[<-D];simp;omega
 rw[yk (by simp;omega),mn (by simp;omega),tp,List.append_assoc]
end
section
variable{P:Program} (hm:P.follows .mixedOrders=true) {f:Nat}
include hm
theorem FH.ok(L:bF P f=some tD):FH.Spec (Pure P) f:=by
 intro n
 have D:(if 9999<(if 0>n then 0 else n)then 9999 else(if 0>n then 0 else n))=gN n 0 9999:=by
  unfold gN;split<;>split<;>(try split)<;>omega
 refine aq hm L [] rfl ?_;try simp only[I,RX,↓KW,Nat.reduceBEq,Nat.reduceAdd,tD,Z.H]
 rw[D];rfl
theorem FJ.ok{fM fF:Nat} (hc:bF P f=some (tC fM fF)) (hM:FH.Spec (Pure P) fM) (hF:zM.Spec (Pure P) fF):FJ.Spec (Pure P) f:=by
 intro t m l h
 have wt:=h.t.whole
 have wm:=Mn.whole h.m
 have wl:=B8 h.l
 have lt:=h.t.len
 have lm:=Mn.len h.m
 have ll:(l.map I).length=8:=by simp[h.l]
 have ab:(l.map (AV.int .i64)).length=8:=ll
 have L:fh.length=16:=rfl
 have O:fh.drop 8=List.replicate 8 (I 0):=rfl
 have R:setCells fh 0 (Az m l 0).cells=(Az m l 0).cells:=bp (by rw[Mn.len (sJ h.l 0)];rfl)
 rw[HI]at R;refine aq hm hc [] rfl ?_;try simp only[I,RY,↓KW,Nat.reduceBEq,Nat.reduceAdd,tC,Z.H,wl,ll,L,O,R]
 refine⟨by simp[h.l],?_⟩
 refine aK (λk:Nat=>(⟨[(12,.dat (I k) none),(8,.ptr 11 0),(5,.ptr 6 0),(4,.ptr 5 0),(3,.ptr 4 0),(6,.ptr 7 0)],[(11,⟨(Az m l k).cells,[]⟩),(6,⟨l.map I,[]⟩),(5,⟨m.cells,[]⟩),(4,⟨t.cells,[]⟩),(7,⟨fh,[]⟩)],[],400⟩:S)) (λk=>8-k) (λk=>k<=8) ?_ 0 aaN ?_
 ·intro k hk A back
  have aa:=aD (k:=k) aaN
  try simp only[I,RY,↓KW,Nat.reduceBEq,Nat.reduceAdd]
  refine az (λh2=>?_) (λh2=>?_)<;>try simp only[RY,↓KW,Nat.reduceBEq,Nat.reduceAdd,h2]
  ·have V:k<8:=by have:=dT h2;omega
   have hx:0<=(k:Int)/\(k:Int)<(8:Nat):=aaN
   have o0:=sJ (m:=m) h.l k
   have s1:=Mn.O9 o0 V 1
   have o1:=Mn.AT o0 k 1
   have s2:=Mn.O9 o1 V (bM (nj m.ticks k))
   have e0:=Mn.len o0
   have e1:=Mn.len o1
   obtain⟨m1,m2⟩:=Mn.at h.m V
   have l1:l[k]? =some (nj l k):=aix h.l V
   try simp only[I,RY,↓KW,Nat.reduceBEq,Nat.reduceAdd,Nat.reduceLeDiff,hx,s1,e0,m1,l1]
   refine⟨aaN,?_⟩
   try simp only[I,B,D,RY,↓KW,Nat.reduceBEq,Nat.reduceAdd,Nat.reduceLeDiff,Int.reduceNe,Int.reduceBEq,Int.reduceEq,reduceCtorEq,Nat.reduceMul,Int.reduceLT,Int.reduceLE,Int.reduceToNat,hx,s1,e0,e1,m1,m2,l1,mt]
   cases hq:dL .i64 (nj l k) 7==dL .i64 (nj m.last k) 7
   ·try simp only[RY,↓KW,Nat.reduceBEq,Nat.reduceAdd]
    have hn:=Zh V hq
    refine back (k+1) _ aaN aaN ?_
    refine ai aaO ?_ ?_ ?_ ?_<;>simp[LX,I,aa,hn]
   ·try simp only[I,RY,↓KW,Nat.reduceBEq,Nat.reduceAdd,hx,m2]
    refine af (hM _) ?_
    have hn:=U6 V hq
    try simp only[I,RY,↓KW,Nat.reduceBEq,Nat.reduceAdd,Nat.reduceLeDiff,hx,e1,s2]
    refine⟨aaN,back (k+1) _ aaN aaN ?_⟩
    refine ai aaO ?_ ?_ ?_ ?_<;>simp[LX,I,aa,hn]
  ·have:k=8:=by have:=dE h2;omega
   subst this
   have o8:=sJ (m:=m) h.l 8
   have wo:=Mn.whole o8
   have lo:=Mn.len o8
   have hz:setCells fh 0 (Az m l 8).cells=(Az m l 8).cells:=bp (by rw[lo];rfl)
   have M:List.take 147 (List.take 131 (t.cells++List.drop 131 lJ)++m.cells++List.drop 147 (t.cells++List.drop 131 lJ))++List.map I l++List.drop 155 (List.take 131 (t.cells++List.drop 131 lJ)++m.cells++List.drop 147 (t.cells++List.drop 131 lJ))=ud t m l:=ad6 (z:=lJ) rfl lt lm ll
   try simp only[I,B,D,RY,↓KW,Nat.reduceBEq,Nat.reduceAdd,Nat.reduceLeDiff,Int.reduceNe,Int.reduceBEq,Int.reduceEq,reduceCtorEq,Nat.reduceMul,Int.reduceLT,Int.reduceLE,Int.reduceToNat,wt,wm,wl,lt,lm,ll,ab,L,O,R,wo,lo,hz,M,ml]
   refine ej (by rfl) ?_
   try simp only[RY,↓KW,Nat.reduceBEq,Nat.reduceAdd,wt,wm,wl,lt,lm,ll,wo,M]
   refine af (hF t m l h) ?_;try simp only[I,RY,↓KW,Nat.reduceBEq,Nat.reduceAdd,L,wo,lo,hz]
   rfl
 ·refine ai aaO ?_ ?_ ?_ ?_<;>simp[LX,I,HI]
end
section
variable (C:aQ) (f:Nat) (l:List Rn)
def tZ(r:Rn):Int:=if r.aA==1 then(if r.fst==1 then 12 else if r.fst==2 then 20 else 4)else if r.aA==2 then 2 else 1
def gZ:List Int:=(List.range 8).map λp=>tZ (aX l p)
theorem lP:(gZ l).length=8:=by simp[gZ]
theorem FK{p:Nat} (D:p<8):nj (gZ l) p=tZ (aX l p):=by
 rw[nj,gZ,ia,kx,mr D];rfl
def akC:Mn:=⟨List.replicate 8 0,List.replicate 8 0⟩
structure MI (m:Mn) (s:bB):Prop where
 ok:m.Ok
 seen:(m=akC/\∀p,p<8->(s.rn p).aA=0)\/∀p,p<8->nj m.last p=tZ (s.rn p)/\((s.rn p).aA=2->nj m.ticks p=(s.rn p).time)
def FL.Spec:Prop:=∀r:Rn,C.c f [.agg r.cells] (I (tZ r)) none
def LW.Spec:Prop:=∀l:List Rn,l.length=8->C.c f [.agg (bU l)] (.agg ((gZ l).map I)) none
def kL(k:Nat):List Int:=(List.range 8).map λp=>if p<k then tZ (aX l p)else 0
theorem Jg{k:Nat} (hk:k<8):setCells ((kL l k).map I) k [I (tZ (aX l k))]=(kL l (k+1)).map I:=by
 have:k=0\/k=1\/k=2\/k=3\/k=4\/k=5\/k=6\/k=7:=aaN
 rcases this with rfl|rfl|rfl|rfl|rfl|rfl|rfl|rfl<;>rfl
end
section
variable{P:Program} (hm:P.follows .mixedOrders=true) {f:Nat}
include hm
theorem FL.ok(L:bF P f=some Ay):FL.Spec (Pure P) f:=by
 intro r;refine aq hm L [] rfl ?_;try simp only[I,B,D,RX,↓KW,seval,Ay,Z.H,Rn.cells]
 repeat' (((first|refine bg ?_ ?_|refine az ?_ ?_|refine bz ?_ ?_)<;>intro h)<;>try simp only[I,B,D,RX,↓KW,seval,Rn.cells,h])
 all_goals simp[tZ, *]
theorem LW.ok{fS:Nat} (hc:bF P f=some (Cw fS)) (hS:FL.Spec (Pure P) fS):LW.Spec (Pure P) f:=by
 intro l hl
 have R:=gD hl
 have O:∀k,((kL l k).map I).length=8/\aB ((kL l k).map I) 0 (some 8)=some (.agg ((kL l k).map I)):=λk=>by
  have:(kL l k).length=8:=by simp[kL]
  exact⟨by simp[this],B8 this⟩
 have V:∀k,setCells [.int .i64 0,.int .i64 0,.int .i64 0,.int .i64 0,.int .i64 0,.int .i64 0,.int .i64 0,.int .i64 0] 0 ((kL l k).map I)=(kL l k).map I:=λk=>bp (by rw[(O k).1];rfl)
 have M:=λk=>(O k).1
 have L:=λk=>(O k).2
 refine aq hm hc [] rfl ?_;try simp only[I,B,D,RY,↓KW,seval,Cw,Z.H,R,M,L,V]
 refine aK (λk:Nat=>(⟨[(7,.dat (I k) none),(6,.dat (.agg (bU l)) none),(2,.ptr 5 0),(3,.ptr 6 0)],[(5,⟨[.int .i64 0,.int .i64 0,.int .i64 0,.int .i64 0,.int .i64 0,.int .i64 0,.int .i64 0,.int .i64 0],[]⟩),(6,⟨(kL l k).map I,[]⟩)],[],400⟩:S)) (λk=>8-k) (λk=>k<=8) ?_ 0 aaN ?_
 rotate_left
 ·refine ai aaO ?_ ?_ ?_ ?_<;>simp[LX,I,B,D,kL,lL]
 intro k hk A back
 have aa:=aD (k:=k) aaN
 try simp only[I,B,D,RY,↓KW,seval]
 rcases bc (decide ((k:Int)<8))with h|h
 ·have:k=8:=by have:=dE h;omega
  subst this;try simp only[I,B,D,RY,↓KW,seval,h,R,M,L,V]
  rfl
 ·have O:k<8:=by have:=dT h;omega
  have ab:aB (bU l) (k*12) (some 12)=some (.agg (aX l k).cells):=jH hl O
  have hy:0<=(k:Int)/\(k:Int)<8:=aaN
  have qz:setCells bC 0 (aX l k).cells=(aX l k).cells:=rfl
  have ql:bC.length=12:=rfl
  have qw:aB (aX l k).cells 0 (some 12)=some (.agg (aX l k).cells):=rfl
  have hn:=Jg l O
  try simp only[I,B,D,RY,↓KW,seval,h,hy,ab,qz,ql,qw,Rn.len,R,M,L,V]
  refine af (hS _) ?_;try simp only[I,B,D,RY,↓KW,seval,hy,hn,R,M,L,V]
  refine⟨aaN,back (k+1) _ aaN aaN ?_⟩
  refine ai aaO ?_ ?_ ?_ ?_<;>simp[LX,I,B,D,aa]
end
open Go.RowKit
section
variable (P:Program) (p:Nat->Bool) (fn k:Nat)
def yA:Nat:=((List.range k).filter p).length
theorem wN:yA p (k+1)=if p k then yA p k+1 else yA p k:=by
 simp only[yA,lL,In,H2,xc]
 split<;>simp
theorem Jh(p:Nat->Bool) {k:Nat} (D:p k=true):∀n,k<n->((List.range n).filter p)[yA p k]? =some k
 |n+1,h=>by
  simp only[lL,In]
  by_cases hk:k<n
  ·have L:=Jh p D n hk
   rw[kp (em.1 L).1,L]
  ·obtain rfl:k=n:=by omega
   rw[kt (by simp[yA])]
   simp[yA,D]
theorem FM(s:Int) {k:Nat} (hk:k<8):(bits .and .i64 (s/2^k) 1=1)↔tb s k=true:=by
 have h:=IY s hk
 have e:min k IntKind.i64.bits=k:=by have:IntKind.i64.bits=64:=rfl;omega
 rw[e,UV _ (by exact Int.pow_nonneg aaO)]at h
 have D:bits .and .i64 (s/2^k) 1=if tb s k then 1 else 0:=h
 rw[D]
 cases tb s k<;>simp
def LY:Prop:=∀(l L R M O b off len cap:Nat) (s:Int) (f:Nat->Nat->Int) (J:Nat->World->Prop) (D:World->Prop) (W:World) (cnt:Nat->Nat),cnt 0=0->
  (∀k,k<4->bits .and .i64 (s/2^k) 1=1->cnt (k+1)=cnt k+1)->(∀k,k<4->¬bits .and .i64 (s/2^k) 1=1->cnt (k+1)=cnt k)->len<=cap->
  W.cell? ⟨L,R+115,none⟩=some (.slice (some ⟨b,off,none⟩) len cap)->
  (∀i wr,J i wr->(∀k,k<min len 4->wr.cell? ⟨b,off+k*2,none⟩=some (.int .i64 (f k 0))/\wr.cell? ⟨b,off+k*2+1,none⟩=some (.int .i64 (f k 1)))/\wr.cell? ⟨M,O,none⟩=some (.int .i64 s))->
  (∀i wr o,J i wr->J i (wr.alloc o))->(∀wr o,D wr->D (wr.alloc o))->
  (∀n k wr,k<min len 4->bits .and .i64 (s/2^k) 1=1->J (cnt k) wr->YieldAt Fence.wide n P l #[.int .i64 k,.agg #[.int .i64 (f k 0),.int .i64 (f k 1)]] wr λe W'=>(e=.returned (.bool true)/\J (cnt k+1) W')\/(e=.returned (.bool false)/\D W'))->
  J 0 W->
  Calls P fn #[.func (.yield l) #[] #[],.pointer (some ⟨L,R,none⟩),.pointer (some ⟨M,O,none⟩)] W λe W'=>(∃v,e=.returned v)/\(J (cnt (min len 4)) W'\/D W')
def LZ:Prop:=∀(x:Option Addr) (l D L M O:Nat) (J:World->Prop) (W:World),W.cell? ⟨D,L+115,none⟩=some (.slice x 0 0)->(∀wr o,J wr->J (wr.alloc o))->J W->
  Calls P fn #[.func (.yield l) #[] #[],.pointer (some ⟨D,L,none⟩),.pointer (some ⟨M,O,none⟩)] W λe W'=>(∃v,e=.returned v)/\J W'
theorem Cx(w:World) (o:Obj):Below w.heap.size w (w.alloc o):=(Below.refl _ w).alloc (ik _) o
theorem Ji{w:World} {π:Nat->Nat->Prop} {k:IntKind} {n:Int} {v:Value} (h:DV w π (.int k n) v):v=.int k n:=by cases h;rfl
theorem KS.of{P:Program} {fn:Nat} (am:bL P fn=true) (hS:LY P fn) (hN:LZ P fn):KS.Spec (Pure P) fn:=by
 intro t s ht;refine⟨fn,_,rfl,am,?_,?_⟩
 ·intro x hx a ha
  obtain⟨k,_,rfl⟩:=ne.1 hx;simp only[p8,nb,List.not_mem_nil,or_false]at ha
  rcases ha with rfl|rfl<;>simp[jQ,jP,Bs.cells,I]
 intro l J Jx W π vs hπ dv aa ar ad hY h0;obtain⟨ag,ac⟩:=dv
 match vs,ag with
 |[v0,v1],_=>
 have d0:=ac 0 _ _ rfl rfl
 have d1:=ac 1 _ _ rfl rfl
 cases d0 with
 |ref _ B1 o1 g1 a1 a2 a3 a4=>
 cases d1 with
 |ref _ B2 o2 g2 b1 b2 b3 b4=>
 have V:=a3 115 _ (Tb.Kz ht)
 have M:=a4 115 _ (Tb.Kz ht)
 have ab:=b3 0 (I s) rfl
 rw[Ji (b4 0 (I s) rfl),sh]at ab
 have au:π B2 o2:=by have:=b2 0 (I s) rfl;rwa[sh]at this
 have Z:∀i wr o,J i wr->J i (World.alloc wr o):=λi wr o h=>ar i _ _ h (Cx _ _)
 have ae:∀wr o,Jx wr->Jx (World.alloc wr o):=λwr o h=>ad _ _ h (Cx _ _)
 generalize a8:g1 115=gv at V M
 cases O:t.kR with
 |none=>
  rw[O]at M;cases M
  have he:jy t s=[]:=by simp[jy,ou,O]
  refine(hN none l B1 o1 B2 o2 (J 0) W V (λwr o=>Z 0 wr o) h0).mono ?_
  rintro e W' ⟨h1,h2⟩
  exact⟨h1,.inl (by rw[he];exact h2)⟩
 |some L=>
  rw[O]at M;generalize R:L.map Bs.cells=xs at M
  have ak:DV W π (.sl xs) gv:=by rw[<-R];exact M
  cases ak with
  |PV a=>
   have hL:L=[]:=by simpa using R
   have he:jy t s=[]:=by simp[jy,ou,O,hL]
   refine(hN (some a) l B1 o1 B2 o2 (J 0) W V (λwr o=>Z 0 wr o) h0).mono ?_
   rintro e W' ⟨h1,h2⟩
   exact⟨h1,.inl (by rw[he];exact h2)⟩
  |sl _ B off cap z f c1 c2 c3 c4 c5 c6=>
  have al:xs.length=L.length:=by rw[<-R];simp
  have D:∀k,k<L.length->xs[k]? =some (tE t k).cells:=λk hk=>by
   rw[<-R];simp[tE,O,hk]
  have hz:∀k,k<L.length->z=2:=λk hk=>(c2 k _ (D k hk)).symm
  have hcell:∀k,k<L.length->(W.cell? ⟨B,off+k*2,none⟩=some (.int .i64 (tE t k).set)/\W.cell? ⟨B,off+k*2+1,none⟩=some (.int .i64 (tE t k).lock))/\π B (off+k*2)/\π B (off+k*2+1):=λk hk=>by
   have a7:=hz k hk
   subst a7
   have e0:=c5 k 0 _ _ (D k hk) rfl
   have e1:=c5 k 1 _ _ (D k hk) rfl
   rw[Ji (c6 k 0 _ _ (D k hk) rfl)]at e0;rw[Ji (c6 k 1 _ _ (D k hk) rfl)]at e1;exact⟨⟨e0,e1⟩,c4 k 0 _ _ (D k hk) rfl,c4 k 1 _ _ (D k hk) rfl⟩
  have a6:ou t=min xs.length 4:=by simp[ou,O,al]
  have ao:((jy t s).map (p8 t)).length=yA (λk=>tb s k) (min xs.length 4):=by simp[jy,yA,a6]
  rw[ao]
  refine hS l B1 o1 B2 o2 B off xs.length cap s (λk c=>if c=0 then(tE t k).set else(tE t k).lock) J Jx W (yA λk=>tb s k) rfl ?_ ?_ c1 V ?_ Z ae ?_ h0
  ·intro k hk hb;rw[wN,ib ((FM s aaN).1 hb)]
  ·intro k hk hb;rw[wN,ge (λh=>hb ((FM s aaN).2 h))]
  ·intro i wr hJ
   refine⟨λk hk=>?_,?_⟩
   ·obtain⟨⟨e0,e1⟩,p0,p1⟩:=hcell k aaN
    simp only[kv,ge (show ¬(1:Nat)=0 by decide)]
    exact⟨(aa i wr hJ _ _ p0).trans e0,(aa i wr hJ _ _ p1).trans e1⟩
   ·exact(aa i wr hJ _ _ au).trans ab
  ·intro n k wr hk hb hJ
   have a5:=(FM s aaN).1 hb
   have an:=Jh (λk=>tb s k) a5 (ou t) aaN
   have hx:((jy t s).map (p8 t))[yA (λk=>tb s k) k]? =some (p8 t k):=by rw[kx,jy,an];rfl
   exact hY n _ _ wr hx hJ
end
open Go.RowKit
section
variable (t:Tb) (b:Bx) (C:aQ) (l:List Int) (P:Program) (f p:Nat) (x:Fr)
def Dd(D:Nat):Prop:=∀(s p:Int) (w:World),Calls P D #[.int .i64 s,.int .i64 p] w λe w'=>e=.returned (.bool (eK s p))/\Below w.heap.size w w'
theorem Dd.of{P:Program} {O:Nat} (h:lD.Spec (Pure P) O):Dd P O:=by
 intro s p w
 refine((h s p).2 w (λ_ _=>False) [.int .i64 s,.int .i64 p] (λ_ _ h=>h.elim) ⟨rfl,?_⟩).mono λe w' ⟨v,π',R,V,_,_,_,M,_⟩=>?_
 ·intro i a v D L
  match i with
  |0=>simp at D L;subst D;subst L;exact .int _ _
  |1=>simp at D L;subst D;subst L;exact .int _ _
  |i+2=>simp at D
 cases M;exact⟨R,V⟩
def Pa(fn:Nat):Prop:=∀(l M O:Nat) (s:Int) (J:Nat->World->Prop) (L:World->Prop) (W:World) (cnt:Nat->Nat),cnt 0=0->
  (∀k:Nat,k<8->eK s k=true->cnt (k+1)=cnt k+1)->(∀k:Nat,k<8->eK s k=false->cnt (k+1)=cnt k)->
  (∀i wr,J i wr->wr.cell? ⟨M,O,none⟩=some (.int .i64 s))->
  (∀i wr D,J i wr->Below wr.heap.size wr D->J i D)->(∀wr D,L wr->Below wr.heap.size wr D->L D)->
  (∀(n k:Nat) wr,k<8->eK s k=true->J (cnt k) wr->YieldAt Fence.wide n P l #[.int .i64 k] wr λe W'=>(e=.returned (.bool true)/\J (cnt k+1) W')\/(e=.returned (.bool false)/\L W'))->
  J 0 W->
  Calls P fn #[.func (.yield l) #[] #[],.pointer (some ⟨M,O,none⟩)] W λe W'=>(∃v,e=.returned v)/\(J (cnt 8) W'\/L W')
theorem iq.of{P:Program} {fn:Nat} (Z:bL P fn=true) (hS:Pa P fn):iq.Spec (Pure P) fn:=by
 intro s;refine⟨fn,_,rfl,Z,?_,?_⟩
 ·intro x V a ha
  obtain⟨k,_,rfl⟩:=ne.1 V;simp only[nb,List.not_mem_nil,or_false]at ha;subst ha;simp[jQ,jP,I]
 intro l J Jx W π vs hπ dv ag ad M hY h0;obtain⟨O,ak⟩:=dv
 match vs,O with
 |[v1],_=>
 have d1:=ak 0 _ _ rfl rfl
 cases d1 with
 |ref _ B2 o2 g2 b1 b2 b3 b4=>
 have L:=b3 0 (I s) rfl
 rw[Ji (b4 0 (I s) rfl),sh]at L
 have ae:π B2 o2:=by have:=b2 0 (I s) rfl;rwa[sh]at this
 have ab:(((List.range 8).filter λp=>tb s p).map λ(p:Nat)=>[I p]).length=yA (λk=>tb s k) 8:=by simp[yA]
 rw[ab]
 refine hS l B2 o2 s J Jx W (yA λk=>tb s k) rfl ?_ ?_ ?_ (λi wr ac h D=>ad i _ _ h D) (λwr ac h D=>M _ _ h D) ?_ h0
 ·intro k hk D;rw[wq aaN]at D;rw[wN,ib D]
 ·intro k hk D;rw[wq aaN]at D;rw[wN,ge (by rw[D];simp)]
 ·intro i wr R
  exact(ag i wr R _ _ ae).trans L
 ·intro n k wr hk D R
  rw[wq aaN]at D
  have aa:=Jh (λk=>tb s k) D 8 aaN
  have V:(((List.range 8).filter λp=>tb s p).map λ(p:Nat)=>[I p])[yA (λk=>tb s k) k]? =some [I k]:=by rw[kx,aa];rfl
  exact hY n _ _ wr V R
def orF:List Int:=l.set p (AQ .i64 (nj l p) 4)
def CJ(s:Int):List Int:=(fe s).foldl orF l
theorem Zi:(orF l p).length=l.length:=by simp[orF]
theorem FN:∀(L:List Nat) (l:List Int),(L.foldl orF l).length=l.length
 |[],l=>rfl
 |p::L,l=>by rw[ui,FN L,Zi]
theorem AA{l:List Int} (h:l.length=8) (s:Int):(CJ l s).length=8:=by rw[CJ,FN,h]
theorem aiy{l:List Int} (h:l.length=8) {p:Nat} (D:p<8) (v:Int):setCells (l.map I) p [I v]=(l.set p v).map I:=by
 rw[List.map_set];simp[setCells,yi,h,D]
def Cy:bB:=Mz t b.st x.Wf
def Pb:List Int:=gZ (Cy t b x).runs
def t5:List Int:=CJ (Pb t b x) x.jB
def Wg:Mn:=NM b.bV (t5 t b x)
def HJ:Int:=if iY t b.bV (t5 t b x)==0&&ym t (Cy t b x).pre then 7 else iY t b.bV (t5 t b x)
def ad7:Prop:=t.Ok/\t.Fw/\nDt t<=1000000/\b.Ok/\(b.st.gH.getD []).length<=1000000/\(x.samples.getD []).length<=1000000
def ruR:AV:=.de [.agg (Cy t b x).cells,.agg (Wg t b x).cells,.agg ((Pb t b x).map I),I (HJ t b x)]
def L0.Spec:Prop:=∀D M L O:List AV,C.d f .gh [D,M,L,O] [none,none,none,none] [D,M,L,O]
def FO.Spec:Prop:=∀(t:Tb) (b:Bx) (x:Fr),ad7 t b x->C.c f [.agg t.cells,.agg b.cells,.agg x.cells] (ruR t b x) none
theorem Bx.De{b:Bx} (h:b.Ok):aB b.cells 3 (some 117)=some (.agg b.st.cells):=eS (pre:=[I b.mode,I b.time,I b.fault]) (mid:=b.st.cells) (post:=b.bV.cells++[I b.lines,I b.tick]) (off:=3) (z:=117) rfl (bB.len h.st)
theorem Bx.U7{b:Bx} (h:b.Ok):aB b.cells 120 (some 16)=some (.agg b.bV.cells):=by
 have e:b.cells=(I b.mode::I b.time::I b.fault::b.st.cells)++(b.bV.cells++[I b.lines,I b.tick]):=rfl
 rw[e]
 exact eS (off:=120) (z:=16) (by simp[bB.len h.st]) (Bx.Uv h)
theorem bB.U8{s:bB} (h:s.Ok):aB s.cells 106 (some 8)=some (.agg s.pre.cells):=by
 have e:s.cells=(bU s.runs++(s.rings.cells++s.mj.cells))++(s.pre.cells++(s.calls.cells++[aJ Ch.cells s.gH])):=by simp[bB.cells,List.append_assoc]
 rw[e]
 exact eS (off:=106) (z:=8) (by simp[dw h.runs,gx.cells,Rd.cells,h.lock]) (by simp[Pr.cells,h.held])
end
section
variable{P:Program} (hm:P.follows .mixedOrders=true) {f:Nat}
include hm
theorem L0.ok(D:Ug P f=some pF):L0.Spec (Pure P) f:=by
 intro O R L M
 refine Ld hm D rfl (by show 4<=11;decide) rfl aaP ?_
 try simp only[RX,cm,eZ,XV2,↓KW,seval,pF,Z.H]
theorem FO.ok{fR fS fL fE fM fK:Nat} (hc:Uj P f=some (tN fR fS fL fE fM fK)) (hR:L0.Spec (Pure P) fR) (hS:Fv.Spec (Pure P) fS) (hL:LW.Spec (Pure P) fL) (hE:vk.Spec (Pure P) fE) (hM:FJ.Spec (Pure P) fM) (hK:EP.Spec (Pure P) fK):FO.Spec (Pure P) f:=by
 intro t b x ⟨ht,ad,ar,hb,am,ae⟩;refine ET ?_
 have hl:=Tb.len ht
 have hp:=Tb.whole ht
 have bl:=Bx.len hb
 have bw:=Bx.whole hb
 have bs:aB b.cells 3 (some 117)=some (.agg b.st.cells):=Bx.De hb
 have bm:aB b.cells 120 (some 16)=some (.agg b.bV.cells):=Bx.U7 hb
 have cS:=hS t b.st x.Wf ht ad ar hb.st am ae
 have s0:(Mz t b.st x.Wf)=Cy t b x:=rfl
 rw[s0]at cS
 have M:(Cy t b x).Ok:=FB ..
 have sl:=bB.len M
 have sw:=bB.whole M
 have sr:=bB.wD M
 have sp:aB (Cy t b x).cells 106 (some 8)=some (.agg (Cy t b x).pre.cells):=bB.U8 M
 have cL:=hL (Cy t b x).runs M.runs
 have cK:=hK t (Cy t b x).pre ht M.held
 have l8:(Pb t b x).length=8:=lP _
 have i8:(t5 t b x).length=8:=AA l8 _
 have cM:=hM t b.bV (t5 t b x) ⟨ht.ln,hb.bV,i8⟩
 have ab:(Wg t b x).Ok:=sJ i8 8
 obtain⟨ke,ck,ie⟩:=hE x.jB
 have x0:x.cells[0]? =some (aJ jF x.samples):=rfl
 have x1:x.cells[1]? =some (I x.push):=rfl
 have x2:x.cells[2]? =some (I x.ask):=rfl
 have x3:x.cells[3]? =some (I x.lines):=rfl
 have x4:x.cells[4]? =some (I x.jB):=rfl
 have x5:x.Wf.cells=[aJ jF x.samples,.int .i64 x.push,.int .i64 x.ask,.int .i64 x.lines]:=rfl
 have x6:∀q,gS (aJ jF x.samples) q=true:=by intro q;cases x.samples<;>rfl
 have x7:(aJ jF x.samples).cells=[aJ jF x.samples]:=by cases x.samples<;>rfl
 have x8:x.cells.length=6/\aB x.cells 0 (some 6)=some (.agg x.cells):=⟨rfl,rfl⟩
 rw[x5]at cS;generalize aJ jF x.samples=Zp at*
 have L:HJ t b x=if iY t b.bV (t5 t b x)==0&&ym t (Cy t b x).pre then 7 else iY t b.bV (t5 t b x):=rfl
 show uz P f [] _ (.de [.agg (Cy t b x).cells,.agg (Wg t b x).cells,.agg ((Pb t b x).map I),I (HJ t b x)]) none []
 have m0:NM b.bV (t5 t b x)=Wg t b x:=rfl
 rw[m0]at cM
 have ac:CJ (Pb t b x) x.jB=t5 t b x:=rfl
 have an:gZ (Cy t b x).runs=Pb t b x:=rfl
 rw[an]at cL;generalize HJ t b x=fo at*;generalize Wg t b x=m at*;generalize t5 t b x=lit at*;generalize Pb t b x=la at*;generalize Cy t b x=s at*
 have z1:dA.length=117:=rfl
 have z2:setCells dA 0 s.cells=s.cells:=bp (by rw[sl];rfl)
 have z3:setCells s.cells 0 s.cells=s.cells:=bp rfl
 have z4:fh.length=16:=rfl
 have z5:(la.map I).length=8:=by simp[l8]
 have z6:setCells [.int .i64 0,.int .i64 0,.int .i64 0,.int .i64 0,.int .i64 0,.int .i64 0,.int .i64 0,.int .i64 0] 0 (la.map I)=la.map I:=bp (by rw[z5];rfl)
 have z7:aB (la.map I) 0 (some 8)=some (.agg (la.map I)):=by have:=mN (la.map I) 0 8 (by rw[z5];decide);rw[this,kh,<-z5,kf]
 have z8:setCells (la.map I) 0 (la.map I)=la.map I:=bp rfl
 have R:=dC hl (dC hp (dC bl (dC bw (dC bs (dC bm (dC sl (dC sw (dC sr (dC sp (dC x0 (dC x1 (dC x2 (dC x3 (dC x4 (dC x6 (dC x7 (dC x8 (dC z1 (dC z2 (dC z3 (dC z4 (dC z5 (dC z6 (dC z7 (z8)))))))))))))))))))))))))
 refine Lf hm hc (by show 3<=59;decide) rfl aaP (Uk (keep:=[]) ?_)
 try simp only[I,RY,cm,XV2,↓KW,↓dh,seval,tN,Z.H,ka,mi,R]
 refine aI cS ?_;try simp only[RY,cm,↓KW,↓dh,seval,R]
 refine aI cL ?_;try simp only[I,RY,cm,↓KW,↓dh,seval,R]
 refine aI ck ?_;try simp only[I,RY,cm,seval]
 refine iW (λz:List Int=>(⟨[(32,.dat (.fn (.func ke) [] [.ref [I x.jB]]) none),(3,.ptr 4 0),(4,.ptr 5 0),(6,.ptr 7 0),(7,.ptr 8 0),(8,.ptr 9 0),(9,.ptr 10 0),(10,.ptr 32 0),(12,.mL fR [none,none,none,none] [7,8,9,10])],[(4,⟨t.cells,[]⟩),(5,⟨b.cells,[]⟩),(7,⟨s.cells,[]⟩),(8,⟨fh,[]⟩),(9,⟨la.map I,[]⟩),(10,⟨[.int .i64 0],[]⟩),(32,⟨z.map I,[]⟩)],[],400⟩:S)) (λi z=>z=((fe x.jB).take i).foldl orF la) ie rfl (iV λ_=>rfl) (λ_=>rfl) ?_ ?_ la rfl ?_
 ·rintro i y z au he A back
  obtain⟨p,O,rfl⟩:=oq au
  have O:(fe x.jB)[i]? =some p:=O
  have hn:=lF (f:=orF) (b:=la) O
  rw[<-he]at hn
  have h8:=lX (et O)
  have aa:z.length=8:=by rw[he,FN,l8]
  have ag:0<=(p:Int)/\(p:Int)<8:=aaN
  have ao:(z.map I)[p]? =some (I (nj z p)):=YL aa h8
  have V:(z.map I).length=8:=by simp[aa]
  have ak:setCells (z.map I) p [I (AQ .i64 (nj z p) 4)]=(orF z p).map I:=aiy aa h8 _
  have al:p<=7:=aaN
  try simp only[I,RY,cm,↓KW,seval,ag,ao,V,ak,al]
  refine back (orF z p) _ hn.symm ?_
  refine ai aaO ?_ ?_ ?_ ?_<;>simp[LX,I,yL]
 ·rintro z hz
  have V:z=lit:=by
   rw[hz,<-ac,CJ]
   congr 1
   exact jp (by simp[fe])
  subst V
  have m1:=Mn.len ab
  have m2:=Mn.whole ab
  have m3:setCells fh 0 m.cells=m.cells:=bp (by rw[m1];rfl)
  have m4:setCells m.cells 0 m.cells=m.cells:=bp rfl
  have i1:(z.map I).length=8:=by simp[i8]
  have i2:aB (z.map I) 0 (some 8)=some (.agg (z.map I)):=by have:=mN (z.map I) 0 8 (by rw[i1];decide);rw[this,kh,<-i1,kf]
  have u1:∀v w:AV,setCells [v] 0 [w]=[w]:=λ_ _=>rfl
  have D:=dC m1 (dC m2 (dC m3 (dC m4 (dC i1 (dC i2 (dC u1 (R)))))))
  try simp only[I,RY,cm,↓KW,↓dh,seval,D]
  refine aI cM ?_;try simp only[I,RY,cm,↓KW,seval,D]
  rcases bf (iY t b.bV z==0)with h|h
  ·simp only[h,pc,il,eQ]at L
   try simp only[RY,cm,↓KW,seval,h,D]
   refine ej rfl ?_;try simp only[RY,XV2,↓KW,seval,D]
   refine I6 (hR _ _ _ _) rfl rfl rfl ?_;rw[L];try simp only[RY,↓KW,seval,D]
  ·try simp only[RY,cm,↓KW,↓dh,seval,h,D]
   refine aI cK ?_;try simp only[B,RY,cm,↓KW,seval]
   simp only[h,pA]at L
   rcases bf (ym t s.pre)with h2|h2
   ·simp only[h2,il,eQ]at L
    try simp only[RY,↓KW,seval,h2]
    refine ej rfl ?_;try simp only[RY,XV2,↓KW,seval,D]
    refine I6 (hR _ _ _ _) rfl rfl rfl ?_;rw[L];try simp only[RY,↓KW,seval,D]
   ·simp only[h2,kv]at L
    try simp only[RY,cm,↓KW,seval,h2,D]
    refine ej rfl ?_;try simp only[RY,XV2,↓KW,seval,D]
    refine I6 (hR _ _ _ _) rfl rfl rfl ?_;rw[L];try simp only[RY,↓KW,seval,D]
 ·refine ai aaO ?_ ?_ ?_ ?_<;>simp[LX,I,yL]
end
end Go.Eng
