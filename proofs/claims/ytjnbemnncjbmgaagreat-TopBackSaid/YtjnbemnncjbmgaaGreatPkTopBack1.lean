/- The library of TopBack. -/
import Derived.Test.YtjnbemnncjbmgaaGreatPk22
set_option linter.all false
set_option maxRecDepth 10000
set_option maxHeartbeats 4000000
namespace Go.Eng
open Go
section
open Z
def xY(D:Nat):bJ:=(⟨_,by conv=>lhs;cbv⟩:bS (cE 18 [.tmp 2] [D] [0,8,1] 0xa0804445e020080220034ee0316060022032709f0a082110a0f820016400f45481405cc258104868c0480e01c0608180c100181a20)).1
end
section
variable{P:Program} (hm:P.follows .mixedOrders=true) {f:Nat}
include hm
def CW.Spec(C:aT) (f:Nat):Prop:=∀(l:List Rn),l.length=8->C.c f [.agg (de l)] (I (iR l 8)) none
omit hm in
theorem QG{l:List Rn} {k:Nat} (h:l.length=8) (hk:k<8):(de l)[k*12]? =some (AV.int .i64 (l.getD k default).az):=by
 have D:l[k]? =some (l.getD k default):=by
  have:k<l.length:=ado
  simp[this]
 rw[de,jn D,im (by rw[aO Rn.len,jo D];omega),aO Rn.len,jo D]
 simp[Rn.cells]
theorem CW.ok{O:Nat} (hc:bK P f=some (xY O)) (hW:uo.Spec (Pure P) O):CW.Spec (Pure P) f:=by
 intro l hl;refine aq hm hc [] rfl ?_;try simp only[I,RX,↓KW,seval,xY,Z.H]
 refine aG (λk:Nat=>(⟨[(4,.dat (I k) none),(1,.ptr 4 0),(3,.dat (I (iR l k)) none)],[(4,⟨de l,[]⟩)],[],400⟩:S)) (λk=>8-k) (λk=>k<=8) ?_ 0 ado ?_
 ·intro k hk A back
  have R:=aC (k:=k) ado
  try simp only[I,RX,↓KW,seval]
  refine aA (λh=>?_) (λh=>?_)<;>try simp only[RX,↓KW,seval,h]
  ·have h8:k<8:=by have:=dE h;omega
   have M:=QG hl h8
   have V:iR l (k+1)=if(l.getD k default).az=1 then iD (iR l k) k else iR l k:=rfl
   generalize l.getD k default=r at*
   refine⟨ado,?_⟩
   try simp only[RX,↓KW,seval,M]
   refine aA (λL=>?_) (λL=>?_)<;>try simp only[RX,↓KW,seval,L]
   ·have D:r.az=1:=by simpa using L
    refine af (hW _ _) ?_;try simp only[I,RX,↓KW,seval]
    refine back (k+1) _ ado ado (ai adp ?_ ?_ ?_ ?_)<;>simp[LX,I,R,V,D]
   ·have D:¬r.az=1:=by simpa using L
    refine back (k+1) _ ado ado (ai adp ?_ ?_ ?_ ?_)<;>simp[LX,I,R,V,D]
  ·have:k=8:=by have:=dT h;omega
   subst this;try simp only[seval]
 ·refine ai adp ?_ ?_ ?_ ?_<;>simp[LX,I,iR]
end
theorem acM{s:Int} {p:Nat} (D:p<8):iD s p=eJ s p:=by
 refine BK (JJ _ _) (sZ D) λi L=>?_
 rw[sY D,ng D];simp[L]
theorem O3(l:List Rn):∀k,k<=8->iR l k=og (λp=>fJ (bh l p)) k
 |0,_=>rfl
 |k+1,h=>by
  have e:(fJ (bh l k)=true)↔(l.getD k default).az=1:=by simp[fJ,bh]
  simp only[iR,og,O3 l k ado,e]
  split
  ·rw[acM ado]
  ·rfl
section
open Z
def xZ(g0 g1 g2 g3 O D Z:Nat):bJ:=⟨175,[.tmp 4],r [V 4 (F)] (r [M 18 0,o 19 (.call g0 [t 18]),o 5 (.alloc bL),n (s 5 19 131)] (r [M 20 1,o 21 (.call g1 [t 20,k (F)]),M 6 21] (r [o 22 (L 5 131),o 23 (.call g2 [t 22]),o 7 (.alloc aD),n (s 7 23 138)] (j (r [V 8 (i 0)] (u 0 (.loop (j (r [M 24 8,M 25 6,o 26 (h 25),o 27 (b .lss 24 26)] (c 27 z (.exit 0))) (j (u 1 (r [o 31 (L 5 131),o 32 (L 7 138),M 33 6,M 34 8,o 35 (a 33 34 6),o 36 (L 35 6),o 37 (.call g3 [t 31,t 32,t 36]),M 30 37,o 38 (e 30 0),o 39 (e 30 1),o 40 (e 30 2),o 9 (.alloc aD),o 10 (.alloc [i 0,i 0,i 0,i 0,i 0,i 0,i 0,i 0]),n (s 9 38 138),n (s 10 39 8),M 11 40] (j (r [o 41 (f 7 0),o 42 (l 41),o 43 (bb .eql 42 (i 2)),M 44 43,p 45 (f 9 0) 44,p 46 (l 45) 44,p 47 (bb .eql 46 (i 2)) 44,o 48 (P 44 47)] (c 48 (.seq (.sq [o 49 (f 7 3),o 50 (L 49 117),o 51 (f 9 3),o 52 (L 51 117),o 12 (.alloc b9),o 13 (.alloc b9),n (s 12 50 117),n (s 13 52 117)] [(3,6)]) (r [o 53 (f 13 0),o 54 (L 53 96),o 55 (.call O [t 54]),o 56 (f 12 0),o 57 (L 56 96),o 58 (.call O [t 57]),o 59 (b .andNot 55 58),M 14 59] (j (r [o 60 (f 12 106),o 61 (f 60 1),o 62 (l 61),o 63 (bb .lss 62 (i 0)),M 64 63,q 65 (f 12 106) 64,q 66 (f 65 1) 64,q 67 (l 66) 64,q 68 (f 5 114) 64,q 69 (l 68) 64,q 70 (h 69) 64,q 71 (.mm true [k (i 1),t 70]) 64,q 72 (b .geq 67 71) 64,o 73 (Q 64 72)] (c 73 (r [V 4 (F)] y) z)) (j (r [o 74 (f 12 106),o 75 (f 74 0),o 76 (l 75),o 77 (bb .eql 76 (i 5)),M 78 77,p 79 (f 13 106) 78,p 80 (f 79 0) 78,p 81 (l 80) 78,p 82 (bb .eql 81 (i 0)) 78,o 83 (P 78 82),M 84 83,p 85 (f 5 114) 84,p 86 (l 85) 84,p 87 (h 86) 84,p 88 (bb .eql 87 (i 0)) 84,p 89 (m 88) 84,q 90 (f 13 0) 89,q 91 (L 90 96) 89,q 92 (.call O [t 91]) 89,q 93 (f 5 114) 89,q 94 (l 93) 89,q 95 (f 12 106) 89,q 96 (f 95 1) 89,q 97 (l 96) 89,q 98 (a 94 97 11) 89,q 99 (f 98 3) 89,q 100 (l 99) 89,q 101 (b .neq 92 100) 89,p 102 (Q 89 101) 84,o 103 (P 84 102)] (c 103 (r [V 4 (F)] y) z)) (j (r [o 104 (f 13 106),o 105 (f 104 0),o 106 (l 105),o 107 (bb .eql 106 (i 5)),M 108 107,p 109 (m 14) 108,p 110 (bb .neq 109 (i 0)) 108,o 111 (P 108 110),M 112 111,q 113 (f 13 106) 112,q 114 (f 113 0) 112,q 115 (l 114) 112,q 116 (bb .eql 115 (i 1)) 112,q 117 (m 116) 112,p 118 (m 14) 117,p 119 (bb .neq 118 (i 0)) 117,q 120 (P 117 119) 112,o 121 (Q 112 120)] (c 121 (r [V 4 (F)] y) z)) (r [V 15 (i 0)] (u 2 (.loop (j (r [M 122 15,o 123 (bb .lss 122 (i 8))] (c 123 z (.exit 2))) (j (u 3 (r [o 126 (f 12 114),o 127 (f 126 0),o 128 (l 127),M 129 15,o 130 (.call D [t 128,t 129]),M 131 130,p 132 (f 13 114) 131,p 133 (f 132 0) 131,p 134 (l 133) 131,p 135 (m 15) 131,p 136 (.call D [t 134,t 135]) 131,p 137 (.un .not (t 136)) 131,o 138 (P 131 137),M 16 138] (r [o 139 (f 12 114),o 140 (f 139 1),o 141 (l 140),M 142 15,o 143 (.call D [t 141,t 142]),M 144 143,p 145 (f 13 114) 144,p 146 (f 145 1) 144,p 147 (l 146) 144,p 148 (m 15) 144,p 149 (.call D [t 147,t 148]) 144,p 150 (.un .not (t 149)) 144,o 151 (P 144 150),M 17 151] (r [M 152 16,M 153 152,p 154 (m 15) 153,p 155 (f 12 0) 153,p 156 (A 155 154 8 12) 153,p 157 (f 156 0) 153,p 158 (l 157) 153,p 159 (bb .neq 158 (i 1)) 153,o 160 (P 153 159),M 161 160,q 162 (m 17) 161,q 163 (m 162) 161,p 164 (m 15) 163,p 165 (f 12 0) 163,p 166 (A 165 164 8 12) 163,p 167 (f 166 2) 163,p 168 (f 167 0) 163,p 169 (l 168) 163,p 170 (bb .neq 169 (i 1)) 163,q 171 (P 163 170) 161,o 172 (Q 161 171)] (c 172 (r [V 4 (F)] y) z))))) (R [M 124 15,o 125 (bb .add 124 (i 1)),M 15 125]))))))))))) z)) (R [o 173 (L 9 138),n (s 7 173 138)])))) (R [M 28 8,o 29 (bb .add 28 (i 1)),M 8 29])))))) (r [o 174 (.call Z []),M 4 174] y)))))⟩
end
section
variable {b:Bx} {n:Nat} {s:bD} {t:Tb}
theorem Y7{p:Ph} {r:Rn} {c:Cu} (h:0<=r.az/\r.az<=3) (L:c.start=false) (M:fJ (bG p r c)=true):fJ r=true:=by
 have o:=AH p r c
 simp only[fJ,l4]at*
 rcases mY h with⟨e,D⟩|⟨e,_⟩|⟨e,_⟩|⟨e,_⟩
 ·have:=(o.red D L).1;omega
 ·exact e
 ·have:=(o.dD e).2;omega
 ·have:=(o.clear e).2;omega
theorem UT(g:TG t n) (I:SI t n s) (x:E0) (h5:s.pre.ax=5) (h0:(rC t s x).pre.ax=0):0<=s.pre.which/\s.pre.which<(nR t:Int)/\J1 (rC t s x)=(bn t s.pre).exit:=by
 have h0:(jS t s x).1.ax=0:=h0
 have Z:=I.pre.which (by rw[h5];decide)
 have hg:=Sg g Z
 refine⟨Z.1,Z.2,?_⟩
 rcases(Cx x.lines s.runs I.pre).2 with⟨_,h,_⟩|⟨h,_,_,L⟩|⟨h,_⟩
 ·omega
 ·have h:(jS t s x).2=jv t s.pre s.runs:=h
  have hf:(jS t s x).2.free=false:=by rw[h];rfl
  have R:E1 t s x=⟨(jv t s.pre s.runs).start,0,0,0,0,0⟩:=by
   rw[E1,hf,h];rfl
  have M:mA s.runs (bC .i64 255 (bn t s.pre).exit)=true/\Lw (bn t s.pre).exit (λp=>xA t (bh s.runs p))=true:=by
   unfold gC at L;split at L
   ·rename_i h;simpa only[ed]using h
   ·exact absurd L adp
  refine(WZ hg.exit.1.1 λp O=>?_).symm
  have o:=AH (aK t p) (s.rn p) (lp t s x p)
  obtain⟨b1,b2,_⟩:=lT t s x O
  have D:(lp t s x p).start=(tb (bn t s.pre).exit p&&dN (s.rn p)):=by
   rw[b1,R]
   show tb (xz (bn t s.pre).exit λp=>dN (bh s.runs p)) p=_
   rw[H7 O];rfl
  have ab:(lp t s x p).fin=false:=by rw[b2,R];exact ef _
  rw[lS t s x O]
  cases V:tb (bn t s.pre).exit p with
  |true=>
   rw[V]at D
   have L:=nN.1 M.2 p O V
   rcases bf (dN (s.rn p))with hr|hr
   ·have aa:(s.rn p).az=1:=by
     have L:(fJ (s.rn p)||dN (s.rn p)&&decide ((s.rn p).time>=t.revert))=true:=L
     rw[hr]at L
     simpa[fJ]using L
    have:=(o.green aa ab).1
    simp[fJ,this]
   ·rw[hr]at D
    have:=(o.start hr D).1
    simp[fJ,this]
  |false=>
   rw[V]at D
   have hr:dN (s.rn p)=true:=nN.1 M.1 p O (by rw[Qj O,V];rfl)
   have:=(o.red hr D).1
   simp[fJ,this]
 ·have h:1<=(jS t s x).1.ax:=h
  omega
theorem UU(I:SI t n s) (x:E0) (h:(rC t s x).pre.ax=5\/(rC t s x).pre.ax=1):bC .i64 (J1 (rC t s x)) (J1 s)=0:=by
 have h:(jS t s x).1.ax=5\/(jS t s x).1.ax=1:=h
 have M:(E1 t s x).start=0:=by
  rcases(Cx x.lines s.runs I.pre).2 with⟨_,_,D⟩|⟨_,_,D,_⟩|⟨_,_,D⟩
  ·have D:(jS t s x).1.ax=0:=D
   omega
  ·have D:(jS t s x).1.ax=0:=D
   omega
  ·have D:(jS t s x).2=mD t (jS t s x).1 s.runs (jS t s x).1.ax:=D
   have R:=AF t (jS t s x).1 s.runs (to:=(jS t s x).1.ax) ado
   have V:(jS t s x).2.free=false:=by rw[D,R.1];simp;omega
   rw[E1,V];simp only[eQ,il];rw[D]
   rcases h with h|h<;>rw[h]<;>rfl
 refine nD.2 λp _=>?_
 rw[J1,J1,xu,xu]
 by_cases L:p<8
 ·simp only[L,Id,py]
  cases O:fJ ((rC t s x).rn p)with
  |false=>rfl
  |true=>
   rw[lS t s x L]at O
   rw[Y7 (I.run p L).col (by rw[(lT t s x L).1,M];exact ef _) O];rfl
 ·simp[L]
theorem DT(K:X5 t s.calls) (x:E0):X5 t (rC t s x).calls/\∀p:Nat,p<8->(tb s.calls.u9 p=true->tb (rC t s x).calls.u9 p=false->(s.rn p).az=1)/\(tb s.calls.dm p=true->tb (rC t s x).calls.dm p=false->(s.rn p).fst=1):=by
 have M:(rC t s x).calls=iJ t s.calls (R5 t s x) x.push (J1 s) (wkS s):=rfl
 have hk:=Ib (h:=R5 t s x) (p:=x.push) (g:=J1 s) (w:=wkS s) K
 rw[<-M]at hk
 refine⟨hk.2.2.2.2.2.2.2,λp O=>⟨λD L=>?_,λD L=>?_⟩⟩
 ·have h:bT .i64 (bC .i64 (bC .i64 s.calls.u9 (J1 s)) (rC t s x).calls.u9) 255=0:=by simpa using hk.1
  have:=and_zero.1 h p ado
  rw[i4 _ _ _ ado,i4 _ _ _ ado,ux,D,L,J1,xu]at this
  simpa[O,fJ]using this
 ·have h:bT .i64 (bC .i64 (bC .i64 s.calls.dm (wkS s)) (rC t s x).calls.dm) 255=0:=by simpa using hk.2.1
  have:=and_zero.1 h p ado
  rw[i4 _ _ _ ado,i4 _ _ _ ado,ux,D,L,wkS,xu]at this
  simpa[O,BV]using this
def KIb(t:Tb) (b:Bx):Prop:=X5 t b.st.calls
theorem KI0(t:Tb):X5 t (pW t).calls:=J9 t [] 0
theorem KIb.next{x:Fr} (K:KIb t b):KIb t (gz t b x):=by
 unfold KIb
 rcases L8 t b x with e|e|⟨i,e⟩<;>rw[e]
 ·exact K
 ·exact KI0 t
 ·exact(DT K i).1
theorem KIb.run(t:Tb) (D:List Fr):∀i,KIb t (eO t D i)
 |0=>KI0 t
 |i+1=>(KIb.run t D i).next
structure alR (t:Tb) (a b:bD):Prop where
 which:decide (a.pre.which<0)=false/\decide (a.pre.which>=if(t.bE.getD []).length>(1:Int)then((t.bE.getD []).length:Int)else 1)=false
 back:a.pre.ax=5->b.pre.ax=0->∃rl,(t.bE.getD [])[a.pre.which.toNat]? =some rl/\(0<=a.pre.which/\a.pre.which<((t.bE.getD []).length:Int))/\J1 b=rl.exit
 no:b.pre.ax=5\/b.pre.ax=1->bC .i64 (J1 b) (J1 a)=0
 u9:∀p:Nat,p<8->tb a.calls.u9 p=true->tb b.calls.u9 p=false->(a.rn p).az=1
 dm:∀p:Nat,p<8->tb a.calls.dm p=true->tb b.calls.dm p=false->(a.rn p).fst=1
theorem ahF(g:TG t n) {x:Fr} (I:CI t n b) (K:KIb t b) (R:b.mode=2) (M:(gz t b x).mode=2):alR t b.st (gz t b x).st:=by
 obtain⟨e,_⟩:=qj (x:=x) R M
 have hn:nR t<=(t.bE.getD []).length:=Nat.min_le_left _ _
 rw[e]
 refine⟨?_,λh5 V=>?_,λh=>UU I.si _ h,λp D=>((DT K _).2 p D).1,λp D=>((DT K _).2 p D).2⟩
 ·have hr:0<=b.st.pre.which/\b.st.pre.which<max 1 ((t.bE.getD []).length:Int):=by
   by_cases h:b.st.pre.ax=0
   ·have:=I.si.pre.zero h;omega
   ·have:=I.si.pre.which h;omega
  refine⟨ut ado,ut ?_⟩
  split<;>omega
 ·obtain⟨L,Z,O⟩:=UT g I.si _ h5 V
  refine⟨(t.bE.getD [])[b.st.pre.which.toNat]' ado,eh ado,⟨L,ado⟩,?_⟩
  rw[O,bn,fp ⟨L,Z⟩,NA,em,eh ado];rfl
theorem UW(s:bD):iR s.runs 8=J1 s:=O3 s.runs 8 ado
def FQ.Spec(C:aT) (f:Nat):Prop:=∀l sc:Option (List Int),C.c f [aI aH l,aI aH sc] (B true) none
end
section
variable{P:Program} (hm:P.follows .mixedOrders=true) {f:Nat}
include hm
theorem FQ.ok{fT fC fB fS fG fh fA:Nat} (hc:bK P f=some (xZ fT fC fB fS fG fh fA)) (hT:Table.Spec (Pure P) fT) (hC:qg.Spec (Pure P) fC) (hB:lO.Spec (Pure P) fB) (hS:qi.Spec (Pure P) fS) (hG:CW.Spec (Pure P) fG) (hh:rT.Spec (Pure P) fh) (hA:jw.Spec (Pure P) fA):FQ.Spec (Pure P) f:=by
 intro l sc
 have ab:=vT.table l
 have hg:=Ie l
 have bo:=IK l
 obtain⟨t,au⟩:∃t,bk l=t:=⟨_,rfl⟩
 obtain⟨O,ak⟩:∃x,ez (gD false (sc.getD []))=x:=⟨_,rfl⟩
 have am:O.getD []=gD false (sc.getD []):=by rw[<-ak,dB]
 have ad:Qm (O.getD []):=by rw[am];exact kM _ _
 have b5:(O.getD []).length<=1500:=by rw[am];exact kN _ _
 have cT:=hT l
 rw[au]at cT ab hg bo
 have cC:=hC sc false
 rw[ak]at cC
 have ht:=ab.tok
 have a3:=Tb.len ht
 have bj:=Tb.whole ht
 have z1:bL.length=131:=rfl
 have z2:setCells bL 0 t.cells=t.cells:=aM (by rw[a3];rfl)
 have z3:aD.length=138:=rfl
 have ae:=λi (h:i<=(O.getD []).length)=>CI.run hg ab ad i h
 clear au ak am;generalize nT l=n at*
 have ac:=dC a3 (dC bj (dC z1 (dC z2 (z3))))
 refine aq hm hc [5,6] rfl ?_;try simp only[B,RY,↓KW,seval,xZ,Z.H]
 refine af cT ?_;try simp only[RY,↓KW,seval,ac]
 refine af cC ?_;try simp only[RY,↓KW,seval,ac]
 have a9:(jQ t).Ok:=nk t
 have b0:=Bx.len a9
 have b2:setCells aD 0 (jQ t).cells=(jQ t).cells:=aM (by rw[b0];rfl)
 refine af (hB t ht) ?_;try simp only[RY,↓KW,seval,b0,b2,ac]
 refine aG (λi:Nat=>(⟨[(8,.dat (I i) none),(6,.dat (aI Fr.cells O) none),(5,.ptr 7 0),(7,.ptr 14 0)],[(7,⟨t.cells,[]⟩),(14,⟨(eO t (O.getD []) i).cells,[]⟩)],[],400⟩:S)) (λi=>1500-i) (λi=>i<=(O.getD []).length) ?_ 0 ado ?_
 rotate_left
 ·refine ai adp ?_ ?_ ?_ ?_<;>simp[LX,I,eO]
 intro i hi A back
 have ag:=aC (k:=i) ado
 rcases bf (decide ((i:Int)<((O.getD []).length:Int)))with h|h
 ·try simp only[I,RY,↓KW,seval,h]
  refine af hA ?_;try simp only[B,RY,↓KW,seval]
 ·have h1:i<(O.getD []).length:=by have:=dE h;omega
  obtain⟨x,hx⟩:∃x,(O.getD [])[i]? =some x:=⟨_,eh h1⟩
  have bm:(O.getD []).getD i default=x:=by rw[em,hx];rfl
  have ba:(x.samples.getD []).length<=1000000:=ad x (er hx)
  have an:eO t (O.getD []) (i+1)=gz t (eO t (O.getD []) i) x:=by rw[<-bm];rfl
  have hI:=ae i hi
  have hJ:=ae (i+1) ado
  have cS:=hS t (eO t (O.getD []) i) x (hI.inv.ins ab ba)
  rw[lX]at cS;rw[an]at hJ
  have hy:0<=(i:Int)/\(i:Int)<((O.getD []).length:Int):=ado
  obtain⟨g1,g2,g3,g4,g5⟩:=Pc x
  have a2:=ahF hg hI (x:=x) (KIb.run t (O.getD []) i)
  rw[<-an]at a2
  have a6:=AN t (eO t (O.getD []) i) x
  have b3:=Bx.len hI.inv.mZ
  have b4:=Bx.whole hI.inv.mZ
  have c1:=Bx.len hJ.inv.mZ
  have c4:=Bx.whole hJ.inv.mZ
  rw[<-an]at cS c1 c4 hJ;generalize vM t (eO t (O.getD []) i) x=L at*;generalize Sm t (eO t (O.getD []) i) x=ev at*
  have c2:setCells aD 0 (eO t (O.getD []) (i+1)).cells=(eO t (O.getD []) (i+1)).cells:=aM (by rw[c1];rfl)
  have c3:setCells (eO t (O.getD []) i).cells 0 (eO t (O.getD []) (i+1)).cells=(eO t (O.getD []) (i+1)).cells:=aM (by rw[b3,c1])
  generalize b1:eO t (O.getD []) i=b at*;generalize al:eO t (O.getD []) (i+1)=b' at*
  have d1:(L.map I).length=8:=by simp[a6]
  have d2:setCells [.int .i64 0,.int .i64 0,.int .i64 0,.int .i64 0,.int .i64 0,.int .i64 0,.int .i64 0,.int .i64 0] 0 (L.map I)=L.map I:=aM (by rw[d1];rfl)
  have d3:aB (L.map I) 0 (some 8)=some (.agg (L.map I)):=by
   simp only[aB,d1,kb]
   rw[fp ado,<-d1,io]
  have m1:b.cells[0]? =some (I b.mode):=rfl
  have m2:b'.cells[0]? =some (I b'.mode):=rfl
  have a7:=dC hy (dC hx (dC b3 (dC b4 (dC c1 (dC c2 (dC c3 (dC c4 (dC d1 (dC d2 (dC d3 (dC g1 (dC g2 (dC m1 (dC m2 (ac)))))))))))))))
  have s1:=Bx.CB hI.inv.mZ
  have s2:=Bx.CB hJ.inv.mZ
  have o1:=hI.inv.mZ.st
  have o2:=hJ.inv.mZ.st
  generalize bw:b.st=a at*;generalize b7:b'.st=a' at*
  have tr:=Tb.sK ht
  have q1:=bD.len o1
  have q2:=bD.len o2
  have q3:setCells b9 0 a.cells=a.cells:=aM (by rw[q1];rfl)
  have q4:setCells b9 0 a'.cells=a'.cells:=aM (by rw[q2];rfl)
  have q5:b9.length=117:=rfl
  have p1:=bD.sX o1
  have p2:=bD.sX o2
  have a8:=bD.ale o1
  have a5:=bD.pV o1
  have a4:=bD.pV o2
  have q6:a.cells[114]? =some (I a.calls.u9)/\a.cells[115]? =some (I a.calls.dm):=⟨kF (bD.XM o1) (j:=0) ado,bD.agT o1⟩
  have q7:a'.cells[114]? =some (I a'.calls.u9)/\a'.cells[115]? =some (I a'.calls.dm):=⟨kF (bD.XM o2) (j:=0) ado,bD.agT o2⟩
  have ar:=hG a.runs o1.runs
  have ao:=hG a'.runs o2.runs
  rw[UW]at ar ao
  have V:=dC s1 (dC s2 (dC tr (dC q1 (dC q2 (dC q3 (dC q4 (dC q5 (dC p1 (dC p2 (dC a8 (dC a5 (dC a4 (dC q6 (dC q7 (a7)))))))))))))))
  try simp only[I,RY,↓KW,seval,V]
  refine af cS ?_
  rcases bf (b.mode==2)with y1|y1
  ·try simp only[I,RY,↓KW,seval,y1,V]
   refine back (i+1) _ ado ado ?_
   refine ai adp ?_ ?_ ?_ ?_<;>simp[LX,I,ag,al]
  rcases bf (b'.mode==2)with y2|y2
  ·try simp only[I,RY,↓KW,seval,y1,y2,V]
   refine back (i+1) _ ado ado ?_
   refine ai adp ?_ ?_ ?_ ?_<;>simp[LX,I,ag,al]
  obtain⟨⟨k1,bl⟩,k2,k3,k4,k5⟩:=a2 (by simpa using y1) (by simpa using y2)
  have D:=dC k1 (dC bl (dC y1 (dC y2 (V))))
  try simp only[I,RY,↓KW,seval,D]
  refine ep rfl ?_;try simp only[RY,↓KW,seval,D]
  refine af ao ?_;try simp only[I,RY,↓KW,seval,D]
  refine af ar ?_;try simp only[I,RY,↓KW,seval,D]
  apply XN (λ_:Unit=>(⟨[(14,.dat (I (bC .i64 (J1 a') (J1 a))) none),(13,.ptr 433 0),(12,.ptr 432 0),(9,.ptr 415 0),(8,.dat (I i) none),(7,.ptr 14 0),(6,.dat (aI Fr.cells O) none),(5,.ptr 7 0)],[(7,⟨t.cells,[]⟩),(14,⟨b.cells,[]⟩),(415,⟨b'.cells,[]⟩),(432,⟨a.cells,[]⟩),(433,⟨a'.cells,[]⟩)],[],500⟩:S)) (λ_=>True)
  ·intro M
   rcases bf (a.pre.ax==5)with u1|u1
   ·try simp only[RY,↓KW,seval,u1]
    refine M () _ trivial ?_
    refine ai adp ?_ ?_ ?_ ?_<;>simp[LX,I]
   rcases bf (a'.pre.ax==0)with u2|u2
   ·try simp only[I,RY,↓KW,seval,u1,u2,D]
    refine M () _ trivial ?_
    refine ai adp ?_ ?_ ?_ ?_<;>simp[LX,I]
   ·obtain⟨rl,r1,r2,r3⟩:=k2 (by simpa using u1) (by simpa using u2)
    have r4:(((t.bE.getD []).length:Int)==0)=false:=by
     rw[wc];omega
    have r5:rl.cells.length=11/\rl.cells.drop 3=I rl.exit::rl.cells.drop 4/\rl.cells[3]? =some (I rl.exit):=⟨rfl,rfl,rfl⟩
    try simp only[I,RY,↓KW,seval,u1,u2,r4,D]
    refine af ao ?_
    have r6:(J1 a' !=rl.exit)=false:=by rw[r3];exact tz _
    try simp only[I,RY,↓KW,seval,r1,r2,r6,r5,D]
    refine M () _ trivial ?_
    refine ai adp ?_ ?_ ?_ ?_<;>simp[LX,I]
  rintro _ _
  try simp only[I,RY,↓KW,seval,D]
  apply XN (λ_:Unit=>(⟨[(13,.ptr 433 0),(12,.ptr 432 0),(9,.ptr 415 0),(8,.dat (I i) none),(7,.ptr 14 0),(6,.dat (aI Fr.cells O) none),(5,.ptr 7 0)],[(7,⟨t.cells,[]⟩),(14,⟨b.cells,[]⟩),(415,⟨b'.cells,[]⟩),(432,⟨a.cells,[]⟩),(433,⟨a'.cells,[]⟩)],[],600⟩:S)) (λ_=>True)
  ·intro M
   rcases bf (a'.pre.ax==5)with u1|u1
   rotate_left
   ·have r1:=k3 (.inl (by simpa using u1))
    have u2:(a'.pre.ax==1)=false:=by
     have:a'.pre.ax=5:=by simpa using u1
     rw[this];rfl
    try simp only[I,RY,↓KW,seval,u1,u2,r1,D]
    refine M () _ trivial ?_
    refine ai adp ?_ ?_ ?_ ?_<;>simp[LX,I]
   rcases bf (a'.pre.ax==1)with u2|u2
   rotate_left
   ·have r1:=k3 (.inr (by simpa using u2))
    try simp only[I,RY,↓KW,seval,u1,u2,r1,D]
    refine M () _ trivial ?_
    refine ai adp ?_ ?_ ?_ ?_<;>simp[LX,I]
   try simp only[I,RY,↓KW,seval,u1,u2,D]
   refine M () _ trivial ?_
   refine ai adp ?_ ?_ ?_ ?_<;>simp[LX,I]
  rintro _ _
  try simp only[I,RY,↓KW,seval]
  refine aG (λp:Nat=>(⟨[(15,.dat (I p) none),(13,.ptr 433 0),(12,.ptr 432 0),(9,.ptr 415 0),(8,.dat (I i) none),(7,.ptr 14 0),(6,.dat (aI Fr.cells O) none),(5,.ptr 7 0)],[(7,⟨t.cells,[]⟩),(14,⟨b.cells,[]⟩),(415,⟨b'.cells,[]⟩),(432,⟨a.cells,[]⟩),(433,⟨a'.cells,[]⟩)],[],700⟩:S)) (λp=>8-p) (λp=>p<=8) ?_ 0 ado ?_
  rotate_left
  ·refine ai adp ?_ ?_ ?_ ?_<;>simp[LX,I]
  intro p b6 A3 M
  have bd:=aC (k:=p) ado
  rcases bf (decide ((p:Int)<8))with g|g
  ·try simp only[I,RY,↓KW,seval,g,D]
   refine back (i+1) _ ado ado ?_
   refine ai adp ?_ ?_ ?_ ?_<;>simp[LX,I,ag,al]
  have aa:p<8:=by have:=dE g;omega
  have bi:0<=(p:Int)/\(p:Int)<8:=ado
  have be:a.cells[p*12]? =some (I (a.rn p).az):=bD.Du o1 aa (j:=0) ado
  have bs:a.cells[p*12+2]? =some (I (a.rn p).fst):=bD.Du o1 aa (j:=2) ado
  have h1:=hh a.calls.u9 p
  have h2:=hh a'.calls.u9 p
  have h3:=hh a.calls.dm p
  have h4:=hh a'.calls.dm p
  rw[yA aa]at h1 h2 h3 h4
  have u9:tb a.calls.u9 p=false\/(tb a.calls.u9 p=true/\tb a'.calls.u9 p=true)\/(tb a.calls.u9 p=true/\tb a'.calls.u9 p=false/\((a.rn p).az !=1)=false):=by
   have:=k4 p aa
   rcases bf (tb a.calls.u9 p)with e|e<;>rcases bf (tb a'.calls.u9 p)with e'|e'<;>simp_all
  have dm:tb a.calls.dm p=false\/(tb a.calls.dm p=true/\tb a'.calls.dm p=true)\/(tb a.calls.dm p=true/\tb a'.calls.dm p=false/\((a.rn p).fst !=1)=false):=by
   have:=k5 p aa
   rcases bf (tb a.calls.dm p)with e|e<;>rcases bf (tb a'.calls.dm p)with e'|e'<;>simp_all
  have R:=dC bi (dC be (dC bs (D)))
  generalize tb a.calls.u9 p=x1 at*;generalize tb a'.calls.u9 p=x2 at*;generalize tb a.calls.dm p=x3 at*;generalize tb a'.calls.dm p=x4 at*
  obtain⟨d1,e1⟩:∃d,((a.rn p).az !=1)=d:=⟨_,rfl⟩
  obtain⟨d2,e2⟩:∃d,((a.rn p).fst !=1)=d:=⟨_,rfl⟩
  rw[e1]at u9;rw[e2]at dm
  rcases u9 with rfl|⟨rfl,rfl⟩|⟨rfl,rfl,rfl⟩<;>rcases dm with rfl|⟨rfl,rfl⟩|⟨rfl,rfl,rfl⟩
  all_goals
   try simp only[I,RY,↓KW,seval,R]
   refine af h1 ?_;try simp only[I,B,RY,↓KW,seval,R]
   try(refine af h2 ?_;try simp only[I,B,RY,↓KW,seval,R])
   refine af h3 ?_;try simp only[I,B,RY,↓KW,seval,R]
   try(refine af h4 ?_;try simp only[I,B,RY,↓KW,seval,e1,e2,R])
   try simp only[RY,↓KW,seval,e1]
   refine M (p+1) _ ado ado ?_
   refine ai adp ?_ ?_ ?_ ?_<;>simp[LX,I,bd]
end
end Go.Eng
