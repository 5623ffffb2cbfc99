/- The engine and the library,part 12 of 16: what the proofs of this seat need of them. -/
import Derived.Test.YtdfplndcbbofjaaGreatPk11
set_option linter.unnecessarySimpa false
set_option linter.unusedSimpArgs false
set_option linter.unusedVariables false
set_option linter.defProp false
set_option maxRecDepth 10000
set_option maxHeartbeats 4000000
namespace Go.Eng
open Go
structure Ac where
 start:Int
 fin:Int
 cut:Int
 free:Bool
 back:Bool
 deriving Inhabited,DecidableEq
def Ac.cells (a:Ac):List AV:=[I a.start,I a.fin,I a.cut,B a.free,B a.back]
theorem Ac.flat (a:Ac):lF (.agg a.cells)=true:=rfl
theorem Rl.flat (r:Rl):lF (.agg r.cells)=true:=rfl
theorem Pr.flat {s:Pr} (h:s.held.length=4):lF (.agg s.cells)=true:=by rw [Pr.cells,iY h]; rfl
def aT (l:List Rn) (k:Nat):Rn:=l.getD k default
def wE (s:Pr) (l:List Rn):List AV:=s.cells++bZ l
def cj (t:Tb) (s:Pr) (l:List Rn):List AV:=t.cells++wE s l
structure ku (t:Tb) (s:Pr) (l:List Rn):Prop where
 t:t.Ok
 s:s.held.length=4
 l:l.length=8
section
variable {t:Tb} {s:Pr} {l:List Rn} (h:ku t s l)
include h
theorem CF:(cj t s l).length=235:=by simp [cj,wE,Tb.len h.t,Pr.len h.s,cB h.l]
theorem oQ:(cj t s l).drop 131=wE s l:=by
 rw [cj,List.drop_left' (Tb.len h.t)]
theorem Kj:(cj t s l).drop 139=bZ l:=by
 have:(cj t s l).drop 139=((cj t s l).drop 131).drop 8:=by rw [List.drop_drop]
 rw [this,oQ h,wE,List.drop_left' (Pr.len h.s)]
theorem GW:aD (cj t s l) 0 (some 131)=some (.agg t.cells):=fQ (pre:=[]) rfl (Tb.len h.t)
theorem FB {j:Nat} (hj:j < 131):(cj t s l)[j]? = t.cells[j]?:=by rw [cj,List.getElem?_append_left (by rw [Tb.len h.t]; exact hj)]
theorem GX:(wE s l)[0]? = some (I s.aq)∧((wE s l).drop 1)[0]? = some (I s.which)∧((wE s l).drop 2)[0]? = some (I s.time)∧((wE s l).drop 7)[0]? = some (I s.dH):=by
 rw [wE,Pr.cells,iY h.s]; exact ⟨rfl,rfl,rfl,rfl⟩
theorem Tg {k:Nat} (hk:k < 4):(((wE s l).drop 3).drop k)[0]? = some (I (ej s k)):=by
 have e:k=0∨k=1∨k=2∨k=3:=by omega
 rw [wE,Pr.cells,iY h.s]
 rcases e with rfl|rfl|rfl|rfl<;>rfl
theorem MN {k:Nat} (hk:k < 8):aD ((bZ l).drop (k * 12)) 0 (some 12)=some (.agg (aT l k).cells):=by
 have hr:=iP h.l hk
 have hl:=cB h.l
 simp only [aD] at hr ⊢
 rw [if_pos (by omega)] at hr
 rw [if_pos (by simp; omega),List.drop_zero]
 exact hr
theorem GY:((cj t s l).drop 119)[0]? = some (I t.revert):=by
 rw [List.getElem?_drop,FB h (by omega)]
 exact Tb.tail_at h.t 3 (by omega)
theorem MO {p:Nat} (hp:p < 8):(((cj t s l).drop 105).drop p)[0]? = some (I (dY t p)):=by
 rw [List.drop_drop,List.getElem?_drop,FB h (by omega)]
 exact h.t.ln.Cv hp
theorem MP {p:Nat} (hp:p < 8):(((cj t s l).drop (p * 13)).drop 1)[0]? = some (I (aO t p).min):=by
 rw [List.drop_drop,List.getElem?_drop,FB h (by omega)]
 exact (Tb.B6 (qT h.t hp)).2.1
end
def bu (t:Tb) (s:Pr):Rl:=if 0≤s.which∧s.which < (nR t:Int) then Ka t s.which.toNat else default
def tgt (r:Rl):Int:=if r.clear=0 then r.gD else r.clear
def cn (r:Rn):Bool:=r.aC != 1 && (r.aC != 2 && r.aC != 3)
def ew (r:Rn):Bool:=r.aC == 1
def vf (r:Rn):Bool:=r.fst == 1
def xz (least state time:Int):Bool:=state != 1 && (state != 2 || decide (time ≥ least))
def nv (l:List Rn) (s:Int):Bool:=D6 s fun p=>cn (aT l p)
def Eb (l:List Rn) (s:Int):Bool:=D6 s fun p=>ew (aT l p)
def t7 (s:Int) (f:Nat→Bool):Int:=CU fun p=>tb s p && f p
def iB (t:Tb) (l:List Rn) (p:Nat):Bool:=cn (aT l p) && decide ((aT l p).time ≥ t.revert) && nv l (dY t p)
def zO (t:Tb) (l:List Rn) (s:Int):Int:=t7 s (iB t l)
def MQ (t:Tb) (s:Pr) (least:Int) (r:Rn):Bool:=ew r && decide (r.time ≥ least) && xz (bu t s).dc r.fst r.cq
def GZ (t:Tb) (s:Pr) (l:List Rn) (but least:Int):Ac:=⟨0,t7 (bf .i64 255 but) fun p=>MQ t s least (aT l p),t7 (bf .i64 255 but) fun p=>vf (aT l p),false,false⟩
def k7 (t:Tb) (s:Pr) (l:List Rn):Ac:=GZ t s l (tgt (bu t s)) (bu t s).green
def pP (t:Tb) (s:Pr) (l:List Rn):Int:=if nv l (bf .i64 255 (tgt (bu t s))) then (if (bu t s).clear=0 then 4 else 2) else 1
def nw (t:Tb) (s:Pr):Int:=if s.time ≥ (bu t s).hold then 3 else 2
def Kk (t:Tb) (s:Pr) (l:List Rn):Ac:=⟨zO t l (bu t s).clear,0,0,false,false⟩
def lV (t:Tb) (s:Pr) (l:List Rn):Int:=if nv l (bf .i64 255 (bu t s).gD) then 4 else 3
def MR (t:Tb) (s:Pr) (r:Rn):Bool:=ew r && xz (bu t s).dc r.fst r.cq
def Ec (t:Tb) (s:Pr) (l:List Rn):Ac:={ GZ t s l (bu t s).gD 0 with fin:=t7 (bf .i64 255 (bu t s).gD) fun p=>MR t s (aT l p) }
def xA (s:Pr):Bool:=decide (s.which ≥ 0) && decide (s.which < 4) && decide (ej s s.which.toNat > 0)
def Bl (t:Tb) (s:Pr):Bool:=decide ((bu t s).most > 0) && decide (s.time ≥ (bu t s).most)
def eU (t:Tb) (s:Pr):Pr:=if Bl t s && xA s then { s with dH:=xm .i64 s.dH (IntKind.i64.wrap (2 ^ s.which.toNat)) } else s
def gZ (t:Tb) (s:Pr):Int × Pr :=
 if !Bl t s && (xA s || decide (s.time < (bu t s).stay)) then (4,s)
 else if aJ t (eU t s) ≥ 0 then (1,{ eU t s with which:=aJ t (eU t s) }) else (5,eU t s)
def Kl (t:Tb) (s:Pr) (l:List Rn):Ac:=⟨zO t l (bu t s).gD,0,0,false,false⟩
def t8 (t:Tb) (r:Rn):Bool:=ew r || cn r && decide (r.time ≥ t.revert)
def gx (t:Tb) (s:Pr) (l:List Rn):Int:=if nv l (bf .i64 255 (bu t s).exit) && D6 (bu t s).exit (fun p=>t8 t (aT l p)) then 0 else 5
def Qr (t:Tb) (p:Nat) (r:Rn):Bool:=ew r && decide (r.time ≥ (aO t p).min) && !(r.fst == 1 || r.fst == 2)
def Km (t:Tb) (s:Pr) (l:List Rn):Ac:=⟨0,t7 (bf .i64 255 (bu t s).exit) fun p=>Qr t p (aT l p),0,false,false⟩
def iL (t:Tb) (s:Pr) (l:List Rn):Ac:=⟨t7 (bu t s).exit fun p=>cn (aT l p),0,0,false,true⟩
def mI (t:Tb) (s:Pr) (l:List Rn) (turned:Bool):Int :=
 if turned || s.aq == 0 then 0
 else if (s.aq == 2 && !Eb l (bu t s).clear) || (s.aq == 4 && !Eb l (bu t s).gD) then s.time
 else ck s.time
def jG.Spec (C:bk) (f:Nat):Prop:=∀ (t:Tb) (s:Pr) (l:List Rn),ku t s l→C.c f [.ref (cj t s l)] (.agg (bu t s).cells) none
def Ip.Spec (C:bk) (f:Nat):Prop:=∀ (t:Tb) (s:Pr) (l:List Rn),ku t s l→C.c f [.ref (cj t s l)] (I (tgt (bu t s))) none
def k9.Spec (C:bk) (f:Nat):Prop:=∀ (t:Tb) (s:Pr) (l:List Rn) (x:Int) (g:Nat) (fs cs:List AV) (is:Nat→Bool),ku t s l→(∀ p:Nat,p < 8→C.c g (fs++[I p,.agg (aT l p).cells]++cs) (B (is p)) none)→C.c f [.ref (cj t s l),I x,.fn (.func g) fs cs] (I (t7 x is)) none
def FC.Spec (C:bk) (f:Nat):Prop:=∀ r:Rn,C.c f [.agg r.cells] (B (cn r)) none
def wF.Spec (C:bk) (f:Nat):Prop:=∀ (p:Int) (r:Rn),C.c f [I p,.agg r.cells] (B (cn r)) none
def rE.Spec (C:bk) (f:Nat):Prop:=∀ (p:Int) (r:Rn),C.c f [I p,.agg r.cells] (B (ew r)) none
def vg.Spec (C:bk) (f:Nat):Prop:=∀ (p:Int) (r:Rn),C.c f [I p,.agg r.cells] (B (vf r)) none
def xB.Spec (C:bk) (f:Nat):Prop:=∀ (t:Tb) (s:Pr) (l:List Rn) (x:Int),ku t s l→C.c f [.ref (cj t s l),I x] (B (nv l x)) none
def vh.Spec (C:bk) (f:Nat):Prop:=∀ (t:Tb) (s:Pr) (l:List Rn) (x:Int),ku t s l→C.c f [.ref (cj t s l),I x] (B (Eb l x)) none
def Bm.Spec (C:bk) (f:Nat):Prop:=∀ (t:Tb) (s:Pr) (l:List Rn) (a b:Int),ku t s l→C.c f [.ref (cj t s l),.agg [I a,I b]] (B (xz (bu t s).dc a b)) none
def vk.Spec (C:bk) (f:Nat):Prop:=∀ (t:Tb) (s:Pr) (l:List Rn) (p:Nat),ku t s l→p < 8→C.c f [I p,.agg (aT l p).cells,.ref [.ref (cj t s l)]] (B (iB t l p)) none
def sL.Spec (C:bk) (f:Nat):Prop:=∀ (t:Tb) (s:Pr) (l:List Rn) (x:Int),ku t s l→C.c f [.ref (cj t s l),I x] (I (zO t l x)) none
def zP.Spec (C:bk) (f:Nat):Prop:=∀ (t:Tb) (s:Pr) (l:List Rn) (p:Nat) (least:Int),ku t s l→p < 8→C.c f [I p,.agg (aT l p).cells,.ref [I least],.ref [.ref (cj t s l)]] (B (MQ t s least (aT l p))) none
def Bn.Spec (C:bk) (f:Nat):Prop:=∀ (t:Tb) (s:Pr) (l:List Rn) (but least:Int),ku t s l→C.c f [.ref (cj t s l),I but,I least] (.agg (GZ t s l but least).cells) none
def WI (F:Tb→Pr→List Rn→Int) (C:bk) (f:Nat):Prop:=∀ (t:Tb) (s:Pr) (l:List Rn),ku t s l→C.c f [.ref (cj t s l)] (I (F t s l)) none
def WA (F:Tb→Pr→List Rn→Ac) (C:bk) (f:Nat):Prop:=∀ (t:Tb) (s:Pr) (l:List Rn),ku t s l→C.c f [.ref (cj t s l)] (.agg (F t s l).cells) none
def Ed.Spec (C:bk) (f:Nat):Prop:=WI (fun _ _ _=>0) C f
def Ee.Spec (C:bk) (f:Nat):Prop:=WA (fun _ _ _=>⟨0,0,0,true,false⟩) C f
def vl.Spec (C:bk) (f:Nat):Prop:=WI pP C f
def wG.Spec (C:bk) (f:Nat):Prop:=WA k7 C f
def vm.Spec (C:bk) (f:Nat):Prop:=WI (fun t s _=>nw t s) C f
def zQ.Spec (C:bk) (f:Nat):Prop:=WA Kk C f
def oR.Spec (C:bk) (f:Nat):Prop:=WI lV C f
def Ef.Spec (C:bk) (f:Nat):Prop:=∀ (t:Tb) (s:Pr) (l:List Rn) (p:Nat),ku t s l→p < 8→C.c f [I p,.agg (aT l p).cells,.ref [.ref (cj t s l)]] (B (MR t s (aT l p))) none
def rF.Spec (C:bk) (f:Nat):Prop:=WA Ec C f
def vn.Spec (C:bk) (f:Nat):Prop:=∀ (t:Tb) (s:Pr) (l:List Rn),ku t s l→C.p f [cj t s l] [none] (I (gZ t s).1) none [cj t (gZ t s).2 l]
def zR.Spec (C:bk) (f:Nat):Prop:=WA Kl C f
def rG.Spec (C:bk) (f:Nat):Prop:=∀ (t:Tb) (s:Pr) (l:List Rn) (p:Nat),ku t s l→p < 8→C.c f [I p,.agg (aT l p).cells,.ref [.ref (cj t s l)]] (B (t8 t (aT l p))) none
def vo.Spec (C:bk) (f:Nat):Prop:=WI gx C f
def vp.Spec (C:bk) (f:Nat):Prop:=∀ (t:Tb) (s:Pr) (l:List Rn) (p:Nat),ku t s l→p < 8→C.c f [I p,.agg (aT l p).cells,.ref [.ref (cj t s l)]] (B (Qr t p (aT l p))) none
def zS.Spec (C:bk) (f:Nat):Prop:=WA Km C f
def Eg.Spec (C:bk) (f:Nat):Prop:=WA iL C f
def Eh.Spec (C:bk) (f:Nat):Prop:=∀ (t:Tb) (s:Pr) (l:List Rn) (turned:Bool),ku t s l→C.c f [.ref (cj t s l),B turned] (I (mI t s l turned)) none
section
variable {P:Program} (hm:P.follows .mixedOrders=true) {f:Nat}
include hm
theorem jG.ok {fR:Nat} (hc:aL P f=some (iy fR)) (hR:t6.Spec (Pure P) fR):jG.Spec (Pure P) f:=by
 intro t s l h
 have ht:=GW h
 have hd:=oQ h
 have hp:=GX h
 have hn:=CE t
 refine an hm hc (by show 1≤34; decide) (aj (keep:=[]) (i:=0) ?_)
 try simp only [I,B,D,RY,↓ KW,seval,iy,Z.H,ht,hd,hp,hn]
 refine af (hR t h.t) ?_
 try simp only [I,B,D,RY,↓ KW,seval,ht,hd,hp,hn]
 by_cases h0:0≤s.which∧s.which < (nR t:Int)
 ·have hx:bu t s=Ka t s.which.toNat:=if_pos h0
  have h1:decide (s.which ≥ 0)=true:=by simpa using h0.1
  have h1':decide (0≤s.which)=true:=by simpa using h0.1
  have h2:decide (s.which < (nR t:Int))=true:=by simpa using h0.2
  have hg:=GR t (k:=s.which.toNat) (by omega)
  rw [← hx] at hg
  generalize bu t s=r at *
  have hq:aD r.cells 0 (some 11)=some (.agg r.cells):=rfl
  have hz:setCells bK 0 r.cells=r.cells:=rfl
  have hzl:bK.length=11:=rfl
  try simp only [I,B,D,RY,↓ KW,seval,ht,hd,hp,hn,h1,h1',h2]
  refine ⟨⟨h0.1,h0.2⟩,?_⟩
  try simp only [I,B,D,RY,↓ KW,seval,ht,hd,hp,hn,hg,hq,hz,hzl,Rl.len]
 ·have hx:bu t s=default:=if_neg h0
  have hz:setCells bK 0 bK=bK:=rfl
  have hzl:bK.length=11:=rfl
  have hzp:aD bK 0 (some 11)=some (.agg bK):=rfl
  rw [hx]
  cases h1:decide (0≤s.which)
  ·try simp only [I,B,D,RY,↓ KW,seval,ht,hd,hp,hn,h1,hz,hzl,hzp]
   rfl
  ·have h2:decide (s.which < (nR t:Int))=false:=by have:=of_decide_eq_true h1; simp; omega
   try simp only [I,B,D,RY,↓ KW,seval,ht,hd,hp,hn,h1,h2,hz,hzl,hzp]
   rfl
theorem FC.ok (hc:aL P f=some mH):FC.Spec (Pure P) f:=by
 intro r
 refine an hm hc (by show 1≤16; decide) (aj (keep:=[]) (i:=0) ?_)
 try simp only [I,B,D,RX,↓ KW,seval,mH,Z.H,Rn.cells]
 repeat' (((first | refine aV ?_ ?_ | refine ax ?_ ?_ | refine bq ?_ ?_)<;>intro h)<;>try simp only [I,B,D,RX,↓ KW,seval,Rn.cells,h])
 all_goals (try simp only [cn])
 all_goals (cases e1:(r.aC != 1)<;>cases e2:(r.aC != 2)<;>simp_all [B])
theorem wF.ok {fR:Nat} (hc:aL P f=some (jV fR)) (hR:FC.Spec (Pure P) fR):wF.Spec (Pure P) f:=by
 intro p r
 have hq:aD r.cells 0 (some 12)=some (.agg r.cells):=rfl
 refine an hm hc (by show 2≤7; decide) (aj (keep:=[]) (i:=0) ?_)
 try simp only [I,B,D,RX,↓ KW,seval,jV,Z.H,hq]
 refine af (hR r) ?_
 try simp only [I,B,D,RX,↓ KW,seval]
theorem rE.ok (hc:aL P f=some iX):rE.Spec (Pure P) f:=by
 intro p r
 refine an hm hc (by show 2≤8; decide) (aj (keep:=[]) (i:=0) ?_)
 try simp only [I,B,D,RX,↓ KW,seval,iX,Z.H,Rn.cells]
 rfl
theorem vg.ok (hc:aL P f=some ju):vg.Spec (Pure P) f:=by
 intro p r
 refine an hm hc (by show 2≤9; decide) (aj (keep:=[]) (i:=0) ?_)
 try simp only [I,B,D,RX,↓ KW,seval,ju,Z.H,Rn.cells]
 rfl
theorem k9.ok {fE fW:Nat} (hc:aL P f=some (gM fE fW)) (hE:tW.Spec (Pure P) fE) (hW:gw.Spec (Pure P) fW):k9.Spec (Pure P) f:=by
 intro t s l x g fs cs is h hg
 have hd:=Kj h
 refine an hm hc (by show 3≤25; decide) (aj (keep:=[]) (i:=0) ?_)
 try simp only [I,B,D,RY,↓ KW,seval,gM,Z.H]
 obtain ⟨k,hk,hi⟩:=hE x
 refine af hk ?_
 try simp only [I,B,D,RY,↓ KW,seval]
 refine iJ (fun m:Int=>(⟨[(10,.dat (.fn (.func k) [] [.ref [.int .i64 x]]) none),(7,.ptr 7 0),(5,.ptr 5 0),(3,.ptr 4 0)],[(7,⟨[I m],[]⟩),(5,⟨[.fn (.func g) fs cs],[]⟩),(4,⟨[.ref (cj t s l)],[]⟩)],[],400⟩:S)) (fun i m=>m=zL is ((ei x).take i)) hi rfl (iI fun _=>rfl) (fun _=>rfl) ?_ ?_ 0 rfl ?_
 ·rintro i y m hx' hmm A back
  obtain ⟨q,hq,rfl⟩:=nX hx'
  have hq:(ei x)[i]? = some q:=hq
  have h8:=j6 (List.mem_of_getElem? hq)
  have hy:0≤(q:Int)∧(q:Int) < 8:=by omega
  have hr:=MN h h8
  have hn2:zL is ((ei x).take (i + 1))=if is q then cY (zL is ((ei x).take i)) q else zL is ((ei x).take i):=by
   rw [List.take_add_one,hq]; simp only [zL,List.foldl_append,Option.toList_some,List.foldl_cons,List.foldl_nil]
  try simp only [I,B,D,RY,↓ KW,seval,hy,hd,hr]
  refine af (hg q h8) ?_
  cases hiq:is q
  ·try simp only [I,B,D,RY,↓ KW,seval]
   refine back m _ (by rw [hn2,hiq,hmm]; rfl) ?_
   refine ai (by decide) ?_ ?_ ?_ ?_<;>simp [LX,I,B,D]
  ·try simp only [I,B,D,RY,↓ KW,seval]
   refine af (hW _ _) ?_
   try simp only [I,B,D,RY,↓ KW,seval]
   refine back (cY m q) _ (by rw [hn2,hiq,hmm]; rfl) ?_
   refine ai (by decide) ?_ ?_ ?_ ?_<;>simp [LX,I,B,D,setCells]
 ·rintro m hmm
  rw [List.take_of_length_le (by simp [ei])] at hmm
  rw [Io] at hmm
  try simp only [I,B,D,RY,↓ KW,seval]
  rw [hmm]; rfl
 ·refine ai (by decide) ?_ ?_ ?_ ?_<;>simp [LX,I,B,D,zL,setCells]
theorem xB.ok {fT fR:Nat} (hc:aL P f=some (iz fT fR)) (hT:k9.Spec (Pure P) fT) (hR:wF.Spec (Pure P) fR):xB.Spec (Pure P) f:=by
 intro t s l x h
 refine an hm hc (by show 2≤11; decide) (aj (keep:=[]) (i:=0) ?_)
 try simp only [I,B,D,RX,↓ KW,seval,iz,Z.H]
 refine aS (bC (hT t s l x fR [] [] (fun p=>cn (aT l p)) h (fun p hp=>hR p _)) rfl (by decide)) ?_
 try simp only [I,B,D,RX,↓ KW,seval]
 rw [t7,CD]; rfl
theorem vh.ok {fT fR:Nat} (hc:aL P f=some (gp fT fR)) (hT:k9.Spec (Pure P) fT) (hR:rE.Spec (Pure P) fR):vh.Spec (Pure P) f:=by
 intro t s l x h
 refine an hm hc (by show 2≤11; decide) (aj (keep:=[]) (i:=0) ?_)
 try simp only [I,B,D,RX,↓ KW,seval,gp,Z.H]
 refine aS (bC (hT t s l x fR [] [] (fun p=>ew (aT l p)) h (fun p hp=>hR p _)) rfl (by decide)) ?_
 try simp only [I,B,D,RX,↓ KW,seval]
 rw [t7,CD]; rfl
theorem Ip.ok {fR:Nat} (hc:aL P f=some (gn fR)) (hR:jG.Spec (Pure P) fR):Ip.Spec (Pure P) f:=by
 intro t s l h
 refine an hm hc (by show 1≤13; decide) (aj (keep:=[]) (i:=0) ?_)
 try simp only [I,B,D,RY,↓ KW,seval,gn,Z.H]
 have hz:∀ r:Rl,setCells bK 0 r.cells=r.cells:=fun _=>rfl
 have hzl:bK.length=11:=rfl
 have h1:∀ r:Rl,r.cells[1]? = some (I r.clear)∧r.cells[2]? = some (I r.gD):=fun _=>⟨rfl,rfl⟩
 refine aS (bC (hR t s l h) rfl (by decide)) ?_
 try simp only [I,B,D,RY,↓ KW,seval,hz,hzl,Rl.len,h1]
 cases hb:((bu t s).clear != 0)
 ·try simp only [I,B,D,RY,↓ KW,seval,hb,h1]
  have:(bu t s).clear=0:=by simpa using hb
  simp [tgt,this]
 ·try simp only [I,B,D,RY,↓ KW,seval,hb,h1]
  have:(bu t s).clear≠0:=by simpa using hb
  simp [tgt,this]
theorem Bm.ok {fR:Nat} (hc:aL P f=some (iA fR)) (hR:jG.Spec (Pure P) fR):Bm.Spec (Pure P) f:=by
 intro t s l a b h
 have h6:∀ r:Rl,r.cells[6]? = some (I r.dc):=fun _=>rfl
 refine an hm hc (by show 2≤21; decide) (aj (keep:=[]) (i:=0) ?_)
 try simp only [I,B,D,RX,↓ KW,seval,iA,Z.H]
 refine i7 [11] (by rfl) ?_
 cases h1:(a != 1)
 ·try simp only [I,B,D,RX,↓ KW,seval,h1]
  simp [xz,h1]
 ·try simp only [I,B,D,RX,↓ KW,seval,h1]
  cases h2:(a != 2)
  ·try simp only [I,B,D,RX,↓ KW,seval,h2]
   refine bX (bC (hR t s l h) rfl (by decide)) ?_
   try simp only [I,B,D,RX,↓ KW,seval,h6]
   simp [xz,h1,h2]
  ·try simp only [I,B,D,RX,↓ KW,seval,h2]
   simp [xz,h1,h2]
theorem vk.ok {fR fS:Nat} (hc:aL P f=some (eS fR fS)) (hR:FC.Spec (Pure P) fR) (hS:xB.Spec (Pure P) fS):vk.Spec (Pure P) f:=by
 intro t s l p h hp
 have hv:=GY h
 have hcn:=MO h hp
 have hy:0≤(p:Int)∧(p:Int) < 8:=by omega
 have hq:aD (aT l p).cells 0 (some 12)=some (.agg (aT l p).cells):=rfl
 have hq1:(aT l p).cells[1]? = some (I (aT l p).time):=rfl
 have hb:iB t l p=(cn (aT l p) && decide ((aT l p).time ≥ t.revert) && nv l (dY t p)):=rfl
 refine an hm hc (by show 3≤29; decide) (aj (keep:=[]) (i:=0) ?_)
 try simp only [I,B,D,RX,↓ KW,seval,eS,Z.H]
 refine i7 [21] (by rfl) ?_
 try simp only [I,B,D,RX,↓ KW,seval,hq]
 refine af (hR _) ?_
 try simp only [I,B,D,RX,↓ KW,seval,hq,hq1,hv]
 cases h1:cn (aT l p)
 ·try simp only [I,B,D,RX,↓ KW,seval,h1]
  simp [hb,h1]
 ·try simp only [I,B,D,RX,↓ KW,seval,h1,hq1,hv]
  cases h2:decide ((aT l p).time ≥ t.revert)
  ·try simp only [I,B,D,RX,↓ KW,seval,h2]
   simp [hb,h1,h2]
  ·try simp only [I,B,D,RX,↓ KW,seval,h2,hcn,hy]
   refine bX (bC (hS t s l (dY t p) h) rfl (by decide)) ?_
   try simp only [I,B,D,RX,↓ KW,seval]
   simp [hb,h1,h2]
theorem sL.ok {fB fT:Nat} (hc:aL P f=some (gq fB fT)) (hB:vk.Spec (Pure P) fB) (hT:k9.Spec (Pure P) fT):sL.Spec (Pure P) f:=by
 intro t s l x h
 refine an hm hc (by show 2≤9; decide) (aj (keep:=[]) (i:=0) ?_)
 try simp only [I,B,D,RX,↓ KW,seval,gq,Z.H]
 refine ⟨rfl,?_⟩
 refine aS (bC (hT t s l x fB [] [.ref [.ref (cj t s l)]] (iB t l) h (fun p hp=>hB t s l p h hp)) rfl (by decide)) ?_
 try simp only [I,B,D,RX,↓ KW,seval]
 rfl
theorem zP.ok {fO:Nat} (hc:aL P f=some (gu fO)) (hO:Bm.Spec (Pure P) fO):zP.Spec (Pure P) f:=by
 intro t s l p least h hp
 generalize aT l p=r
 have hq0:r.cells[0]? = some (I r.aC):=rfl
 have hq1:r.cells[1]? = some (I r.time):=rfl
 have hq2:aD r.cells 2 (some 2)=some (.agg [I r.fst,I r.cq]):=rfl
 have hb:MQ t s least r=(ew r && decide (r.time ≥ least) && xz (bu t s).dc r.fst r.cq):=rfl
 have hg:(r.aC == 1)=ew r:=rfl
 refine an hm hc (by show 4≤22; decide) (aj (keep:=[]) (i:=0) ?_)
 try simp only [I,B,D,RX,↓ KW,seval,gu,Z.H,hq0,hq1,hq2]
 rw [hg]
 cases h1:ew r
 ·try simp only [I,B,D,RX,↓ KW,seval,h1]
  simp [hb,h1]
 ·try simp only [I,B,D,RX,↓ KW,seval,h1,hq1]
  cases h2:decide (r.time ≥ least)
  ·try simp only [I,B,D,RX,↓ KW,seval,h2]
   simp [hb,h1,h2]
  ·try simp only [I,B,D,RX,↓ KW,seval,h2,hq2]
   refine aS (bC (hO t s l r.fst r.cq h) rfl (by decide)) ?_
   try simp only [I,B,D,RX,↓ KW,seval]
   simp [hb,h1,h2]
theorem Ef.ok {fO:Nat} (hc:aL P f=some (eI fO)) (hO:Bm.Spec (Pure P) fO):Ef.Spec (Pure P) f:=by
 intro t s l p h hp
 generalize aT l p=r
 have hq0:r.cells[0]? = some (I r.aC):=rfl
 have hq2:aD r.cells 2 (some 2)=some (.agg [I r.fst,I r.cq]):=rfl
 have hb:MR t s r=(ew r && xz (bu t s).dc r.fst r.cq):=rfl
 have hg:(r.aC == 1)=ew r:=rfl
 refine an hm hc (by show 3≤15; decide) (aj (keep:=[]) (i:=0) ?_)
 try simp only [I,B,D,RX,↓ KW,seval,eI,Z.H,hq0,hq2]
 rw [hg]
 cases h1:ew r
 ·try simp only [I,B,D,RX,↓ KW,seval,h1]
  simp [hb,h1]
 ·try simp only [I,B,D,RX,↓ KW,seval,h1,hq2]
  refine aS (bC (hO t s l r.fst r.cq h) rfl (by decide)) ?_
  try simp only [I,B,D,RX,↓ KW,seval]
  simp [hb,h1]
theorem rG.ok {fR:Nat} (hc:aL P f=some (eP fR)) (hR:FC.Spec (Pure P) fR):rG.Spec (Pure P) f:=by
 intro t s l p h hp
 have hv:=GY h
 generalize aT l p=r
 have hq:aD r.cells 0 (some 12)=some (.agg r.cells):=rfl
 have hq0:r.cells[0]? = some (I r.aC):=rfl
 have hq1:r.cells[1]? = some (I r.time):=rfl
 have hb:t8 t r=(ew r || cn r && decide (r.time ≥ t.revert)):=rfl
 have hg:(r.aC == 1)=ew r:=rfl
 refine an hm hc (by show 3≤23; decide) (aj (keep:=[]) (i:=0) ?_)
 try simp only [I,B,D,RX,↓ KW,seval,eP,Z.H,hq0,hq1]
 rw [hg]
 cases h1:ew r
 ·try simp only [I,B,D,RX,↓ KW,seval,h1,hq]
  refine af (hR r) ?_
  try simp only [I,B,D,RX,↓ KW,seval]
  cases h2:cn r
  ·try simp only [I,B,D,RX,↓ KW,seval,h2]
   simp [hb,h1,h2]
  ·try simp only [I,B,D,RX,↓ KW,seval,h2,hq1,hv]
   simp [hb,h1,h2]
 ·try simp only [I,B,D,RX,↓ KW,seval,h1]
  simp [hb,h1]
theorem vp.ok (hc:aL P f=some fq):vp.Spec (Pure P) f:=by
 intro t s l p h hp
 have hmn:=MP h hp
 have hy:0≤(p:Int)∧(p:Int) < 8:=by omega
 generalize aT l p=r
 have hq0:r.cells[0]? = some (I r.aC):=rfl
 have hq1:r.cells[1]? = some (I r.time):=rfl
 have hq2:r.cells[2]? = some (I r.fst):=rfl
 have hb:Qr t p r=(ew r && decide (r.time ≥ (aO t p).min) && !(r.fst == 1 || r.fst == 2)):=rfl
 have hg:(r.aC == 1)=ew r:=rfl
 refine an hm hc (by show 3≤37; decide) (aj (keep:=[]) (i:=0) ?_)
 try simp only [I,B,D,RX,↓ KW,seval,fq,Z.H,hq0,hq1,hq2,hmn,hy,hg]
 cases h3:(r.fst == 1)<;>cases h4:(r.fst == 2)<;>cases h1:ew r<;>cases h2:decide (r.time ≥ (aO t p).min) <;>
 (try simp only [I,B,D,RX,↓ KW,seval,h1,h2,h3,h4,hq0,hq1,hq2,hmn,hy,hg]; (try (try simp only [I,B,D,RX,↓ KW,seval,h1,h2,h3,h4,hq0,hq1,hq2,hmn,hy,hg])); simp [hb,h1,h2,h3,h4])
theorem Bn.ok {f1 fT fW:Nat} (hc:aL P f=some (iw f1 fT fW)) (h1:zP.Spec (Pure P) f1) (hT:k9.Spec (Pure P) fT) (hW:vg.Spec (Pure P) fW):Bn.Spec (Pure P) f:=by
 intro t s l but least h
 refine an hm hc (by show 3≤17; decide) (aj (keep:=[]) (i:=0) ?_)
 try simp only [I,B,D,RX,↓ KW,seval,iw,Z.H]
 refine Fi [5,4] [4,8] rfl rfl rfl ?_
 try simp only [I,B,D,RX,↓ KW,seval]
 refine ⟨rfl,?_⟩
 refine bX (bC (hT t s l _ f1 [] [.ref [I least],.ref [.ref (cj t s l)]] (fun p=>MQ t s least (aT l p)) h (fun p hp=>h1 t s l p least h hp)) rfl (by decide)) ?_
 try simp only [I,B,D,RX,↓ KW,seval]
 refine bX (bC (hT t s l _ fW [] [] (fun p=>vf (aT l p)) h (fun p hp=>hW p _)) rfl (by decide)) ?_
 try simp only [I,B,D,RX,↓ KW,seval]
 rfl
theorem Ed.ok (hc:aL P f=some ir):Ed.Spec (Pure P) f:=by
 intro t s l h
 refine an hm hc (by show 1≤3; decide) (aj (keep:=[]) (i:=0) ?_)
 try simp only [I,B,D,RX,↓ KW,seval,ir,Z.H]
theorem Ee.ok (hc:aL P f=some iu):Ee.Spec (Pure P) f:=by
 intro t s l h
 refine an hm hc (by show 1≤4; decide) (aj (keep:=[]) (i:=0) ?_)
 try simp only [I,B,D,RX,↓ KW,seval,iu,Z.H]
 rfl
theorem wG.ok {fT fR fE:Nat} (hc:aL P f=some (gI fT fR fE)) (hT:Ip.Spec (Pure P) fT) (hR:jG.Spec (Pure P) fR) (hE:Bn.Spec (Pure P) fE):wG.Spec (Pure P) f:=by
 intro t s l h
 have h5:∀ r:Rl,r.cells[5]? = some (I r.green):=fun _=>rfl
 refine an hm hc (by show 1≤10; decide) (aj (keep:=[]) (i:=0) ?_)
 try simp only [I,B,D,RX,↓ KW,seval,gI,Z.H]
 refine aS (bC (hT t s l h) rfl (by decide)) ?_
 try simp only [I,B,D,RX,↓ KW,seval]
 refine aS (bC (hR t s l h) rfl (by decide)) ?_
 try simp only [I,B,D,RX,↓ KW,seval,h5]
 refine aS (bC (hE t s l _ _ h) rfl (by decide)) ?_
 try simp only [I,B,D,RX,↓ KW,seval]
 exact ⟨rfl,rfl⟩
theorem vl.ok {fT fS fR:Nat} (hc:aL P f=some (gj fT fS fR)) (hT:Ip.Spec (Pure P) fT) (hS:xB.Spec (Pure P) fS) (hR:jG.Spec (Pure P) fR):vl.Spec (Pure P) f:=by
 intro t s l h
 have h5:∀ r:Rl,r.cells[1]? = some (I r.clear):=fun _=>rfl
 refine an hm hc (by show 1≤15; decide) (aj (keep:=[]) (i:=0) ?_)
 try simp only [I,B,D,RX,↓ KW,seval,gj,Z.H]
 refine aS (bC (hT t s l h) rfl (by decide)) ?_
 try simp only [I,B,D,RX,↓ KW,seval]
 refine aS (bC (hS t s l _ h) rfl (by decide)) ?_
 try simp only [I,B,D,RX,↓ KW,seval]
 cases h1:nv l (bf .i64 255 (tgt (bu t s)))
 ·try simp only [I,B,D,RX,↓ KW,seval]
  simp [pP,h1]
 ·try simp only [I,B,D,RX,↓ KW,seval]
  refine aS (bC (hR t s l h) rfl (by decide)) ?_
  try simp only [I,B,D,RX,↓ KW,seval,h5]
  cases h2:((bu t s).clear != 0)
  ·try simp only [I,B,D,RX,↓ KW,seval,h2]
   have:(bu t s).clear=0:=by simpa using h2
   simp [pP,h1,this]
  ·try simp only [I,B,D,RX,↓ KW,seval,h2]
   have:(bu t s).clear≠0:=by simpa using h2
   simp [pP,h1,this]
theorem vm.ok {fR:Nat} (hc:aL P f=some (gk fR)) (hR:jG.Spec (Pure P) fR):vm.Spec (Pure P) f:=by
 intro t s l h
 have hd:=oQ h
 have hp:=GX h
 have h5:∀ r:Rl,r.cells[7]? = some (I r.hold):=fun _=>rfl
 refine an hm hc (by show 1≤12; decide) (aj (keep:=[]) (i:=0) ?_)
 try simp only [I,B,D,RX,↓ KW,seval,gk,Z.H,hd,hp]
 refine i7 [6] rfl ?_
 try simp only [I,B,D,RX,↓ KW,seval,hd,hp]
 refine bX (bC (hR t s l h) rfl (by decide)) ?_
 try simp only [I,B,D,RX,↓ KW,seval,h5]
 cases h2:decide (s.time ≥ (bu t s).hold)
 ·try simp only [I,B,D,RX,↓ KW,seval,h2]
  have:=of_decide_eq_false h2
  show I 2=I (nw t s); rw [nw,if_neg this]
 ·try simp only [I,B,D,RX,↓ KW,seval,h2]
  have:=of_decide_eq_true h2
  show I 3=I (nw t s); rw [nw,if_pos this]
theorem zQ.ok {fR fB:Nat} (hc:aL P f=some (gJ fR fB)) (hR:jG.Spec (Pure P) fR) (hB:sL.Spec (Pure P) fB):zQ.Spec (Pure P) f:=by
 intro t s l h
 have h5:∀ r:Rl,r.cells[1]? = some (I r.clear):=fun _=>rfl
 refine an hm hc (by show 1≤9; decide) (aj (keep:=[]) (i:=0) ?_)
 try simp only [I,B,D,RX,↓ KW,seval,gJ,Z.H]
 refine aS (bC (hR t s l h) rfl (by decide)) ?_
 try simp only [I,B,D,RX,↓ KW,seval,h5]
 refine aS (bC (hB t s l _ h) rfl (by decide)) ?_
 try simp only [I,B,D,RX,↓ KW,seval]
 rfl
theorem zR.ok {fR fB:Nat} (hc:aL P f=some (gK fR fB)) (hR:jG.Spec (Pure P) fR) (hB:sL.Spec (Pure P) fB):zR.Spec (Pure P) f:=by
 intro t s l h
 have h5:∀ r:Rl,r.cells[2]? = some (I r.gD):=fun _=>rfl
 refine an hm hc (by show 1≤9; decide) (aj (keep:=[]) (i:=0) ?_)
 try simp only [I,B,D,RX,↓ KW,seval,gK,Z.H]
 refine aS (bC (hR t s l h) rfl (by decide)) ?_
 try simp only [I,B,D,RX,↓ KW,seval,h5]
 refine aS (bC (hB t s l _ h) rfl (by decide)) ?_
 try simp only [I,B,D,RX,↓ KW,seval]
 rfl
theorem oR.ok {fR fS:Nat} (hc:aL P f=some (eO fR fS)) (hR:jG.Spec (Pure P) fR) (hS:xB.Spec (Pure P) fS):oR.Spec (Pure P) f:=by
 intro t s l h
 have h5:∀ r:Rl,r.cells[2]? = some (I r.gD):=fun _=>rfl
 refine an hm hc (by show 1≤9; decide) (aj (keep:=[]) (i:=0) ?_)
 try simp only [I,B,D,RX,↓ KW,seval,eO,Z.H]
 refine aS (bC (hR t s l h) rfl (by decide)) ?_
 try simp only [I,B,D,RX,↓ KW,seval,h5]
 refine aS (bC (hS t s l _ h) rfl (by decide)) ?_
 try simp only [I,B,D,RX,↓ KW,seval]
 cases h1:nv l (bf .i64 255 (bu t s).gD)
 ·try simp only [I,B,D,RX,↓ KW,seval]
  simp [lV,h1]
 ·try simp only [I,B,D,RX,↓ KW,seval]
  simp [lV,h1]
theorem rF.ok {fR fE f1 fT:Nat} (hc:aL P f=some (fm fR fE f1 fT)) (hR:jG.Spec (Pure P) fR) (hE:Bn.Spec (Pure P) fE) (h1:Ef.Spec (Pure P) f1) (hT:k9.Spec (Pure P) fT):rF.Spec (Pure P) f:=by
 intro t s l h
 have h5:∀ r:Rl,r.cells[2]? = some (I r.gD):=fun _=>rfl
 refine an hm hc (by show 1≤18; decide) (aj (keep:=[]) (i:=0) ?_)
 try simp only [I,B,D,RX,↓ KW,seval,fm,Z.H]
 refine i7 [2,4] rfl ?_
 try simp only [I,B,D,RX,↓ KW,seval]
 refine bX (bC (hR t s l h) rfl (by decide)) ?_
 try simp only [I,B,D,RX,↓ KW,seval,h5]
 refine bX (bC (hE t s l _ _ h) rfl (by decide)) ?_
 try simp only [I,B,D,RX,↓ KW,seval,GZ,Ac.cells]
 refine Fi [4] [2,6] rfl rfl rfl ?_
 try simp only [I,B,D,RX,↓ KW,seval]
 refine bX (bC (hR t s l h) rfl (by decide)) ?_
 try simp only [I,B,D,RX,↓ KW,seval,h5]
 refine ⟨rfl,?_⟩
 refine bX (bC (hT t s l _ f1 [] [.ref [.ref (cj t s l)]] (fun p=>MR t s (aT l p)) h (fun p hp=>h1 t s l p h hp)) rfl (by decide)) ?_
 try simp only [I,B,D,RX,↓ KW,seval]
 rfl
theorem vo.ok {fR f1 fT fS:Nat} (hc:aL P f=some (gm fR f1 fT fS)) (hR:jG.Spec (Pure P) fR) (h1:rG.Spec (Pure P) f1) (hT:k9.Spec (Pure P) fT) (hS:xB.Spec (Pure P) fS):vo.Spec (Pure P) f:=by
 intro t s l h
 have h5:∀ r:Rl,r.cells[3]? = some (I r.exit):=fun _=>rfl
 refine an hm hc (by show 1≤22; decide) (aj (keep:=[]) (i:=0) ?_)
 try simp only [I,B,D,RX,↓ KW,seval,gm,Z.H]
 refine aS (bC (hR t s l h) rfl (by decide)) ?_
 try simp only [I,B,D,RX,↓ KW,seval,h5]
 refine ⟨rfl,?_⟩
 refine aS (bC (hT t s l _ f1 [] [.ref [.ref (cj t s l)]] (fun p=>t8 t (aT l p)) h (fun p hp=>h1 t s l p h hp)) rfl (by decide)) ?_
 try simp only [I,B,D,RX,↓ KW,seval]
 refine aS (bC (hS t s l _ h) rfl (by decide)) ?_
 try simp only [I,B,D,RX,↓ KW,seval]
 have hk:(t7 (bu t s).exit (fun p=>t8 t (aT l p)) == dB .i64 (bu t s).exit 255)=D6 (bu t s).exit (fun p=>t8 t (aT l p)):=by rw [t7,CD]
 cases h2:nv l (bf .i64 255 (bu t s).exit)
 ·try simp only [I,B,D,RX,↓ KW,seval]
  simp [gx,h2]
 ·try simp only [I,B,D,RX,↓ KW,seval,hk]
  cases h3:D6 (bu t s).exit (fun p=>t8 t (aT l p))
  ·try simp only [I,B,D,RX,↓ KW,seval]
   simp [gx,h2,h3]
  ·try simp only [I,B,D,RX,↓ KW,seval]
   simp [gx,h2,h3]
theorem zS.ok {fR f1 fT:Nat} (hc:aL P f=some (gL fR f1 fT)) (hR:jG.Spec (Pure P) fR) (h1:vp.Spec (Pure P) f1) (hT:k9.Spec (Pure P) fT):zS.Spec (Pure P) f:=by
 intro t s l h
 have h5:∀ r:Rl,r.cells[3]? = some (I r.exit):=fun _=>rfl
 refine an hm hc (by show 1≤11; decide) (aj (keep:=[]) (i:=0) ?_)
 try simp only [I,B,D,RX,↓ KW,seval,gL,Z.H]
 refine Fi [4] [2,6] rfl rfl rfl ?_
 try simp only [I,B,D,RX,↓ KW,seval]
 refine bX (bC (hR t s l h) rfl (by decide)) ?_
 try simp only [I,B,D,RX,↓ KW,seval,h5]
 refine ⟨rfl,?_⟩
 refine bX (bC (hT t s l _ f1 [] [.ref [.ref (cj t s l)]] (fun p=>Qr t p (aT l p)) h (fun p hp=>h1 t s l p h hp)) rfl (by decide)) ?_
 try simp only [I,B,D,RX,↓ KW,seval]
 rfl
theorem Eg.ok {fR fT fD:Nat} (hc:aL P f=some (ij fR fT fD)) (hR:jG.Spec (Pure P) fR) (hT:k9.Spec (Pure P) fT) (hD:wF.Spec (Pure P) fD):Eg.Spec (Pure P) f:=by
 intro t s l h
 have h5:∀ r:Rl,r.cells[3]? = some (I r.exit):=fun _=>rfl
 refine an hm hc (by show 1≤9; decide) (aj (keep:=[]) (i:=0) ?_)
 try simp only [I,B,D,RX,↓ KW,seval,ij,Z.H]
 refine aS (bC (hR t s l h) rfl (by decide)) ?_
 try simp only [I,B,D,RX,↓ KW,seval,h5]
 refine aS (bC (hT t s l _ fD [] [] (fun p=>cn (aT l p)) h (fun p hp=>hD p _)) rfl (by decide)) ?_
 try simp only [I,B,D,RX,↓ KW,seval]
 rfl
theorem Eh.ok {fR fG fM:Nat} (hc:aL P f=some (iq fR fG fM)) (hR:jG.Spec (Pure P) fR) (hG:vh.Spec (Pure P) fG) (hM:D8.Spec (Pure P) fM):Eh.Spec (Pure P) f:=by
 intro t s l turned h
 have hd:=oQ h
 have hp:=GX h
 have h5:∀ r:Rl,r.cells[1]? = some (I r.clear)∧r.cells[2]? = some (I r.gD):=fun _=>⟨rfl,rfl⟩
 refine an hm hc (by show 2≤53; decide) (aj (keep:=[]) (i:=0) ?_)
 try simp only [I,B,D,RX,↓ KW,seval,iq,Z.H,hd,hp,h5]
 cases h1:turned
 ·try simp only [I,B,D,RX,↓ KW,seval,hd,hp,h5]
  cases h2:(s.aq == 0)
  ·try simp only [I,B,D,RX,↓ KW,seval,hd,hp,h5,h2]
   cases h3:(s.aq == 2)
   ·try simp only [I,B,D,RX,↓ KW,seval,hd,hp,h5,h3]
    cases h4:(s.aq == 4)
    ·try simp only [I,B,D,RX,↓ KW,seval,hd,hp,h5,h4]
     refine af (hM _) ?_
     try simp only [I,B,D,RX,↓ KW,seval,hd,hp,h5]
     simp [mI,h2,h3,h4]
    ·try simp only [I,B,D,RX,↓ KW,seval,hd,hp,h5,h4]
     refine aS (bC (hR t s l h) rfl (by decide)) ?_
     try simp only [I,B,D,RX,↓ KW,seval,hd,hp,h5]
     refine aS (bC (hG t s l _ h) rfl (by decide)) ?_
     try simp only [I,B,D,RX,↓ KW,seval,hd,hp,h5]
     cases h6:Eb l (bu t s).gD
     ·try simp only [I,B,D,RX,↓ KW,seval,hd,hp,h5]
      simp [mI,h2,h3,h4,h6]
     ·try simp only [I,B,D,RX,↓ KW,seval,hd,hp,h5]
      refine af (hM _) ?_
      try simp only [I,B,D,RX,↓ KW,seval,hd,hp,h5]
      simp [mI,h2,h3,h4,h6]
   ·try simp only [I,B,D,RX,↓ KW,seval,hd,hp,h5,h3]
    have h4:(s.aq == 4)=false:=by
     have:s.aq=2:=by simpa using h3
     rw [this]; rfl
    refine aS (bC (hR t s l h) rfl (by decide)) ?_
    try simp only [I,B,D,RX,↓ KW,seval,hd,hp,h5]
    refine aS (bC (hG t s l _ h) rfl (by decide)) ?_
    try simp only [I,B,D,RX,↓ KW,seval,hd,hp,h5]
    cases h6:Eb l (bu t s).clear
    ·try simp only [I,B,D,RX,↓ KW,seval,hd,hp,h5,h4]
     simp [mI,h2,h3,h4,h6]
    ·try simp only [I,B,D,RX,↓ KW,seval,hd,hp,h5,h4]
     refine af (hM _) ?_
     try simp only [I,B,D,RX,↓ KW,seval,hd,hp,h5]
     simp [mI,h2,h3,h4,h6]
  ·try simp only [I,B,D,RX,↓ KW,seval,hd,hp,h5,h2]
   simp [mI,h2]
 ·try simp only [I,B,D,RX,↓ KW,seval,hd,hp,h5]
  simp [mI]
end
end Go.Eng
namespace Go.Eng
open Go
def AM (s:Pr):Pr:=if s.aq < 0∨6≤s.aq then { s with aq:=0 } else s
def MS (t:Tb) (s:Pr) (lines:Int):Pr:=AM (jv t s lines)
def eV (t:Tb) (s:Pr):Bool:=decide (aJ t s ≥ 0) && (s.aq == 0 || (s.aq == 5 || decide (aJ t s < s.which)))
def aA (t:Tb) (s:Pr) (l:List Rn):Int × Pr :=
 if s.aq=0 then (0,s) else if s.aq=1 then (pP t s l,s) else if s.aq=2 then (nw t s,s)
 else if s.aq=3 then (lV t s l,s) else if s.aq=4 then gZ t s else (gx t s l,s)
def mJ (t:Tb) (s:Pr) (l:List Rn) (to:Int):Ac :=
 if to=0 then ⟨0,0,0,true,false⟩ else if to=1 then k7 t s l else if to=2 then Kk t s l
 else if to=3 then Ec t s l else if to=4 then Kl t s l else Km t s l
def eZ (t:Tb) (s:Pr) (l:List Rn) (to:Int) (was:Int):Pr:={ s with aq:=to,time:=mI t { s with aq:=to } l (to != was) }
def ja (t:Tb) (s:Pr) (l:List Rn):Pr × Ac :=
 if eV t s then ({ s with aq:=1,which:=aJ t s,time:=0 },k7 t { s with aq:=1,which:=aJ t s,time:=0 } l)
 else if s.aq=5∧(aA t s l).1=0 then ({ (aA t s l).2 with aq:=0,which:=0,time:=0 },iL t (aA t s l).2 l)
 else (eZ t (aA t s l).2 l (aA t s l).1 s.aq,mJ t (eZ t (aA t s l).2 l (aA t s l).1 s.aq) l (aA t s l).1)
def jb (t:Tb) (s:Pr) (lines:Int) (l:List Rn):Pr × Ac:=ja t (MS t s lines) l
def Ei.Spec (C:bk) (f:Nat):Prop:=∀ (t:Tb) (s:Pr) (lines:Int) (l:List Rn),ku t s l→C.c f [.agg t.cells,.agg s.cells,I lines,.agg (bZ l)] (.cI [.agg (jb t s lines l).1.cells,.agg (jb t s lines l).2.cells]) none
def vq.Spec (C:bk) (f:Nat):Prop:=∃ n:List AV,n.length=12∧lF (.agg n)=false∧C.c f [] (.agg n) none ∧
 (∀ k:Nat,k < 6→∃ g,n[k * 2]? = some (.fn (.func g) [] [])∧∀ t s l,ku t s l→s.aq=k→C.p g [cj t s l] [none] (I (aA t s l).1) none [cj t (aA t s l).2 l]) ∧
 (∀ k:Nat,k < 6→∃ g,n[k * 2 + 1]? = some (.fn (.func g) [] [])∧∀ t s l,ku t s l→C.c g [.ref (cj t s l)] (.agg (mJ t s l k).cells) none)
theorem Bo {t:Tb} {s:Pr} (h:s.held.length=4):(eU t s).held.length=4:=by unfold eU; split<;>exact h
theorem FD {t:Tb} {s:Pr} (h:s.held.length=4):(gZ t s).2.held.length=4:=by
 unfold gZ; split
 ·exact h
 ·split<;>exact Bo h
theorem mK {t:Tb} {s:Pr} {l:List Rn} (h:s.held.length=4):(aA t s l).2.held.length=4:=by
 unfold aA
 repeat' split
 all_goals first | exact h | exact FD h
theorem jW (t:Tb) (s:Pr) (l:List Rn):0≤(aA t s l).1∧(aA t s l).1 < 6:=by
 simp only [aA,pP,nw,lV,gZ,gx]
 repeat' split
 all_goals (simp only []; omega)
section
variable {t:Tb} {s:Pr} {l:List Rn} (h:ku t s l)
include h
theorem Ko:(cj t s l)[131]? = some (I s.aq)∧(cj t s l)[132]? = some (I s.which)∧(cj t s l)[133]? = some (I s.time)∧(cj t s l)[138]? = some (I s.dH)∧aD (cj t s l) 131 (some 8)=some (.agg s.cells):=by
 have e:∀ j,(cj t s l)[131 + j]? = (wE s l)[j]?:=fun j=>by
  rw [← oQ h,List.getElem?_drop]
 obtain ⟨p0,p1,p2,p7⟩:=GX h
 rw [List.getElem?_drop] at p1 p2 p7
 refine ⟨(e 0).trans p0,(e 1).trans p1,(e 2).trans p2,(e 7).trans p7,?_⟩
 exact fQ (Tb.len h.t) (Pr.len h.s)
theorem PR {k:Nat} (hk:k < 4):(cj t s l)[134 + k]? = some (I (ej s k)):=by
 have:=Tg h hk
 rw [← oQ h,List.drop_drop,List.drop_drop,List.getElem?_drop,show 131 + (3 + k) + 0=134 + k by omega] at this
 exact this
theorem xY {j:Nat} {ps:List AV} (hj:j + ps.length≤8):setCells (cj t s l) (131 + j) ps=t.cells++(setCells s.cells j ps++bZ l):=by
 have e1:=Tb.len h.t
 have e2:=Pr.len h.s
 rw [cj,bH (by omega),e1,Nat.add_sub_cancel_left,wE,zi (by omega)]
theorem PS (x:Int):setCells (cj t s l) 131 [I x]=cj t { s with aq:=x } l:=xY h (j:=0) (ps:=[I x]) (by simp)
theorem Kq (x:Int):setCells (cj t s l) 132 [I x]=cj t { s with which:=x } l:=xY h (j:=1) (ps:=[I x]) (by simp)
theorem PT (x:Int):setCells (cj t s l) 133 [I x]=cj t { s with time:=x } l:=xY h (j:=2) (ps:=[I x]) (by simp)
theorem PU (x:Int):setCells (cj t s l) 138 [I x]=cj t { s with dH:=x } l:=by
 rw [show (138:Nat)=131 + 7 from rfl,xY h (by simp)]
 have e:setCells s.cells 7 [I x]=({ s with dH:=x }:Pr).cells:=by rw [Pr.cells,Pr.cells,iY h.s]; rfl
 rw [e]; rfl
theorem dh {u:Pr} (hu:u.held.length=4):ku t u l:=⟨h.t,hu,h.l⟩
end
theorem Kr {t:Tb} {s:Pr} {l:List Rn} (h:ku t s l) {z:List AV} (hz:z.length=235) :
  List.take 139 (List.take 131 (t.cells++List.drop 131 z)++s.cells++List.drop 139 (t.cells++List.drop 131 z))++bZ l++List.drop 235 (List.take 131 (t.cells++List.drop 131 z)++s.cells++List.drop 139 (t.cells++List.drop 131 z))=cj t s l:=by
 have e1:=Tb.len h.t
 have e2:=Pr.len h.s
 have e3:=cB h.l
 have a1:List.take 131 (t.cells++List.drop 131 z)=t.cells:=by rw [List.take_left' e1]
 have a2:List.take 139 (t.cells++s.cells++List.drop 139 (t.cells++List.drop 131 z))=t.cells++s.cells:=by rw [List.take_left' (by simp; omega)]
 rw [a1,a2,List.drop_of_length_le (by simp; omega),List.append_nil,List.append_assoc]; rfl
section
variable {P:Program} (hm:P.follows .mixedOrders=true) {f:Nat}
include hm
theorem vq.ok {a0 b0 a1 b1 a2 b2 a3 b3 a4 b4 a5 b5:Nat} (hc:aL P f=some (jt a0 b0 a1 b1 a2 b2 a3 b3 a4 b4 a5 b5))
  (h0:Ed.Spec (Pure P) a0) (k0:Ee.Spec (Pure P) b0) (h1:vl.Spec (Pure P) a1) (k1:wG.Spec (Pure P) b1) (h2:vm.Spec (Pure P) a2) (k2:zQ.Spec (Pure P) b2)
  (h3:oR.Spec (Pure P) a3) (k3:rF.Spec (Pure P) b3) (h4:vn.Spec (Pure P) a4) (k4:zR.Spec (Pure P) b4) (h5:vo.Spec (Pure P) a5) (k5:zS.Spec (Pure P) b5):vq.Spec (Pure P) f:=by
 refine ⟨[a0,b0,a1,b1,a2,b2,a3,b3,a4,b4,a5,b5].map fun k=>.fn (.func k) [] [],rfl,rfl,?_,?_,?_⟩
 ·refine an hm hc (by show 0≤8; decide) (aj (keep:=[]) (i:=0) ?_)
  try simp only [I,B,D,RX,↓ KW,seval,jt,Z.H]
  exact ⟨rfl,by decide,rfl⟩
 ·intro k hk
  have e:k=0∨k=1∨k=2∨k=3∨k=4∨k=5:=by omega
  have cv:∀ {g:Nat} {F:Tb→Pr→List Rn→Int} {t s l},WI F (Pure P) g→ku t s l→(aA t s l)=(F t s l,s)→(Pure P).p g [cj t s l] [none] (I (aA t s l).1) none [cj t (aA t s l).2 l]:=fun {g F t s l} hg h he=>by
   rw [he]; exact bC (args:=[none]) (hg t s l h) rfl (by simp)
  rcases e with rfl|rfl|rfl|rfl|rfl|rfl
  ·exact ⟨a0,rfl,fun t s l h hs=>cv h0 h (by simp [aA,hs])⟩
  ·exact ⟨a1,rfl,fun t s l h hs=>cv h1 h (by simp [aA,hs])⟩
  ·exact ⟨a2,rfl,fun t s l h hs=>cv h2 h (by simp [aA,hs])⟩
  ·exact ⟨a3,rfl,fun t s l h hs=>cv h3 h (by simp [aA,hs])⟩
  ·refine ⟨a4,rfl,fun t s l h hs=>?_⟩
   have:aA t s l=gZ t s:=by simp [aA,hs]
   rw [this]; exact h4 t s l h
  ·exact ⟨a5,rfl,fun t s l h hs=>cv h5 h (by simp [aA,hs])⟩
 ·intro k hk
  have e:k=0∨k=1∨k=2∨k=3∨k=4∨k=5:=by omega
  rcases e with rfl|rfl|rfl|rfl|rfl|rfl
  ·exact ⟨b0,rfl,k0⟩
  ·exact ⟨b1,rfl,k1⟩
  ·exact ⟨b2,rfl,k2⟩
  ·exact ⟨b3,rfl,k3⟩
  ·exact ⟨b4,rfl,k4⟩
  ·exact ⟨b5,rfl,k5⟩
theorem vn.ok {fR fY:Nat} (hc:aL P f=some (gl fR fY)) (hR:jG.Spec (Pure P) fR) (hY:wD.Spec (Pure P) fY):vn.Spec (Pure P) f:=by
  intro t s l h
  have hq:=Ko h
  have hlen:=CF h
  have ht:=GW h
  have hz:∀ r:Rl,setCells bK 0 r.cells=r.cells:=fun _=>rfl
  have hzl:bK.length=11:=rfl
  have hr9:∀ r:Rl,r.cells[9]? = some (I r.most)∧r.cells[8]? = some (I r.stay):=fun _=>⟨rfl,rfl⟩
  refine Dk hm hc (by show 1≤100; decide) rfl (by simp) (aj (keep:=[]) (i:=0) ?_)
  try simp only [I,B,D,RY,↓ KW,seval,gl,Z.H,hq,hlen,ht,hz,hzl,hr9,Rl.len]
  refine i7 [1] rfl ?_
  try simp only [I,B,D,RY,↓ KW,seval,hq,hlen,ht,hz,hzl,hr9,Rl.len]
  refine ⟨rfl,bX (bC (hR t s l h) rfl (Nat.le_of_ble_eq_true rfl)) ?_⟩
  try simp only [I,B,D,RY,↓ KW,seval,hq,hlen,ht,hz,hzl,hr9,Rl.len]
  have hz8:∀ u:Pr,u.held.length=4→aD (cj t u l) 131 (some 8)=some (.agg u.cells)∧aD (cj t u l) 0 (some 131)=some (.agg t.cells)∧(cj t u l).length=235:=fun u hu=>⟨(Ko (dh h hu)).2.2.2.2,GW (dh h hu),CF (dh h hu)⟩
  have hsp:=Bo (t:=t) h.s
  have hY1:=hY t (eU t s) h.t hsp
  obtain ⟨z1,z2,z3⟩:=hz8 _ hsp
  have z4:=Kq (dh h hsp)
  have fin:∀ {v:Bool},xA s=v→(!Bl t s && (v || decide (s.time < (bu t s).stay)))=true→gZ t s=(4,s):=fun {v} e1 e2=>by
    rw [gZ,e1,if_pos e2]
  have fin2:∀ {v:Bool},xA s=v→(!Bl t s && (v || decide (s.time < (bu t s).stay)))=false→gZ t s=if aJ t (eU t s) ≥ 0 then (1,{ eU t s with which:=aJ t (eU t s) }) else (5,eU t s):=fun {v} e1 e2=>by
    rw [gZ,e1,if_neg (by rw [e2]; decide)]
  have hl:Bl t s=(decide ((bu t s).most > 0) && decide (s.time ≥ (bu t s).most)):=rfl
  have tail1:∀ {v:Bool},xA s=v→Bl t s=false∨v=false→eU t s=s:=fun {v} e1 e2=>by
    rw [eU,e1]; rcases e2 with e | e<;>rw [e]<;>simp
  have pw:0≤s.which∧s.which < 4→min s.which.toNat IntKind.i64.bits=s.which.toNat∧(decide (s.which < 0)=false):=fun hx=>by
    have:IntKind.i64.bits=64:=rfl
    exact ⟨by omega,by simp; omega⟩
  have hx4:xA s=true→0≤s.which∧s.which < 4:=fun e=>by
    simp only [xA,Bool.and_eq_true,decide_eq_true_eq] at e; exact ⟨e.1.1,e.1.2⟩
  obtain ⟨v,hv⟩:∃ v,xA s=v:=⟨_,rfl⟩
  have h4:v=(decide (s.which ≥ 0) && decide (s.which < 4) && decide (ej s s.which.toNat > 0)):=by rw [← hv]; rfl
  cases hA1:decide (s.which ≥ 0)
  rotate_left
  cases hA2:decide (s.which < 4)
  rotate_left
  have hx:0≤s.which∧s.which < 4:=⟨of_decide_eq_true hA1,of_decide_eq_true hA2⟩
  have hh:=PR h (k:=s.which.toNat) (by omega)
  try simp only [I,B,D,RY,↓ KW,seval,hA1,hA2,hx,hh,hq,hlen,ht,hz,hzl,hr9,Rl.len]
  cases hA3:decide (ej s s.which.toNat > 0)
  all_goals
    first | rw [hA1,hA2,hA3] at h4 | rw [hA1,hA2] at h4 | rw [hA1] at h4
    simp only [Bool.and_self,Bool.and_false,Bool.false_and,Bool.true_and] at h4
    subst h4
    try try simp only [I,B,D,RY,↓ KW,seval,hA3,hq,hlen,ht,hz,hzl,hr9,Rl.len]
    try try simp only [I,B,D,RY,↓ KW,seval,hA1,hA2,hq,hlen,ht,hz,hzl,hr9,Rl.len]
    try try simp only [I,B,D,RY,↓ KW,seval,hA1,hq,hlen,ht,hz,hzl,hr9,Rl.len]
    cases h5:decide ((bu t s).most > 0)<;>cases h6:decide (s.time ≥ (bu t s).most)<;>cases h7:decide (s.time < (bu t s).stay)
    all_goals
      rw [h5,h6] at hl
      simp only [Bool.and_self,Bool.and_false,Bool.false_and,Bool.true_and] at hl
      try simp only [I,B,D,RY,↓ KW,seval,h5,hq,hlen,ht,hz,hzl,hr9,Rl.len]
      try try simp only [I,B,D,RY,↓ KW,seval,h6,hq,hlen,ht,hz,hzl,hr9,Rl.len]
      try try simp only [I,B,D,RY,↓ KW,seval,h7,hq,hlen,ht,hz,hzl,hr9,Rl.len]
      first
        | (have e:=fin hv (by rw [hl,h7]; rfl); rw [e]; exact ⟨rfl,rfl⟩)
        | skip
  all_goals first
    | (have e:=fin2 hv (by rw [hl,h7]; rfl)
       have es:=tail1 hv (by rw [hl]; first | exact .inl rfl | exact .inr rfl)
       rw [es] at hY1 e z4
       refine af hY1 ?_
       try simp only [I,B,D,RY,↓ KW,seval,hq,hlen,ht,hz,hzl,hr9,Rl.len]
       generalize aJ t s=k at *
       cases h8:decide (k ≥ 0)
       · rw [if_neg (of_decide_eq_false h8)] at e
         try simp only [I,B,D,RY,↓ KW,seval,h8,hq,hlen,ht,hz,hzl,hr9,Rl.len]
         rw [e]; exact ⟨rfl,rfl⟩
       · rw [if_pos (of_decide_eq_true h8)] at e
         try simp only [I,B,D,RY,↓ KW,seval,h8,z4,hq,hlen,ht,hz,hzl,hr9,Rl.len]
         first | (refine ⟨by omega,?_⟩; rw [e]; exact ⟨rfl,rfl⟩) | (rw [e]; exact ⟨rfl,rfl⟩))
    | (have e:=fin2 hv (by rw [hl,h7]; rfl)
       have es:eU t s={ s with dH:=xm .i64 s.dH (IntKind.i64.wrap (2 ^ s.which.toNat)) }:=by rw [eU,hl,hv]; rfl
       obtain ⟨p1,p2⟩:=pw (hx4 hv)
       have p3:(1:Int) * 2 ^ s.which.toNat=2 ^ s.which.toNat:=Int.one_mul _
       have s7:=PU h (xm .i64 s.dH (IntKind.i64.wrap (2 ^ s.which.toNat)))
       rw [← es] at s7
       refine ⟨(hx4 hv).1,?_⟩
       try simp only [I,B,D,RY,↓ KW,seval,p1,p3,s7,z1,z2,z3,hq,hlen,ht,hz,hzl,hr9,Rl.len]
       refine af hY1 ?_
       try simp only [I,B,D,RY,↓ KW,seval,p1,p3,s7,z1,z2,z3,hq,hlen,ht,hz,hzl,hr9,Rl.len]
       generalize aJ t (eU t s)=k at *
       cases h8:decide (k ≥ 0)
       · rw [if_neg (of_decide_eq_false h8)] at e
         try simp only [I,B,D,RY,↓ KW,seval,p1,p3,s7,z1,z2,z3,h8,hq,hlen,ht,hz,hzl,hr9,Rl.len]
         rw [e]; exact ⟨rfl,rfl⟩
       · rw [if_pos (of_decide_eq_true h8)] at e
         try simp only [I,B,D,RY,↓ KW,seval,p1,p3,s7,z1,z2,z3,h8,z4,hq,hlen,ht,hz,hzl,hr9,Rl.len]
         first | (refine ⟨by omega,?_⟩; rw [e]; exact ⟨rfl,rfl⟩) | (rw [e]; exact ⟨rfl,rfl⟩))
end
end Go.Eng
namespace Go.Eng
open Go
section
variable {P:Program} (hm:P.follows .mixedOrders=true) {f:Nat}
include hm
theorem Ei.ok {fL fS fR fE fB fT:Nat} (hc:aL P f=some (kY fL fS fR fE fB fT)) (hL:zN.Spec (Pure P) fL) (hS:vq.Spec (Pure P) fS) (hR:wD.Spec (Pure P) fR) (hE:wG.Spec (Pure P) fE) (hB:Eg.Spec (Pure P) fB) (hT:Eh.Spec (Pure P) fT):Ei.Spec (Pure P) f:=by
  intro t s lines l h
  have e1:=Tb.len h.t
  have e2:=Pr.len h.s
  have e3:=cB h.l
  have e4:=Tb.whole h.t
  have e5:=Pr.whole h.s
  have e6:=fk h.l
  have hL0:=hL t s lines h.t h.s
  have hre:jb t s lines l=ja t (AM (jv t s lines)) l:=rfl
  have hs0:ku t (jv t s lines) l:=dh h (rD t s lines)
  generalize jv t s lines=u at *
  have f1:=Pr.len hs0.s
  have f2:=Pr.whole hs0.s
  have ffill:=Kr hs0 (z:=pN) rfl
  have f0:List.take 0 pN=[]:=rfl
  have fz:pN.length=235:=rfl
  obtain ⟨n,hn,_,hSc,hTu,hDo⟩:=hS
  have hn2:setCells oO 0 n=n:=ep (by rw [hn]; rfl)
  have hzl:oO.length=12:=rfl
  have q0:=fun (v:Pr) (hv:v.held.length=4)=>Ko (dh h hv)
  have q1:=fun (v:Pr) (hv:v.held.length=4)=>GW (dh h hv)
  have q2:=fun (v:Pr) (hv:v.held.length=4)=>CF (dh h hv)
  have q3:=fun (v:Pr) (hv:v.held.length=4)=>PS (dh h hv)
  have q4:=fun (v:Pr) (hv:v.held.length=4)=>Kq (dh h hv)
  have q5:=fun (v:Pr) (hv:v.held.length=4)=>PT (dh h hv)
  have k8:∀ v:Pr,v.held.length=4→setCells [I 0,I 0,I 0,I 0,I 0,I 0,I 0,I 0] 0 v.cells=v.cells:=fun v hv=>ep (by rw [Pr.len hv]; rfl)
  have kA:∀ a:Ac,a.cells.length=5∧setCells [I 0,I 0,I 0,B false,B false] 0 a.cells=a.cells∧aD a.cells 0 (some 5)=some (.agg a.cells):=fun a=>⟨rfl,rfl,rfl⟩
  refine an hm hc (by show 4≤147; decide) (aj (keep:=[]) (i:=0) ?_)
  try simp only [I,B,D,RY,↓ KW,seval,kY,Z.H,e1,e2,e3,e4,e5,e6,f1,f2,ffill,f0,fz,hn,hn2,hzl,kA,List.nil_append]
  refine af hL0 ?_
  try simp only [I,B,D,RY,↓ KW,seval,e1,e2,e3,e4,e5,e6,f1,f2,ffill,f0,fz,hn,hn2,hzl,kA,List.nil_append]
  refine af hSc ?_
  try simp only [I,B,D,RY,↓ KW,seval,e1,e2,e3,e4,e5,e6,f1,f2,ffill,f0,fz,hn,hn2,hzl,kA,List.nil_append]
  have u0:=q0 u hs0.s
  have u1:=q1 u hs0.s
  have u2:=q2 u hs0.s
  obtain ⟨v,hv⟩:∃ v,AM u=v:=⟨_,rfl⟩
  have hv4:v.held.length=4:=by rw [← hv,AM]; split<;>exact hs0.s
  have hvr:0≤v.aq∧v.aq < 6:=by rw [← hv,AM]; split<;>first | (show (0:Int)≤0∧(0:Int) < 6; exact ⟨by decide,by decide⟩) | omega
  rw [hv] at hre
  obtain ⟨k,hk⟩:∃ k:Nat,v.aq=k:=⟨v.aq.toNat,by omega⟩
  have hk6:k < 6:=by omega
  have hT0:eV t v=(decide (aJ t v ≥ 0) && ((k:Int) == 0 || ((k:Int) == 5 || decide (aJ t v < v.which)))):=by rw [eV,hk]
  have v0:=q0 v hv4
  rw [hk] at v0
  have v1:=q1 v hv4
  have v2:=q2 v hv4
  have v3:=Pr.len hv4
  have v4:=Pr.whole hv4
  have qs:(u.aq < 0∨6≤u.aq→setCells (cj t u l) 131 [I 0]=cj t v l)∧(¬ (u.aq < 0∨6≤u.aq)→cj t u l=cj t v l) :=
    ⟨fun e=>by rw [q3 u hs0.s 0,← hv,AM,if_pos e],fun e=>by rw [← hv,AM,if_neg e]⟩
  cases hA:decide (u.aq < 0)
  cases hB2:decide (u.aq ≥ 6)
  · have e:v=u:=by rw [← hv,AM,if_neg (by have:=of_decide_eq_false hA; have:=of_decide_eq_false hB2; omega)]
    subst e
    have qs:True:=trivial
    rw [hk] at hA hB2
    try simp only [I,B,D,RY,↓ KW,seval,hA,hB2,v0,v1,v2,v3,v4,e1,e2,e3,e4,e5,e6,f1,f2,ffill,f0,fz,hn,hn2,hzl,kA,List.nil_append]
    refine af (hR t v h.t hv4) ?_
    try simp only [I,B,D,RY,↓ KW,seval,qs,e1,e2,e3,e4,e5,e6,f1,f2,ffill,f0,fz,hn,hn2,hzl,kA,List.nil_append,v0,v1,v2,v3,v4]
    cases c1:decide (aJ t v ≥ 0)
    · have hT1:eV t v=false:=by rw [hT0,c1]; rfl
      have c2:True:=trivial
      have c3:True:=trivial
      have c4:True:=trivial
      obtain ⟨g,hg,htu⟩:=hTu k (by omega)
      have htu':=htu t v l (dh h hv4) hk
      have ho:=mK (t:=t) (l:=l) hv4
      have hr:=jW t v l
      have hst2:ja t v l=if v.aq=5∧(aA t v l).1=0 then ({ (aA t v l).2 with aq:=0,which:=0,time:=0 },iL t (aA t v l).2 l)
        else (eZ t (aA t v l).2 l (aA t v l).1 v.aq,mJ t (eZ t (aA t v l).2 l (aA t v l).1 v.aq) l (aA t v l).1):=if_neg (by rw [hT1]; decide)
      rw [hst2] at hre
      generalize (aA t v l).2=w at *
      obtain ⟨j,hj⟩:∃ j:Nat,(aA t v l).1=j:=⟨(aA t v l).1.toNat,by omega⟩
      rw [hj] at htu' hre hr
      have hj6:j < 6:=by omega
      have hy:0≤(k:Int)∧(k:Int) < 6:=by omega
      have hy2:0≤(j:Int)∧(j:Int) < 6:=by omega
      have w0:=q0 w ho
      have w1:=q1 w ho
      have w2:=q2 w ho
      try simp only [I,B,D,RY,↓ KW,seval,qs,c1,c2,c3,c4,hy,hg,e1,e2,e3,e4,e5,e6,f1,f2,ffill,f0,fz,hn,hn2,hzl,kA,List.nil_append,v0,v1,v2,v3,v4]
      refine ⟨rfl,aS htu' ?_⟩
      try simp only [I,B,D,RY,↓ KW,seval,qs,e1,e2,e3,e4,e5,e6,f1,f2,ffill,f0,fz,hn,hn2,hzl,kA,List.nil_append,v0,v1,v2,v3,v4,w0,w1,w2]
      cases d1:((k:Int) == 5)
      rotate_left
      cases d2:((j:Int) == 0)
      rotate_left
      · have s1:=q3 w ho 0
        have s2:=q4 { w with aq:=0 } ho 0
        have s3:=q5 { w with aq:=0,which:=0 } ho 0
        obtain ⟨y,hyy⟩:∃ y:Pr,y={ w with aq:=0,which:=0,time:=0 }:=⟨_,rfl⟩
        have hy4:y.held.length=4:=by rw [hyy]; exact ho
        rw [← hyy] at s3 hre
        have hxx:v.aq=5∧(j:Int)=0:=⟨by rw [hk]; simpa using d1,by simpa using d2⟩
        rw [if_pos hxx] at hre
        have y0:=q0 y hy4
        have y1:=q1 y hy4
        have y2:=q2 y hy4
        have y3:=Pr.len hy4
        have y4:=Pr.whole hy4
        have y5:=k8 y hy4
        have l1:=q2 { w with aq:=0 } ho
        have l2:=q2 { w with aq:=0,which:=0 } ho
        try simp only [I,B,D,RY,↓ KW,seval,qs,d1,d2,e1,e2,e3,e4,e5,e6,f1,f2,ffill,f0,fz,hn,hn2,hzl,kA,List.nil_append,v0,v1,v2,v3,v4,w0,w1,w2]
        refine ⟨rfl,aS (bC (hB t w l (dh h ho)) rfl (Nat.le_of_ble_eq_true rfl)) ?_⟩
        try simp only [I,B,D,RY,↓ KW,seval,qs,e1,e2,e3,e4,e5,e6,f1,f2,ffill,f0,fz,hn,hn2,hzl,kA,List.nil_append,v0,v1,v2,v3,v4,w0,w1,w2,s1,s2,s3,y0,y1,y2,y3,y4,y5,l1,l2]
        refine p8 rfl ?_
        try simp only [I,B,D,RY,↓ KW,seval,qs,e1,e2,e3,e4,e5,e6,f1,f2,ffill,f0,fz,hn,hn2,hzl,kA,List.nil_append,v0,v1,v2,v3,v4,w0,w1,w2,s1,s2,s3,y0,y1,y2,y3,y4,y5,l1,l2]
        rw [hre]
      all_goals
        have hxx:¬ (v.aq=5∧(j:Int)=0):=by
          rintro ⟨a,b⟩
          rw [hk] at a
          simp_all
        rw [if_neg hxx] at hre
        obtain ⟨g2,hg2,hdo⟩:=hDo j hj6
        have s1:=q3 w ho j
        obtain ⟨y,hyy⟩:∃ y:Pr,y=eZ t w l j v.aq:=⟨_,rfl⟩
        have hy4:y.held.length=4:=by rw [hyy]; exact ho
        have s2:∀ x,x=mI t { w with aq:=(j:Int) } l ((j:Int) != (k:Int))→setCells (cj t { w with aq:=(j:Int) } l) 133 [I x]=cj t y l:=fun x hx=>by
          rw [q5 { w with aq:=(j:Int) } ho x,hx,hyy,eZ,hk]
        have s2':=s2 _ rfl
        rw [← hyy] at hre
        have y0:=q0 y hy4
        have y1:=q1 y hy4
        have y2:=q2 y hy4
        have y3:=Pr.len hy4
        have y4:=Pr.whole hy4
        have y5:=k8 y hy4
        have l1:=q2 { w with aq:=(j:Int) } ho
        have ht3:=hT t { w with aq:=(j:Int) } l ((j:Int) != (k:Int)) (dh h ho)
        try try simp only [I,B,D,RY,↓ KW,seval,d1,e1,e2,e3,e4,e5,e6,f1,f2,ffill,f0,fz,hn,hn2,hzl,kA,List.nil_append,v0,v1,v2,v3,v4,w0,w1,w2,s1,s2',y0,y1,y2,y3,y4,y5,l1,hy2,hg2,qs]
        try try simp only [I,B,D,RY,↓ KW,seval,d2,e1,e2,e3,e4,e5,e6,f1,f2,ffill,f0,fz,hn,hn2,hzl,kA,List.nil_append,v0,v1,v2,v3,v4,w0,w1,w2,s1,s2',y0,y1,y2,y3,y4,y5,l1,hy2,hg2,qs]
        refine ⟨rfl,aS (bC ht3 rfl (Nat.le_of_ble_eq_true rfl)) ?_⟩
        try simp only [I,B,D,RY,↓ KW,seval,qs,e1,e2,e3,e4,e5,e6,f1,f2,ffill,f0,fz,hn,hn2,hzl,kA,List.nil_append,v0,v1,v2,v3,v4,w0,w1,w2,s1,s2',y0,y1,y2,y3,y4,y5,l1,hy2,hg2]
        refine i7 [9] rfl ?_
        try simp only [I,B,D,RY,↓ KW,seval,qs,e1,e2,e3,e4,e5,e6,f1,f2,ffill,f0,fz,hn,hn2,hzl,kA,List.nil_append,v0,v1,v2,v3,v4,w0,w1,w2,s1,s2',y0,y1,y2,y3,y4,y5,l1,hy2,hg2]
        refine ⟨rfl,bX (bC (hdo t y l (dh h hy4)) rfl (Nat.le_of_ble_eq_true rfl)) ?_⟩
        try simp only [I,B,D,RY,↓ KW,seval,qs,e1,e2,e3,e4,e5,e6,f1,f2,ffill,f0,fz,hn,hn2,hzl,kA,List.nil_append,v0,v1,v2,v3,v4,w0,w1,w2,s1,s2',y0,y1,y2,y3,y4,y5,l1,hy2,hg2]
        rw [hre]
    · cases c2:((k:Int) == 0)
      rotate_left
      · have hT1:eV t v=true:=by rw [hT0,c1,c2]; rfl
        have c3:True:=trivial
        have c4:True:=trivial
        have s1:=q3 v hv4 1
        have s2:=q4 { v with aq:=1 } hv4 (aJ t v)
        have s3:=q5 { v with aq:=1,which:=aJ t v } hv4 0
        have ht1:ja t v l=({ v with aq:=1,which:=aJ t v,time:=0 },k7 t { v with aq:=1,which:=aJ t v,time:=0 } l):=if_pos hT1
        obtain ⟨y,hy⟩:∃ y:Pr,y={ v with aq:=1,which:=aJ t v,time:=0 }:=⟨_,rfl⟩
        have hy4:y.held.length=4:=by rw [hy]; exact hv4
        rw [← hy] at ht1 s3
        have y0:=q0 y hy4
        have y1:=q1 y hy4
        have y2:=q2 y hy4
        have y3:=Pr.len hy4
        have y4:=Pr.whole hy4
        have y5:=k8 y hy4
        have l1:=q2 { v with aq:=1 } hv4
        have l2:=q2 { v with aq:=1,which:=aJ t v } hv4
        try simp only [I,B,D,RY,↓ KW,seval,qs,c1,c2,c3,c4,e1,e2,e3,e4,e5,e6,f1,f2,ffill,f0,fz,hn,hn2,hzl,kA,List.nil_append,v0,v1,v2,v3,v4,s1,s2,s3,y0,y1,y2,y3,y4,y5,l1,l2]
        refine i7 [5] rfl ?_
        try simp only [I,B,D,RY,↓ KW,seval,qs,e1,e2,e3,e4,e5,e6,f1,f2,ffill,f0,fz,hn,hn2,hzl,kA,List.nil_append,v0,v1,v2,v3,v4,s1,s2,s3,y0,y1,y2,y3,y4,y5,l1,l2]
        refine ⟨rfl,bX (bC (hE t y l (dh h hy4)) rfl (Nat.le_of_ble_eq_true rfl)) ?_⟩
        try simp only [I,B,D,RY,↓ KW,seval,qs,e1,e2,e3,e4,e5,e6,f1,f2,ffill,f0,fz,hn,hn2,hzl,kA,List.nil_append,v0,v1,v2,v3,v4,s1,s2,s3,y0,y1,y2,y3,y4,y5,l1,l2]
        rw [hre,ht1]
      · cases c3:((k:Int) == 5)
        rotate_left
        · have hT1:eV t v=true:=by rw [hT0,c1,c2,c3]; rfl
          have c4:True:=trivial
          have s1:=q3 v hv4 1
          have s2:=q4 { v with aq:=1 } hv4 (aJ t v)
          have s3:=q5 { v with aq:=1,which:=aJ t v } hv4 0
          have ht1:ja t v l=({ v with aq:=1,which:=aJ t v,time:=0 },k7 t { v with aq:=1,which:=aJ t v,time:=0 } l):=if_pos hT1
          obtain ⟨y,hy⟩:∃ y:Pr,y={ v with aq:=1,which:=aJ t v,time:=0 }:=⟨_,rfl⟩
          have hy4:y.held.length=4:=by rw [hy]; exact hv4
          rw [← hy] at ht1 s3
          have y0:=q0 y hy4
          have y1:=q1 y hy4
          have y2:=q2 y hy4
          have y3:=Pr.len hy4
          have y4:=Pr.whole hy4
          have y5:=k8 y hy4
          have l1:=q2 { v with aq:=1 } hv4
          have l2:=q2 { v with aq:=1,which:=aJ t v } hv4
          try simp only [I,B,D,RY,↓ KW,seval,qs,c1,c2,c3,c4,e1,e2,e3,e4,e5,e6,f1,f2,ffill,f0,fz,hn,hn2,hzl,kA,List.nil_append,v0,v1,v2,v3,v4,s1,s2,s3,y0,y1,y2,y3,y4,y5,l1,l2]
          refine i7 [5] rfl ?_
          try simp only [I,B,D,RY,↓ KW,seval,qs,e1,e2,e3,e4,e5,e6,f1,f2,ffill,f0,fz,hn,hn2,hzl,kA,List.nil_append,v0,v1,v2,v3,v4,s1,s2,s3,y0,y1,y2,y3,y4,y5,l1,l2]
          refine ⟨rfl,bX (bC (hE t y l (dh h hy4)) rfl (Nat.le_of_ble_eq_true rfl)) ?_⟩
          try simp only [I,B,D,RY,↓ KW,seval,qs,e1,e2,e3,e4,e5,e6,f1,f2,ffill,f0,fz,hn,hn2,hzl,kA,List.nil_append,v0,v1,v2,v3,v4,s1,s2,s3,y0,y1,y2,y3,y4,y5,l1,l2]
          rw [hre,ht1]
        · cases c4:decide (aJ t v < v.which)
          rotate_left
          · have hT1:eV t v=true:=by rw [hT0,c1,c2,c3,c4]; rfl
            have s1:=q3 v hv4 1
            have s2:=q4 { v with aq:=1 } hv4 (aJ t v)
            have s3:=q5 { v with aq:=1,which:=aJ t v } hv4 0
            have ht1:ja t v l=({ v with aq:=1,which:=aJ t v,time:=0 },k7 t { v with aq:=1,which:=aJ t v,time:=0 } l):=if_pos hT1
            obtain ⟨y,hy⟩:∃ y:Pr,y={ v with aq:=1,which:=aJ t v,time:=0 }:=⟨_,rfl⟩
            have hy4:y.held.length=4:=by rw [hy]; exact hv4
            rw [← hy] at ht1 s3
            have y0:=q0 y hy4
            have y1:=q1 y hy4
            have y2:=q2 y hy4
            have y3:=Pr.len hy4
            have y4:=Pr.whole hy4
            have y5:=k8 y hy4
            have l1:=q2 { v with aq:=1 } hv4
            have l2:=q2 { v with aq:=1,which:=aJ t v } hv4
            try simp only [I,B,D,RY,↓ KW,seval,qs,c1,c2,c3,c4,e1,e2,e3,e4,e5,e6,f1,f2,ffill,f0,fz,hn,hn2,hzl,kA,List.nil_append,v0,v1,v2,v3,v4,s1,s2,s3,y0,y1,y2,y3,y4,y5,l1,l2]
            refine i7 [5] rfl ?_
            try simp only [I,B,D,RY,↓ KW,seval,qs,e1,e2,e3,e4,e5,e6,f1,f2,ffill,f0,fz,hn,hn2,hzl,kA,List.nil_append,v0,v1,v2,v3,v4,s1,s2,s3,y0,y1,y2,y3,y4,y5,l1,l2]
            refine ⟨rfl,bX (bC (hE t y l (dh h hy4)) rfl (Nat.le_of_ble_eq_true rfl)) ?_⟩
            try simp only [I,B,D,RY,↓ KW,seval,qs,e1,e2,e3,e4,e5,e6,f1,f2,ffill,f0,fz,hn,hn2,hzl,kA,List.nil_append,v0,v1,v2,v3,v4,s1,s2,s3,y0,y1,y2,y3,y4,y5,l1,l2]
            rw [hre,ht1]
          · have hT1:eV t v=false:=by rw [hT0,c1,c2,c3,c4]; rfl
            obtain ⟨g,hg,htu⟩:=hTu k (by omega)
            have htu':=htu t v l (dh h hv4) hk
            have ho:=mK (t:=t) (l:=l) hv4
            have hr:=jW t v l
            have hst2:ja t v l=if v.aq=5∧(aA t v l).1=0 then ({ (aA t v l).2 with aq:=0,which:=0,time:=0 },iL t (aA t v l).2 l)
              else (eZ t (aA t v l).2 l (aA t v l).1 v.aq,mJ t (eZ t (aA t v l).2 l (aA t v l).1 v.aq) l (aA t v l).1):=if_neg (by rw [hT1]; decide)
            rw [hst2] at hre
            generalize (aA t v l).2=w at *
            obtain ⟨j,hj⟩:∃ j:Nat,(aA t v l).1=j:=⟨(aA t v l).1.toNat,by omega⟩
            rw [hj] at htu' hre hr
            have hj6:j < 6:=by omega
            have hy:0≤(k:Int)∧(k:Int) < 6:=by omega
            have hy2:0≤(j:Int)∧(j:Int) < 6:=by omega
            have w0:=q0 w ho
            have w1:=q1 w ho
            have w2:=q2 w ho
            try simp only [I,B,D,RY,↓ KW,seval,qs,c1,c2,c3,c4,hy,hg,e1,e2,e3,e4,e5,e6,f1,f2,ffill,f0,fz,hn,hn2,hzl,kA,List.nil_append,v0,v1,v2,v3,v4]
            refine ⟨rfl,aS htu' ?_⟩
            try simp only [I,B,D,RY,↓ KW,seval,qs,e1,e2,e3,e4,e5,e6,f1,f2,ffill,f0,fz,hn,hn2,hzl,kA,List.nil_append,v0,v1,v2,v3,v4,w0,w1,w2]
            have d1:=c3
            have d2:True:=trivial
            all_goals
              have hxx:¬ (v.aq=5∧(j:Int)=0):=by
                rintro ⟨a,b⟩
                rw [hk] at a
                simp_all
              rw [if_neg hxx] at hre
              obtain ⟨g2,hg2,hdo⟩:=hDo j hj6
              have s1:=q3 w ho j
              obtain ⟨y,hyy⟩:∃ y:Pr,y=eZ t w l j v.aq:=⟨_,rfl⟩
              have hy4:y.held.length=4:=by rw [hyy]; exact ho
              have s2:∀ x,x=mI t { w with aq:=(j:Int) } l ((j:Int) != (k:Int))→setCells (cj t { w with aq:=(j:Int) } l) 133 [I x]=cj t y l:=fun x hx=>by
                rw [q5 { w with aq:=(j:Int) } ho x,hx,hyy,eZ,hk]
              have s2':=s2 _ rfl
              rw [← hyy] at hre
              have y0:=q0 y hy4
              have y1:=q1 y hy4
              have y2:=q2 y hy4
              have y3:=Pr.len hy4
              have y4:=Pr.whole hy4
              have y5:=k8 y hy4
              have l1:=q2 { w with aq:=(j:Int) } ho
              have ht3:=hT t { w with aq:=(j:Int) } l ((j:Int) != (k:Int)) (dh h ho)
              try try simp only [I,B,D,RY,↓ KW,seval,d1,e1,e2,e3,e4,e5,e6,f1,f2,ffill,f0,fz,hn,hn2,hzl,kA,List.nil_append,v0,v1,v2,v3,v4,w0,w1,w2,s1,s2',y0,y1,y2,y3,y4,y5,l1,hy2,hg2,qs]
              try try simp only [I,B,D,RY,↓ KW,seval,d2,e1,e2,e3,e4,e5,e6,f1,f2,ffill,f0,fz,hn,hn2,hzl,kA,List.nil_append,v0,v1,v2,v3,v4,w0,w1,w2,s1,s2',y0,y1,y2,y3,y4,y5,l1,hy2,hg2,qs]
              refine ⟨rfl,aS (bC ht3 rfl (Nat.le_of_ble_eq_true rfl)) ?_⟩
              try simp only [I,B,D,RY,↓ KW,seval,qs,e1,e2,e3,e4,e5,e6,f1,f2,ffill,f0,fz,hn,hn2,hzl,kA,List.nil_append,v0,v1,v2,v3,v4,w0,w1,w2,s1,s2',y0,y1,y2,y3,y4,y5,l1,hy2,hg2]
              refine i7 [9] rfl ?_
              try simp only [I,B,D,RY,↓ KW,seval,qs,e1,e2,e3,e4,e5,e6,f1,f2,ffill,f0,fz,hn,hn2,hzl,kA,List.nil_append,v0,v1,v2,v3,v4,w0,w1,w2,s1,s2',y0,y1,y2,y3,y4,y5,l1,hy2,hg2]
              refine ⟨rfl,bX (bC (hdo t y l (dh h hy4)) rfl (Nat.le_of_ble_eq_true rfl)) ?_⟩
              try simp only [I,B,D,RY,↓ KW,seval,qs,e1,e2,e3,e4,e5,e6,f1,f2,ffill,f0,fz,hn,hn2,hzl,kA,List.nil_append,v0,v1,v2,v3,v4,w0,w1,w2,s1,s2',y0,y1,y2,y3,y4,y5,l1,hy2,hg2]
              rw [hre]
  · have qs:=qs.1 (.inr (by have:=of_decide_eq_true hB2; omega))
    try simp only [I,B,D,RY,↓ KW,seval,hA,hB2,u0,u1,u2,qs,e1,e2,e3,e4,e5,e6,f1,f2,ffill,f0,fz,hn,hn2,hzl,kA,List.nil_append,v0,v1,v2,v3,v4]
    refine af (hR t v h.t hv4) ?_
    try simp only [I,B,D,RY,↓ KW,seval,qs,e1,e2,e3,e4,e5,e6,f1,f2,ffill,f0,fz,hn,hn2,hzl,kA,List.nil_append,v0,v1,v2,v3,v4]
    cases c1:decide (aJ t v ≥ 0)
    · have hT1:eV t v=false:=by rw [hT0,c1]; rfl
      have c2:True:=trivial
      have c3:True:=trivial
      have c4:True:=trivial
      obtain ⟨g,hg,htu⟩:=hTu k (by omega)
      have htu':=htu t v l (dh h hv4) hk
      have ho:=mK (t:=t) (l:=l) hv4
      have hr:=jW t v l
      have hst2:ja t v l=if v.aq=5∧(aA t v l).1=0 then ({ (aA t v l).2 with aq:=0,which:=0,time:=0 },iL t (aA t v l).2 l)
        else (eZ t (aA t v l).2 l (aA t v l).1 v.aq,mJ t (eZ t (aA t v l).2 l (aA t v l).1 v.aq) l (aA t v l).1):=if_neg (by rw [hT1]; decide)
      rw [hst2] at hre
      generalize (aA t v l).2=w at *
      obtain ⟨j,hj⟩:∃ j:Nat,(aA t v l).1=j:=⟨(aA t v l).1.toNat,by omega⟩
      rw [hj] at htu' hre hr
      have hj6:j < 6:=by omega
      have hy:0≤(k:Int)∧(k:Int) < 6:=by omega
      have hy2:0≤(j:Int)∧(j:Int) < 6:=by omega
      have w0:=q0 w ho
      have w1:=q1 w ho
      have w2:=q2 w ho
      try simp only [I,B,D,RY,↓ KW,seval,qs,c1,c2,c3,c4,hy,hg,e1,e2,e3,e4,e5,e6,f1,f2,ffill,f0,fz,hn,hn2,hzl,kA,List.nil_append,v0,v1,v2,v3,v4]
      refine ⟨rfl,aS htu' ?_⟩
      try simp only [I,B,D,RY,↓ KW,seval,qs,e1,e2,e3,e4,e5,e6,f1,f2,ffill,f0,fz,hn,hn2,hzl,kA,List.nil_append,v0,v1,v2,v3,v4,w0,w1,w2]
      cases d1:((k:Int) == 5)
      rotate_left
      cases d2:((j:Int) == 0)
      rotate_left
      · have s1:=q3 w ho 0
        have s2:=q4 { w with aq:=0 } ho 0
        have s3:=q5 { w with aq:=0,which:=0 } ho 0
        obtain ⟨y,hyy⟩:∃ y:Pr,y={ w with aq:=0,which:=0,time:=0 }:=⟨_,rfl⟩
        have hy4:y.held.length=4:=by rw [hyy]; exact ho
        rw [← hyy] at s3 hre
        have hxx:v.aq=5∧(j:Int)=0:=⟨by rw [hk]; simpa using d1,by simpa using d2⟩
        rw [if_pos hxx] at hre
        have y0:=q0 y hy4
        have y1:=q1 y hy4
        have y2:=q2 y hy4
        have y3:=Pr.len hy4
        have y4:=Pr.whole hy4
        have y5:=k8 y hy4
        have l1:=q2 { w with aq:=0 } ho
        have l2:=q2 { w with aq:=0,which:=0 } ho
        try simp only [I,B,D,RY,↓ KW,seval,qs,d1,d2,e1,e2,e3,e4,e5,e6,f1,f2,ffill,f0,fz,hn,hn2,hzl,kA,List.nil_append,v0,v1,v2,v3,v4,w0,w1,w2]
        refine ⟨rfl,aS (bC (hB t w l (dh h ho)) rfl (Nat.le_of_ble_eq_true rfl)) ?_⟩
        try simp only [I,B,D,RY,↓ KW,seval,qs,e1,e2,e3,e4,e5,e6,f1,f2,ffill,f0,fz,hn,hn2,hzl,kA,List.nil_append,v0,v1,v2,v3,v4,w0,w1,w2,s1,s2,s3,y0,y1,y2,y3,y4,y5,l1,l2]
        refine p8 rfl ?_
        try simp only [I,B,D,RY,↓ KW,seval,qs,e1,e2,e3,e4,e5,e6,f1,f2,ffill,f0,fz,hn,hn2,hzl,kA,List.nil_append,v0,v1,v2,v3,v4,w0,w1,w2,s1,s2,s3,y0,y1,y2,y3,y4,y5,l1,l2]
        rw [hre]
      all_goals
        have hxx:¬ (v.aq=5∧(j:Int)=0):=by
          rintro ⟨a,b⟩
          rw [hk] at a
          simp_all
        rw [if_neg hxx] at hre
        obtain ⟨g2,hg2,hdo⟩:=hDo j hj6
        have s1:=q3 w ho j
        obtain ⟨y,hyy⟩:∃ y:Pr,y=eZ t w l j v.aq:=⟨_,rfl⟩
        have hy4:y.held.length=4:=by rw [hyy]; exact ho
        have s2:∀ x,x=mI t { w with aq:=(j:Int) } l ((j:Int) != (k:Int))→setCells (cj t { w with aq:=(j:Int) } l) 133 [I x]=cj t y l:=fun x hx=>by
          rw [q5 { w with aq:=(j:Int) } ho x,hx,hyy,eZ,hk]
        have s2':=s2 _ rfl
        rw [← hyy] at hre
        have y0:=q0 y hy4
        have y1:=q1 y hy4
        have y2:=q2 y hy4
        have y3:=Pr.len hy4
        have y4:=Pr.whole hy4
        have y5:=k8 y hy4
        have l1:=q2 { w with aq:=(j:Int) } ho
        have ht3:=hT t { w with aq:=(j:Int) } l ((j:Int) != (k:Int)) (dh h ho)
        try try simp only [I,B,D,RY,↓ KW,seval,d1,e1,e2,e3,e4,e5,e6,f1,f2,ffill,f0,fz,hn,hn2,hzl,kA,List.nil_append,v0,v1,v2,v3,v4,w0,w1,w2,s1,s2',y0,y1,y2,y3,y4,y5,l1,hy2,hg2,qs]
        try try simp only [I,B,D,RY,↓ KW,seval,d2,e1,e2,e3,e4,e5,e6,f1,f2,ffill,f0,fz,hn,hn2,hzl,kA,List.nil_append,v0,v1,v2,v3,v4,w0,w1,w2,s1,s2',y0,y1,y2,y3,y4,y5,l1,hy2,hg2,qs]
        refine ⟨rfl,aS (bC ht3 rfl (Nat.le_of_ble_eq_true rfl)) ?_⟩
        try simp only [I,B,D,RY,↓ KW,seval,qs,e1,e2,e3,e4,e5,e6,f1,f2,ffill,f0,fz,hn,hn2,hzl,kA,List.nil_append,v0,v1,v2,v3,v4,w0,w1,w2,s1,s2',y0,y1,y2,y3,y4,y5,l1,hy2,hg2]
        refine i7 [9] rfl ?_
        try simp only [I,B,D,RY,↓ KW,seval,qs,e1,e2,e3,e4,e5,e6,f1,f2,ffill,f0,fz,hn,hn2,hzl,kA,List.nil_append,v0,v1,v2,v3,v4,w0,w1,w2,s1,s2',y0,y1,y2,y3,y4,y5,l1,hy2,hg2]
        refine ⟨rfl,bX (bC (hdo t y l (dh h hy4)) rfl (Nat.le_of_ble_eq_true rfl)) ?_⟩
        try simp only [I,B,D,RY,↓ KW,seval,qs,e1,e2,e3,e4,e5,e6,f1,f2,ffill,f0,fz,hn,hn2,hzl,kA,List.nil_append,v0,v1,v2,v3,v4,w0,w1,w2,s1,s2',y0,y1,y2,y3,y4,y5,l1,hy2,hg2]
        rw [hre]
    · cases c2:((k:Int) == 0)
      rotate_left
      · have hT1:eV t v=true:=by rw [hT0,c1,c2]; rfl
        have c3:True:=trivial
        have c4:True:=trivial
        have s1:=q3 v hv4 1
        have s2:=q4 { v with aq:=1 } hv4 (aJ t v)
        have s3:=q5 { v with aq:=1,which:=aJ t v } hv4 0
        have ht1:ja t v l=({ v with aq:=1,which:=aJ t v,time:=0 },k7 t { v with aq:=1,which:=aJ t v,time:=0 } l):=if_pos hT1
        obtain ⟨y,hy⟩:∃ y:Pr,y={ v with aq:=1,which:=aJ t v,time:=0 }:=⟨_,rfl⟩
        have hy4:y.held.length=4:=by rw [hy]; exact hv4
        rw [← hy] at ht1 s3
        have y0:=q0 y hy4
        have y1:=q1 y hy4
        have y2:=q2 y hy4
        have y3:=Pr.len hy4
        have y4:=Pr.whole hy4
        have y5:=k8 y hy4
        have l1:=q2 { v with aq:=1 } hv4
        have l2:=q2 { v with aq:=1,which:=aJ t v } hv4
        try simp only [I,B,D,RY,↓ KW,seval,qs,c1,c2,c3,c4,e1,e2,e3,e4,e5,e6,f1,f2,ffill,f0,fz,hn,hn2,hzl,kA,List.nil_append,v0,v1,v2,v3,v4,s1,s2,s3,y0,y1,y2,y3,y4,y5,l1,l2]
        refine i7 [5] rfl ?_
        try simp only [I,B,D,RY,↓ KW,seval,qs,e1,e2,e3,e4,e5,e6,f1,f2,ffill,f0,fz,hn,hn2,hzl,kA,List.nil_append,v0,v1,v2,v3,v4,s1,s2,s3,y0,y1,y2,y3,y4,y5,l1,l2]
        refine ⟨rfl,bX (bC (hE t y l (dh h hy4)) rfl (Nat.le_of_ble_eq_true rfl)) ?_⟩
        try simp only [I,B,D,RY,↓ KW,seval,qs,e1,e2,e3,e4,e5,e6,f1,f2,ffill,f0,fz,hn,hn2,hzl,kA,List.nil_append,v0,v1,v2,v3,v4,s1,s2,s3,y0,y1,y2,y3,y4,y5,l1,l2]
        rw [hre,ht1]
      · cases c3:((k:Int) == 5)
        rotate_left
        · have hT1:eV t v=true:=by rw [hT0,c1,c2,c3]; rfl
          have c4:True:=trivial
          have s1:=q3 v hv4 1
          have s2:=q4 { v with aq:=1 } hv4 (aJ t v)
          have s3:=q5 { v with aq:=1,which:=aJ t v } hv4 0
          have ht1:ja t v l=({ v with aq:=1,which:=aJ t v,time:=0 },k7 t { v with aq:=1,which:=aJ t v,time:=0 } l):=if_pos hT1
          obtain ⟨y,hy⟩:∃ y:Pr,y={ v with aq:=1,which:=aJ t v,time:=0 }:=⟨_,rfl⟩
          have hy4:y.held.length=4:=by rw [hy]; exact hv4
          rw [← hy] at ht1 s3
          have y0:=q0 y hy4
          have y1:=q1 y hy4
          have y2:=q2 y hy4
          have y3:=Pr.len hy4
          have y4:=Pr.whole hy4
          have y5:=k8 y hy4
          have l1:=q2 { v with aq:=1 } hv4
          have l2:=q2 { v with aq:=1,which:=aJ t v } hv4
          try simp only [I,B,D,RY,↓ KW,seval,qs,c1,c2,c3,c4,e1,e2,e3,e4,e5,e6,f1,f2,ffill,f0,fz,hn,hn2,hzl,kA,List.nil_append,v0,v1,v2,v3,v4,s1,s2,s3,y0,y1,y2,y3,y4,y5,l1,l2]
          refine i7 [5] rfl ?_
          try simp only [I,B,D,RY,↓ KW,seval,qs,e1,e2,e3,e4,e5,e6,f1,f2,ffill,f0,fz,hn,hn2,hzl,kA,List.nil_append,v0,v1,v2,v3,v4,s1,s2,s3,y0,y1,y2,y3,y4,y5,l1,l2]
          refine ⟨rfl,bX (bC (hE t y l (dh h hy4)) rfl (Nat.le_of_ble_eq_true rfl)) ?_⟩
          try simp only [I,B,D,RY,↓ KW,seval,qs,e1,e2,e3,e4,e5,e6,f1,f2,ffill,f0,fz,hn,hn2,hzl,kA,List.nil_append,v0,v1,v2,v3,v4,s1,s2,s3,y0,y1,y2,y3,y4,y5,l1,l2]
          rw [hre,ht1]
        · cases c4:decide (aJ t v < v.which)
          rotate_left
          · have hT1:eV t v=true:=by rw [hT0,c1,c2,c3,c4]; rfl
            have s1:=q3 v hv4 1
            have s2:=q4 { v with aq:=1 } hv4 (aJ t v)
            have s3:=q5 { v with aq:=1,which:=aJ t v } hv4 0
            have ht1:ja t v l=({ v with aq:=1,which:=aJ t v,time:=0 },k7 t { v with aq:=1,which:=aJ t v,time:=0 } l):=if_pos hT1
            obtain ⟨y,hy⟩:∃ y:Pr,y={ v with aq:=1,which:=aJ t v,time:=0 }:=⟨_,rfl⟩
            have hy4:y.held.length=4:=by rw [hy]; exact hv4
            rw [← hy] at ht1 s3
            have y0:=q0 y hy4
            have y1:=q1 y hy4
            have y2:=q2 y hy4
            have y3:=Pr.len hy4
            have y4:=Pr.whole hy4
            have y5:=k8 y hy4
            have l1:=q2 { v with aq:=1 } hv4
            have l2:=q2 { v with aq:=1,which:=aJ t v } hv4
            try simp only [I,B,D,RY,↓ KW,seval,qs,c1,c2,c3,c4,e1,e2,e3,e4,e5,e6,f1,f2,ffill,f0,fz,hn,hn2,hzl,kA,List.nil_append,v0,v1,v2,v3,v4,s1,s2,s3,y0,y1,y2,y3,y4,y5,l1,l2]
            refine i7 [5] rfl ?_
            try simp only [I,B,D,RY,↓ KW,seval,qs,e1,e2,e3,e4,e5,e6,f1,f2,ffill,f0,fz,hn,hn2,hzl,kA,List.nil_append,v0,v1,v2,v3,v4,s1,s2,s3,y0,y1,y2,y3,y4,y5,l1,l2]
            refine ⟨rfl,bX (bC (hE t y l (dh h hy4)) rfl (Nat.le_of_ble_eq_true rfl)) ?_⟩
            try simp only [I,B,D,RY,↓ KW,seval,qs,e1,e2,e3,e4,e5,e6,f1,f2,ffill,f0,fz,hn,hn2,hzl,kA,List.nil_append,v0,v1,v2,v3,v4,s1,s2,s3,y0,y1,y2,y3,y4,y5,l1,l2]
            rw [hre,ht1]
          · have hT1:eV t v=false:=by rw [hT0,c1,c2,c3,c4]; rfl
            obtain ⟨g,hg,htu⟩:=hTu k (by omega)
            have htu':=htu t v l (dh h hv4) hk
            have ho:=mK (t:=t) (l:=l) hv4
            have hr:=jW t v l
            have hst2:ja t v l=if v.aq=5∧(aA t v l).1=0 then ({ (aA t v l).2 with aq:=0,which:=0,time:=0 },iL t (aA t v l).2 l)
              else (eZ t (aA t v l).2 l (aA t v l).1 v.aq,mJ t (eZ t (aA t v l).2 l (aA t v l).1 v.aq) l (aA t v l).1):=if_neg (by rw [hT1]; decide)
            rw [hst2] at hre
            generalize (aA t v l).2=w at *
            obtain ⟨j,hj⟩:∃ j:Nat,(aA t v l).1=j:=⟨(aA t v l).1.toNat,by omega⟩
            rw [hj] at htu' hre hr
            have hj6:j < 6:=by omega
            have hy:0≤(k:Int)∧(k:Int) < 6:=by omega
            have hy2:0≤(j:Int)∧(j:Int) < 6:=by omega
            have w0:=q0 w ho
            have w1:=q1 w ho
            have w2:=q2 w ho
            try simp only [I,B,D,RY,↓ KW,seval,qs,c1,c2,c3,c4,hy,hg,e1,e2,e3,e4,e5,e6,f1,f2,ffill,f0,fz,hn,hn2,hzl,kA,List.nil_append,v0,v1,v2,v3,v4]
            refine ⟨rfl,aS htu' ?_⟩
            try simp only [I,B,D,RY,↓ KW,seval,qs,e1,e2,e3,e4,e5,e6,f1,f2,ffill,f0,fz,hn,hn2,hzl,kA,List.nil_append,v0,v1,v2,v3,v4,w0,w1,w2]
            have d1:=c3
            have d2:True:=trivial
            all_goals
              have hxx:¬ (v.aq=5∧(j:Int)=0):=by
                rintro ⟨a,b⟩
                rw [hk] at a
                simp_all
              rw [if_neg hxx] at hre
              obtain ⟨g2,hg2,hdo⟩:=hDo j hj6
              have s1:=q3 w ho j
              obtain ⟨y,hyy⟩:∃ y:Pr,y=eZ t w l j v.aq:=⟨_,rfl⟩
              have hy4:y.held.length=4:=by rw [hyy]; exact ho
              have s2:∀ x,x=mI t { w with aq:=(j:Int) } l ((j:Int) != (k:Int))→setCells (cj t { w with aq:=(j:Int) } l) 133 [I x]=cj t y l:=fun x hx=>by
                rw [q5 { w with aq:=(j:Int) } ho x,hx,hyy,eZ,hk]
              have s2':=s2 _ rfl
              rw [← hyy] at hre
              have y0:=q0 y hy4
              have y1:=q1 y hy4
              have y2:=q2 y hy4
              have y3:=Pr.len hy4
              have y4:=Pr.whole hy4
              have y5:=k8 y hy4
              have l1:=q2 { w with aq:=(j:Int) } ho
              have ht3:=hT t { w with aq:=(j:Int) } l ((j:Int) != (k:Int)) (dh h ho)
              try try simp only [I,B,D,RY,↓ KW,seval,d1,e1,e2,e3,e4,e5,e6,f1,f2,ffill,f0,fz,hn,hn2,hzl,kA,List.nil_append,v0,v1,v2,v3,v4,w0,w1,w2,s1,s2',y0,y1,y2,y3,y4,y5,l1,hy2,hg2,qs]
              try try simp only [I,B,D,RY,↓ KW,seval,d2,e1,e2,e3,e4,e5,e6,f1,f2,ffill,f0,fz,hn,hn2,hzl,kA,List.nil_append,v0,v1,v2,v3,v4,w0,w1,w2,s1,s2',y0,y1,y2,y3,y4,y5,l1,hy2,hg2,qs]
              refine ⟨rfl,aS (bC ht3 rfl (Nat.le_of_ble_eq_true rfl)) ?_⟩
              try simp only [I,B,D,RY,↓ KW,seval,qs,e1,e2,e3,e4,e5,e6,f1,f2,ffill,f0,fz,hn,hn2,hzl,kA,List.nil_append,v0,v1,v2,v3,v4,w0,w1,w2,s1,s2',y0,y1,y2,y3,y4,y5,l1,hy2,hg2]
              refine i7 [9] rfl ?_
              try simp only [I,B,D,RY,↓ KW,seval,qs,e1,e2,e3,e4,e5,e6,f1,f2,ffill,f0,fz,hn,hn2,hzl,kA,List.nil_append,v0,v1,v2,v3,v4,w0,w1,w2,s1,s2',y0,y1,y2,y3,y4,y5,l1,hy2,hg2]
              refine ⟨rfl,bX (bC (hdo t y l (dh h hy4)) rfl (Nat.le_of_ble_eq_true rfl)) ?_⟩
              try simp only [I,B,D,RY,↓ KW,seval,qs,e1,e2,e3,e4,e5,e6,f1,f2,ffill,f0,fz,hn,hn2,hzl,kA,List.nil_append,v0,v1,v2,v3,v4,w0,w1,w2,s1,s2',y0,y1,y2,y3,y4,y5,l1,hy2,hg2]
              rw [hre]
  · have qs:=qs.1 (.inl (of_decide_eq_true hA))
    try simp only [I,B,D,RY,↓ KW,seval,hA,u0,u1,u2,qs,e1,e2,e3,e4,e5,e6,f1,f2,ffill,f0,fz,hn,hn2,hzl,kA,List.nil_append,v0,v1,v2,v3,v4]
    refine af (hR t v h.t hv4) ?_
    try simp only [I,B,D,RY,↓ KW,seval,qs,e1,e2,e3,e4,e5,e6,f1,f2,ffill,f0,fz,hn,hn2,hzl,kA,List.nil_append,v0,v1,v2,v3,v4]
    cases c1:decide (aJ t v ≥ 0)
    · have hT1:eV t v=false:=by rw [hT0,c1]; rfl
      have c2:True:=trivial
      have c3:True:=trivial
      have c4:True:=trivial
      obtain ⟨g,hg,htu⟩:=hTu k (by omega)
      have htu':=htu t v l (dh h hv4) hk
      have ho:=mK (t:=t) (l:=l) hv4
      have hr:=jW t v l
      have hst2:ja t v l=if v.aq=5∧(aA t v l).1=0 then ({ (aA t v l).2 with aq:=0,which:=0,time:=0 },iL t (aA t v l).2 l)
        else (eZ t (aA t v l).2 l (aA t v l).1 v.aq,mJ t (eZ t (aA t v l).2 l (aA t v l).1 v.aq) l (aA t v l).1):=if_neg (by rw [hT1]; decide)
      rw [hst2] at hre
      generalize (aA t v l).2=w at *
      obtain ⟨j,hj⟩:∃ j:Nat,(aA t v l).1=j:=⟨(aA t v l).1.toNat,by omega⟩
      rw [hj] at htu' hre hr
      have hj6:j < 6:=by omega
      have hy:0≤(k:Int)∧(k:Int) < 6:=by omega
      have hy2:0≤(j:Int)∧(j:Int) < 6:=by omega
      have w0:=q0 w ho
      have w1:=q1 w ho
      have w2:=q2 w ho
      try simp only [I,B,D,RY,↓ KW,seval,qs,c1,c2,c3,c4,hy,hg,e1,e2,e3,e4,e5,e6,f1,f2,ffill,f0,fz,hn,hn2,hzl,kA,List.nil_append,v0,v1,v2,v3,v4]
      refine ⟨rfl,aS htu' ?_⟩
      try simp only [I,B,D,RY,↓ KW,seval,qs,e1,e2,e3,e4,e5,e6,f1,f2,ffill,f0,fz,hn,hn2,hzl,kA,List.nil_append,v0,v1,v2,v3,v4,w0,w1,w2]
      cases d1:((k:Int) == 5)
      rotate_left
      cases d2:((j:Int) == 0)
      rotate_left
      · have s1:=q3 w ho 0
        have s2:=q4 { w with aq:=0 } ho 0
        have s3:=q5 { w with aq:=0,which:=0 } ho 0
        obtain ⟨y,hyy⟩:∃ y:Pr,y={ w with aq:=0,which:=0,time:=0 }:=⟨_,rfl⟩
        have hy4:y.held.length=4:=by rw [hyy]; exact ho
        rw [← hyy] at s3 hre
        have hxx:v.aq=5∧(j:Int)=0:=⟨by rw [hk]; simpa using d1,by simpa using d2⟩
        rw [if_pos hxx] at hre
        have y0:=q0 y hy4
        have y1:=q1 y hy4
        have y2:=q2 y hy4
        have y3:=Pr.len hy4
        have y4:=Pr.whole hy4
        have y5:=k8 y hy4
        have l1:=q2 { w with aq:=0 } ho
        have l2:=q2 { w with aq:=0,which:=0 } ho
        try simp only [I,B,D,RY,↓ KW,seval,qs,d1,d2,e1,e2,e3,e4,e5,e6,f1,f2,ffill,f0,fz,hn,hn2,hzl,kA,List.nil_append,v0,v1,v2,v3,v4,w0,w1,w2]
        refine ⟨rfl,aS (bC (hB t w l (dh h ho)) rfl (Nat.le_of_ble_eq_true rfl)) ?_⟩
        try simp only [I,B,D,RY,↓ KW,seval,qs,e1,e2,e3,e4,e5,e6,f1,f2,ffill,f0,fz,hn,hn2,hzl,kA,List.nil_append,v0,v1,v2,v3,v4,w0,w1,w2,s1,s2,s3,y0,y1,y2,y3,y4,y5,l1,l2]
        refine p8 rfl ?_
        try simp only [I,B,D,RY,↓ KW,seval,qs,e1,e2,e3,e4,e5,e6,f1,f2,ffill,f0,fz,hn,hn2,hzl,kA,List.nil_append,v0,v1,v2,v3,v4,w0,w1,w2,s1,s2,s3,y0,y1,y2,y3,y4,y5,l1,l2]
        rw [hre]
      all_goals
        have hxx:¬ (v.aq=5∧(j:Int)=0):=by
          rintro ⟨a,b⟩
          rw [hk] at a
          simp_all
        rw [if_neg hxx] at hre
        obtain ⟨g2,hg2,hdo⟩:=hDo j hj6
        have s1:=q3 w ho j
        obtain ⟨y,hyy⟩:∃ y:Pr,y=eZ t w l j v.aq:=⟨_,rfl⟩
        have hy4:y.held.length=4:=by rw [hyy]; exact ho
        have s2:∀ x,x=mI t { w with aq:=(j:Int) } l ((j:Int) != (k:Int))→setCells (cj t { w with aq:=(j:Int) } l) 133 [I x]=cj t y l:=fun x hx=>by
          rw [q5 { w with aq:=(j:Int) } ho x,hx,hyy,eZ,hk]
        have s2':=s2 _ rfl
        rw [← hyy] at hre
        have y0:=q0 y hy4
        have y1:=q1 y hy4
        have y2:=q2 y hy4
        have y3:=Pr.len hy4
        have y4:=Pr.whole hy4
        have y5:=k8 y hy4
        have l1:=q2 { w with aq:=(j:Int) } ho
        have ht3:=hT t { w with aq:=(j:Int) } l ((j:Int) != (k:Int)) (dh h ho)
        try try simp only [I,B,D,RY,↓ KW,seval,d1,e1,e2,e3,e4,e5,e6,f1,f2,ffill,f0,fz,hn,hn2,hzl,kA,List.nil_append,v0,v1,v2,v3,v4,w0,w1,w2,s1,s2',y0,y1,y2,y3,y4,y5,l1,hy2,hg2,qs]
        try try simp only [I,B,D,RY,↓ KW,seval,d2,e1,e2,e3,e4,e5,e6,f1,f2,ffill,f0,fz,hn,hn2,hzl,kA,List.nil_append,v0,v1,v2,v3,v4,w0,w1,w2,s1,s2',y0,y1,y2,y3,y4,y5,l1,hy2,hg2,qs]
        refine ⟨rfl,aS (bC ht3 rfl (Nat.le_of_ble_eq_true rfl)) ?_⟩
        try simp only [I,B,D,RY,↓ KW,seval,qs,e1,e2,e3,e4,e5,e6,f1,f2,ffill,f0,fz,hn,hn2,hzl,kA,List.nil_append,v0,v1,v2,v3,v4,w0,w1,w2,s1,s2',y0,y1,y2,y3,y4,y5,l1,hy2,hg2]
        refine i7 [9] rfl ?_
        try simp only [I,B,D,RY,↓ KW,seval,qs,e1,e2,e3,e4,e5,e6,f1,f2,ffill,f0,fz,hn,hn2,hzl,kA,List.nil_append,v0,v1,v2,v3,v4,w0,w1,w2,s1,s2',y0,y1,y2,y3,y4,y5,l1,hy2,hg2]
        refine ⟨rfl,bX (bC (hdo t y l (dh h hy4)) rfl (Nat.le_of_ble_eq_true rfl)) ?_⟩
        try simp only [I,B,D,RY,↓ KW,seval,qs,e1,e2,e3,e4,e5,e6,f1,f2,ffill,f0,fz,hn,hn2,hzl,kA,List.nil_append,v0,v1,v2,v3,v4,w0,w1,w2,s1,s2',y0,y1,y2,y3,y4,y5,l1,hy2,hg2]
        rw [hre]
    · cases c2:((k:Int) == 0)
      rotate_left
      · have hT1:eV t v=true:=by rw [hT0,c1,c2]; rfl
        have c3:True:=trivial
        have c4:True:=trivial
        have s1:=q3 v hv4 1
        have s2:=q4 { v with aq:=1 } hv4 (aJ t v)
        have s3:=q5 { v with aq:=1,which:=aJ t v } hv4 0
        have ht1:ja t v l=({ v with aq:=1,which:=aJ t v,time:=0 },k7 t { v with aq:=1,which:=aJ t v,time:=0 } l):=if_pos hT1
        obtain ⟨y,hy⟩:∃ y:Pr,y={ v with aq:=1,which:=aJ t v,time:=0 }:=⟨_,rfl⟩
        have hy4:y.held.length=4:=by rw [hy]; exact hv4
        rw [← hy] at ht1 s3
        have y0:=q0 y hy4
        have y1:=q1 y hy4
        have y2:=q2 y hy4
        have y3:=Pr.len hy4
        have y4:=Pr.whole hy4
        have y5:=k8 y hy4
        have l1:=q2 { v with aq:=1 } hv4
        have l2:=q2 { v with aq:=1,which:=aJ t v } hv4
        try simp only [I,B,D,RY,↓ KW,seval,qs,c1,c2,c3,c4,e1,e2,e3,e4,e5,e6,f1,f2,ffill,f0,fz,hn,hn2,hzl,kA,List.nil_append,v0,v1,v2,v3,v4,s1,s2,s3,y0,y1,y2,y3,y4,y5,l1,l2]
        refine i7 [5] rfl ?_
        try simp only [I,B,D,RY,↓ KW,seval,qs,e1,e2,e3,e4,e5,e6,f1,f2,ffill,f0,fz,hn,hn2,hzl,kA,List.nil_append,v0,v1,v2,v3,v4,s1,s2,s3,y0,y1,y2,y3,y4,y5,l1,l2]
        refine ⟨rfl,bX (bC (hE t y l (dh h hy4)) rfl (Nat.le_of_ble_eq_true rfl)) ?_⟩
        try simp only [I,B,D,RY,↓ KW,seval,qs,e1,e2,e3,e4,e5,e6,f1,f2,ffill,f0,fz,hn,hn2,hzl,kA,List.nil_append,v0,v1,v2,v3,v4,s1,s2,s3,y0,y1,y2,y3,y4,y5,l1,l2]
        rw [hre,ht1]
      · cases c3:((k:Int) == 5)
        rotate_left
        · have hT1:eV t v=true:=by rw [hT0,c1,c2,c3]; rfl
          have c4:True:=trivial
          have s1:=q3 v hv4 1
          have s2:=q4 { v with aq:=1 } hv4 (aJ t v)
          have s3:=q5 { v with aq:=1,which:=aJ t v } hv4 0
          have ht1:ja t v l=({ v with aq:=1,which:=aJ t v,time:=0 },k7 t { v with aq:=1,which:=aJ t v,time:=0 } l):=if_pos hT1
          obtain ⟨y,hy⟩:∃ y:Pr,y={ v with aq:=1,which:=aJ t v,time:=0 }:=⟨_,rfl⟩
          have hy4:y.held.length=4:=by rw [hy]; exact hv4
          rw [← hy] at ht1 s3
          have y0:=q0 y hy4
          have y1:=q1 y hy4
          have y2:=q2 y hy4
          have y3:=Pr.len hy4
          have y4:=Pr.whole hy4
          have y5:=k8 y hy4
          have l1:=q2 { v with aq:=1 } hv4
          have l2:=q2 { v with aq:=1,which:=aJ t v } hv4
          try simp only [I,B,D,RY,↓ KW,seval,qs,c1,c2,c3,c4,e1,e2,e3,e4,e5,e6,f1,f2,ffill,f0,fz,hn,hn2,hzl,kA,List.nil_append,v0,v1,v2,v3,v4,s1,s2,s3,y0,y1,y2,y3,y4,y5,l1,l2]
          refine i7 [5] rfl ?_
          try simp only [I,B,D,RY,↓ KW,seval,qs,e1,e2,e3,e4,e5,e6,f1,f2,ffill,f0,fz,hn,hn2,hzl,kA,List.nil_append,v0,v1,v2,v3,v4,s1,s2,s3,y0,y1,y2,y3,y4,y5,l1,l2]
          refine ⟨rfl,bX (bC (hE t y l (dh h hy4)) rfl (Nat.le_of_ble_eq_true rfl)) ?_⟩
          try simp only [I,B,D,RY,↓ KW,seval,qs,e1,e2,e3,e4,e5,e6,f1,f2,ffill,f0,fz,hn,hn2,hzl,kA,List.nil_append,v0,v1,v2,v3,v4,s1,s2,s3,y0,y1,y2,y3,y4,y5,l1,l2]
          rw [hre,ht1]
        · cases c4:decide (aJ t v < v.which)
          rotate_left
          · have hT1:eV t v=true:=by rw [hT0,c1,c2,c3,c4]; rfl
            have s1:=q3 v hv4 1
            have s2:=q4 { v with aq:=1 } hv4 (aJ t v)
            have s3:=q5 { v with aq:=1,which:=aJ t v } hv4 0
            have ht1:ja t v l=({ v with aq:=1,which:=aJ t v,time:=0 },k7 t { v with aq:=1,which:=aJ t v,time:=0 } l):=if_pos hT1
            obtain ⟨y,hy⟩:∃ y:Pr,y={ v with aq:=1,which:=aJ t v,time:=0 }:=⟨_,rfl⟩
            have hy4:y.held.length=4:=by rw [hy]; exact hv4
            rw [← hy] at ht1 s3
            have y0:=q0 y hy4
            have y1:=q1 y hy4
            have y2:=q2 y hy4
            have y3:=Pr.len hy4
            have y4:=Pr.whole hy4
            have y5:=k8 y hy4
            have l1:=q2 { v with aq:=1 } hv4
            have l2:=q2 { v with aq:=1,which:=aJ t v } hv4
            try simp only [I,B,D,RY,↓ KW,seval,qs,c1,c2,c3,c4,e1,e2,e3,e4,e5,e6,f1,f2,ffill,f0,fz,hn,hn2,hzl,kA,List.nil_append,v0,v1,v2,v3,v4,s1,s2,s3,y0,y1,y2,y3,y4,y5,l1,l2]
            refine i7 [5] rfl ?_
            try simp only [I,B,D,RY,↓ KW,seval,qs,e1,e2,e3,e4,e5,e6,f1,f2,ffill,f0,fz,hn,hn2,hzl,kA,List.nil_append,v0,v1,v2,v3,v4,s1,s2,s3,y0,y1,y2,y3,y4,y5,l1,l2]
            refine ⟨rfl,bX (bC (hE t y l (dh h hy4)) rfl (Nat.le_of_ble_eq_true rfl)) ?_⟩
            try simp only [I,B,D,RY,↓ KW,seval,qs,e1,e2,e3,e4,e5,e6,f1,f2,ffill,f0,fz,hn,hn2,hzl,kA,List.nil_append,v0,v1,v2,v3,v4,s1,s2,s3,y0,y1,y2,y3,y4,y5,l1,l2]
            rw [hre,ht1]
          · have hT1:eV t v=false:=by rw [hT0,c1,c2,c3,c4]; rfl
            obtain ⟨g,hg,htu⟩:=hTu k (by omega)
            have htu':=htu t v l (dh h hv4) hk
            have ho:=mK (t:=t) (l:=l) hv4
            have hr:=jW t v l
            have hst2:ja t v l=if v.aq=5∧(aA t v l).1=0 then ({ (aA t v l).2 with aq:=0,which:=0,time:=0 },iL t (aA t v l).2 l)
              else (eZ t (aA t v l).2 l (aA t v l).1 v.aq,mJ t (eZ t (aA t v l).2 l (aA t v l).1 v.aq) l (aA t v l).1):=if_neg (by rw [hT1]; decide)
            rw [hst2] at hre
            generalize (aA t v l).2=w at *
            obtain ⟨j,hj⟩:∃ j:Nat,(aA t v l).1=j:=⟨(aA t v l).1.toNat,by omega⟩
            rw [hj] at htu' hre hr
            have hj6:j < 6:=by omega
            have hy:0≤(k:Int)∧(k:Int) < 6:=by omega
            have hy2:0≤(j:Int)∧(j:Int) < 6:=by omega
            have w0:=q0 w ho
            have w1:=q1 w ho
            have w2:=q2 w ho
            try simp only [I,B,D,RY,↓ KW,seval,qs,c1,c2,c3,c4,hy,hg,e1,e2,e3,e4,e5,e6,f1,f2,ffill,f0,fz,hn,hn2,hzl,kA,List.nil_append,v0,v1,v2,v3,v4]
            refine ⟨rfl,aS htu' ?_⟩
            try simp only [I,B,D,RY,↓ KW,seval,qs,e1,e2,e3,e4,e5,e6,f1,f2,ffill,f0,fz,hn,hn2,hzl,kA,List.nil_append,v0,v1,v2,v3,v4,w0,w1,w2]
            have d1:=c3
            have d2:True:=trivial
            all_goals
              have hxx:¬ (v.aq=5∧(j:Int)=0):=by
                rintro ⟨a,b⟩
                rw [hk] at a
                simp_all
              rw [if_neg hxx] at hre
              obtain ⟨g2,hg2,hdo⟩:=hDo j hj6
              have s1:=q3 w ho j
              obtain ⟨y,hyy⟩:∃ y:Pr,y=eZ t w l j v.aq:=⟨_,rfl⟩
              have hy4:y.held.length=4:=by rw [hyy]; exact ho
              have s2:∀ x,x=mI t { w with aq:=(j:Int) } l ((j:Int) != (k:Int))→setCells (cj t { w with aq:=(j:Int) } l) 133 [I x]=cj t y l:=fun x hx=>by
                rw [q5 { w with aq:=(j:Int) } ho x,hx,hyy,eZ,hk]
              have s2':=s2 _ rfl
              rw [← hyy] at hre
              have y0:=q0 y hy4
              have y1:=q1 y hy4
              have y2:=q2 y hy4
              have y3:=Pr.len hy4
              have y4:=Pr.whole hy4
              have y5:=k8 y hy4
              have l1:=q2 { w with aq:=(j:Int) } ho
              have ht3:=hT t { w with aq:=(j:Int) } l ((j:Int) != (k:Int)) (dh h ho)
              try try simp only [I,B,D,RY,↓ KW,seval,d1,e1,e2,e3,e4,e5,e6,f1,f2,ffill,f0,fz,hn,hn2,hzl,kA,List.nil_append,v0,v1,v2,v3,v4,w0,w1,w2,s1,s2',y0,y1,y2,y3,y4,y5,l1,hy2,hg2,qs]
              try try simp only [I,B,D,RY,↓ KW,seval,d2,e1,e2,e3,e4,e5,e6,f1,f2,ffill,f0,fz,hn,hn2,hzl,kA,List.nil_append,v0,v1,v2,v3,v4,w0,w1,w2,s1,s2',y0,y1,y2,y3,y4,y5,l1,hy2,hg2,qs]
              refine ⟨rfl,aS (bC ht3 rfl (Nat.le_of_ble_eq_true rfl)) ?_⟩
              try simp only [I,B,D,RY,↓ KW,seval,qs,e1,e2,e3,e4,e5,e6,f1,f2,ffill,f0,fz,hn,hn2,hzl,kA,List.nil_append,v0,v1,v2,v3,v4,w0,w1,w2,s1,s2',y0,y1,y2,y3,y4,y5,l1,hy2,hg2]
              refine i7 [9] rfl ?_
              try simp only [I,B,D,RY,↓ KW,seval,qs,e1,e2,e3,e4,e5,e6,f1,f2,ffill,f0,fz,hn,hn2,hzl,kA,List.nil_append,v0,v1,v2,v3,v4,w0,w1,w2,s1,s2',y0,y1,y2,y3,y4,y5,l1,hy2,hg2]
              refine ⟨rfl,bX (bC (hdo t y l (dh h hy4)) rfl (Nat.le_of_ble_eq_true rfl)) ?_⟩
              try simp only [I,B,D,RY,↓ KW,seval,qs,e1,e2,e3,e4,e5,e6,f1,f2,ffill,f0,fz,hn,hn2,hzl,kA,List.nil_append,v0,v1,v2,v3,v4,w0,w1,w2,s1,s2',y0,y1,y2,y3,y4,y5,l1,hy2,hg2]
              rw [hre]
end
end Go.Eng
namespace Go.Eng
open Go
def vr (l:List Rn):Nat→Int
 | 0=>0
 | k + 1=>if cn (aT l k) then eN (vr l k) k else vr l k
theorem Ej (l:List Rn):∀ k,k≤8→vr l k=k6 (fun p=>cn (aT l p)) k
 | 0,_=>rfl
 | k + 1,h=>by
  simp only [vr,k6,Ej l k (by omega)]
  split
  ·rw [MI (by omega)]
  ·rfl
def xM (l:List Rn):Int:=CU fun p=>cn (aT l p)
def Ek.Spec (C:bk) (f:Nat):Prop:=∀ r:Rn,C.c f [.agg r.cells] (B (cn r)) none
def zT.Spec (C:bk) (f:Nat):Prop:=∀ l:List Rn,l.length=8→C.c f [.agg (bZ l)] (I (xM l)) none
section
variable {P:Program} (hm:P.follows .mixedOrders=true) {f:Nat}
include hm
theorem Ek.ok (hc:aL P f=some pO):Ek.Spec (Pure P) f:=by
 intro r
 refine an hm hc (by show 1≤16; decide) (aj (keep:=[]) (i:=0) ?_)
 try simp only [I,B,D,RX,↓ KW,seval,pO,Z.H,Rn.cells]
 repeat' (((first | refine aV ?_ ?_ | refine ax ?_ ?_ | refine bq ?_ ?_)<;>intro h)<;>try simp only [I,B,D,RX,↓ KW,seval,Rn.cells,h])
 all_goals (try simp only [cn])
 all_goals (cases e1:(r.aC != 1)<;>cases e2:(r.aC != 2)<;>simp_all [B])
theorem zT.ok {fR fW:Nat} (hc:aL P f=some (oa fR fW)) (hR:Ek.Spec (Pure P) fR) (hW:pF.Spec (Pure P) fW):zT.Spec (Pure P) f:=by
 intro l hl
 refine an hm hc (by show 1≤17; decide) (aj (keep:=[]) (i:=0) ?_)
 try simp only [I,B,D,RX,↓ KW,seval,oa,Z.H]
 refine aF (fun k:Nat=>(⟨[(4,.dat (I k) none),(1,.ptr 4 0),(3,.dat (I (vr l k)) none)],[(4,⟨bZ l,[]⟩)],[],400⟩:S)) (fun k=>8 - k) (fun k=>k≤8) ?_ 0 (by omega) ?_
 ·intro k hk A back
  have hw:=aB (k:=k) (by omega)
  try simp only [I,B,D,RX,↓ KW,seval]
  refine ax (fun h=>?_) (fun h=>?_)<;>try simp only [I,B,D,RX,↓ KW,seval,h]
  ·have h8:k < 8:=by have:=of_decide_eq_true h; omega
   have hat:=iP hl h8
   have hn:vr l (k + 1)=if cn (aT l k) then eN (vr l k) k else vr l k:=rfl
   have hat:aD (bZ l) (k * 12) (some 12)=some (.agg (aT l k).cells):=hat
   generalize aT l k=r at *
   refine ⟨by omega,?_⟩
   try simp only [I,B,D,RX,↓ KW,seval,hat]
   refine af (hR r) ?_
   try simp only [I,B,D,RX,↓ KW,seval]
   cases h2:cn r
   ·try simp only [I,B,D,RX,↓ KW,seval]
    refine back (k + 1) _ (by omega) (by omega) (ai (by decide) ?_ ?_ ?_ ?_)<;>simp [LX,I,B,D,hw,hn,h2]
   ·try simp only [I,B,D,RX,↓ KW,seval]
    refine af (hW _ _) ?_
    try simp only [I,B,D,RX,↓ KW,seval]
    refine back (k + 1) _ (by omega) (by omega) (ai (by decide) ?_ ?_ ?_ ?_)<;>simp [LX,I,B,D,hw,hn,h2]
  ·have:k=8:=by have:=of_decide_eq_false h; omega
   subst this
   have hf:=Ej l 8 (by omega)
   try simp only [I,B,D,RX,↓ KW,seval]
   rw [hf]; rfl
 ·refine ai (by decide) ?_ ?_ ?_ ?_<;>simp [LX,I,B,D,vr]
end
end Go.Eng
