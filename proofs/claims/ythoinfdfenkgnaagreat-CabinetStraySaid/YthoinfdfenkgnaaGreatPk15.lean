/- The engine and the library,part 15 of 18: what the proofs of this seat need of them. -/
import Derived.Test.YthoinfdfenkgnaaGreatPk14
set_option linter.unnecessarySimpa false
set_option linter.unusedSimpArgs false
set_option linter.unusedVariables false
set_option linter.defProp false
set_option maxRecDepth 10000
set_option maxHeartbeats 4000000
namespace Go.Eng
open Go
section
variable{P:Program} (hm:P.follows .mixedOrders=true) {f:Nat}
include hm
theorem Da.ok{fC:Nat} (hc:bF P f=some (vr fC)) (hC:Il.Spec (Pure P) fC):Da.Spec (Pure P) f:=by
 intro a b held tail out x
 have hE:RU a b held tail out x=if(!x&&(held==0&&(tail==0&&out==false)))=true then(held,tail,out)
  else if decide ((if x then cV held else 0)>c9 a)=true then((if x then cV held else 0),c9 b,true)
  else if(out&&decide (c9 tail>0))=true then((if x then cV held else 0),c9 tail-1,true)
  else((if x then cV held else 0),0,false):=by simp only[RU,decide_eq_true_eq]
 have hw:IntKind.i64.wrap (c9 held+1)=cV held:=by
  have:0<=c9 held/\c9 held<=9999:=by unfold c9 fj;split<;>(try split)<;>omega
  rfl
 have hw2:IntKind.i64.wrap (c9 tail-1)=c9 tail-1:=by
  have:0<=c9 tail/\c9 tail<=9999:=by unfold c9 fj;split<;>(try split)<;>omega
  rw[aW (by omega) (by omega)]
 generalize RU a b held tail out x=res at*
 refine ak hm hc (by show 4<=50;decide) (aj (keep:=[]) (i:=0) ?_)
 try simp only[I,B,RX,↓KW,seval,vr,Z.H]
 have qe:bZ [.i,.i,.b] [.int .i64 held,.int .i64 tail,.bool out] [.int .i64 0,.int .i64 0,.bool false]=some (held==0&&(tail==0&&out==false)):=by
  simp[bZ,pU]
 have qf:(false !=false)=false:=rfl
 have qt:(true !=false)=true:=rfl
 rcases bc x with hx|hx
 ·try simp only[RX,↓KW,seval,hx,qe]
  rcases bc (held==0&&(tail==0&&out==false))with h1|h1
  ·try simp only[RX,↓KW,seval,h1,qf]
   refine af (hC _) ?_;try simp only[I,RX,↓KW,seval]
   refine af (hC _) ?_;try simp only[I,RX,↓KW,seval]
   rcases bc (decide (0>c9 a))with h2|h2
   ·try simp only[RX,↓KW,seval,h2]
    rcases bc out with h3|h3
    ·try simp only[RX,↓KW,seval,h3]
     rw[hE,hx,h1];simp only[h2,h3,Bool.not_false,Bool.false_and,Bool.and_false,Bool.false_eq_true,if_false]
    ·try simp only[RX,↓KW,seval,h3]
     rcases bc (decide (c9 tail>0))with h4|h4
     ·try simp only[RX,↓KW,seval,h4]
      rw[hE,hx,h1];simp only[h2,h3,h4,Bool.not_false,Bool.and_false,Bool.false_eq_true,if_false]
     ·try simp only[RX,↓KW,seval,h4,hw2]
      rw[hE,hx,h1];simp only[h2,h3,h4,Bool.not_false,Bool.and_true,Bool.and_false,Bool.false_eq_true,if_true,if_false]
   ·try simp only[RX,↓KW,seval,h2]
    refine af (hC b) ?_;try simp only[I,RX,↓KW,seval]
    rw[hE,hx,h1];simp only[h2,Bool.not_false,Bool.and_false,Bool.false_eq_true,if_true,if_false]
  ·try simp only[RX,↓KW,seval,h1,qt]
   rw[hE,hx,h1];rfl
 ·try simp only[RX,↓KW,seval,hx]
  refine af (hC _) ?_;try simp only[I,RX,↓KW,seval,hw]
  refine af (hC _) ?_;try simp only[I,RX,↓KW,seval]
  refine af (hC _) ?_;try simp only[I,RX,↓KW,seval]
  rcases bc (decide (cV held>c9 a))with h2|h2
  ·try simp only[RX,↓KW,seval,h2]
   rcases bc out with h3|h3
   ·try simp only[RX,↓KW,seval,h3]
    rw[hE,hx];simp only[h2,h3,Bool.not_true,Bool.false_and,Bool.false_eq_true,if_true,if_false]
   ·try simp only[RX,↓KW,seval,h3]
    rcases bc (decide (c9 tail>0))with h4|h4
    ·try simp only[RX,↓KW,seval,h4]
     rw[hE,hx];simp only[h2,h3,h4,Bool.not_true,Bool.false_and,Bool.and_false,Bool.false_eq_true,if_true,if_false]
    ·try simp only[RX,↓KW,seval,h4,hw2]
     rw[hE,hx];simp only[h2,h3,h4,Bool.not_true,Bool.false_and,Bool.and_true,Bool.false_eq_true,if_true,if_false]
  ·try simp only[RX,↓KW,seval,h2]
   refine af (hC b) ?_;try simp only[I,RX,↓KW,seval]
   rw[hE,hx];simp only[h2,Bool.not_true,Bool.false_and,Bool.false_eq_true,if_true,if_false]
theorem Io.ok(hc:bF P f=some lu):Io.Spec (Pure P) f:=by
 intro l k hl
 have hr:∀x,iZ x=[fv x]:=fun _=>rfl
 refine ak hm hc (by show 3<=16;decide) (aj (keep:=[]) (i:=0) ?_)
 try simp only[I,RX,↓KW,seval,lu,Z.H,OK]
 rcases bc (decide ((k:Int)<((l.getD []).length:Int)))with h|h
 ·have h1:(l.getD []).length<=k:=by have:=of_decide_eq_false h;omega
  have h2:Ik (l.getD []) k=none:=by simp[Ik,h1]
  try simp only[RX,↓KW,seval,h]
  rw[h2];rfl
 ·have h1:k<(l.getD []).length:=by have:=of_decide_eq_true h;omega
  obtain⟨x,hx⟩:∃x,(l.getD [])[k]? =some x:=⟨_,List.getElem?_eq_getElem h1⟩
  have h2:Ik (l.getD []) k=x:=by rw[Ik,List.getD_eq_getElem?_getD,hx];rfl
  have hy:0<=(k:Int)/\(k:Int)<((l.getD []).length:Int):=by omega
  try simp only[RX,↓KW,seval,hx,hy,hr]
  rw[h2]
end
def Db.Spec(C:aS) (f:Nat):Prop:=∀(t:Tb) (l:Option (List Ch)) (x:Option (List (Option Nat))),t.Ok->t.Fw->(l.getD []).length<=1000000->(x.getD []).length<=1000000->C.c f [.agg t.cells,aH Ch.cells l,aH iZ x] (aH Ch.cells (dH (og t (l.getD []) (x.getD []) (t.aM.getD []).length))) none
section
variable{P:Program} (hm:P.follows .mixedOrders=true) {f:Nat}
include hm
theorem Im.ok(hc:bF P f=some iW):Im.Spec (Pure P) f:=by
 intro l k hl
 have hz:(Ch.cells default).length=7:=rfl
 have hz2:ay (Ch.cells default) 0 (some 7)=some (.agg (Ch.cells default)):=rfl
 have hq:∀x:Ch,x.cells.length=7/\ay x.cells 0 (some 7)=some (.agg x.cells)/\x.cells.take 7=x.cells:=fun _=>⟨rfl,rfl,rfl⟩
 refine ak hm hc (by show 3<=16;decide) (aj (keep:=[]) (i:=0) ?_)
 try simp only[I,RX,↓KW,seval,iW,Z.H]
 rcases bc (decide ((k:Int)<((l.getD []).length:Int)))with h|h
 ·have h1:(l.getD []).length<=k:=by have:=of_decide_eq_false h;omega
  have h2:CX (l.getD []) k=default:=by simp[CX,h1]
  try simp only[RX,↓KW,seval,h,hz,hz2]
  rw[h2]
 ·have h1:k<(l.getD []).length:=by have:=of_decide_eq_true h;omega
  obtain⟨x,hx⟩:∃x,(l.getD [])[k]? =some x:=⟨_,List.getElem?_eq_getElem h1⟩
  have h2:CX (l.getD []) k=x:=by rw[CX,List.getD_eq_getElem?_getD,hx];rfl
  have hy:0<=(k:Int)/\(k:Int)<((l.getD []).length:Int):=by omega
  try simp only[RX,↓KW,seval,hx,hy,hq]
  rw[h2]
theorem Db.ok{fA fN fF fL fS fG fT fY e:Nat} (hc:bF P f=some (nv fA fN fF fL fS fG fT fY e)) (hA:Im.Spec (Pure P) fA) (hN:Mb.Spec (Pure P) fN) (hF:Io.Spec (Pure P) fF) (hL:CY.Spec (Pure P) fL) (hS:CZ.Spec (Pure P) fS) (hG:C0.Spec (Pure P) fG) (hT:yw.Spec (Pure P) fT) (hY:Da.Spec (Pure P) fY):Db.Spec (Pure P) f:=by
 intro t l x ht hfw hll hxl
 have hd:=ht.ln.NI
 have hdl:=ht.YL
 refine ak hm hc (by show 3<=59;decide) (aj (keep:=[]) (i:=0) ?_)
 try simp only[RX,↓KW,seval,nv,Z.H,hd]
 refine aG (fun k:Nat=>(⟨[(16,.dat (I k) none),(15,.dat (I (t.aM.getD []).length) none),(14,.dat (aH nL.cells t.aM) none),(1,.dat (aH Ch.cells l) none),(2,.dat (aH iZ x) none),(7,bG Ch.cells (og t (l.getD []) (x.getD []) k) 0)],[],bK (og t (l.getD []) (x.getD []) k) 0 e,400⟩:S)) (fun k=>(t.aM.getD []).length-k) (fun k=>k<=(t.aM.getD []).length) ?_ 0 (by omega) ?_
 ·intro k hk A back
  have hwr:=aB (k:=k) (by omega)
  have hn1:og t (l.getD []) (x.getD []) (k+1)=og t (l.getD []) (x.getD []) k++[Ju (HE t k) (CX (l.getD []) k) (Ik (x.getD []) k)]:=by simp[og,List.range_succ]
  try simp only[I,RX,↓KW,seval]
  rcases bc (decide ((k:Int)<((t.aM.getD []).length:Int)))with h|h
  ·have hk':k=(t.aM.getD []).length:=by have:=of_decide_eq_false h;omega
   subst hk'
   by_cases hc0:og t (l.getD []) (x.getD []) (t.aM.getD []).length=[]
   ·try simp only[RX,↓KW,seval,h,bG,bK,hc0]
    rfl
   ·try simp only[RX,↓KW,seval,h,bG,bK,hc0]
    simp[aH,dH,hc0]
  ·have h1:k<(t.aM.getD []).length:=by have:=of_decide_eq_true h;omega
   obtain⟨d,hx⟩:∃d,(t.aM.getD [])[k]? =some d:=⟨_,List.getElem?_eq_getElem h1⟩
   have hd2:HE t k=d:=by rw[HE,List.getD_eq_getElem?_getD,hx];rfl
   have hdw:d.Fw:=hfw d (List.mem_of_getElem? hx)
   have hy:0<=(k:Int)/\(k:Int)<((t.aM.getD []).length:Int):=by omega
   have hq:d.cells.length=7/\ay d.cells 0 (some 7)=some (.agg d.cells)/\d.cells.take 7=d.cells/\d.cells[3]? =some (Fl d.delay)/\d.cells[4]? =some (Fl d.extend):=⟨rfl,rfl,rfl,rfl,rfl⟩
   generalize hcs:og t (l.getD []) (x.getD []) k=cs at*
   obtain⟨c,hcc⟩:∃c,CX (l.getD []) k=c:=⟨_,rfl⟩
   obtain⟨v,hv⟩:∃v,Ik (x.getD []) k=v:=⟨_,rfl⟩
   have cA:=hA l k hll
   have cF:=hF x k hxl
   rw[hcc]at cA;rw[hv]at cF;rw[hd2,hcc,hv]at hn1
   by_cases hc0:cs=[]
   all_goals
    try simp only[RX,↓KW,seval,bG,bK,hc0,hx,hy,hq]
    refine af cA ?_;try simp only[I,B,RX,↓KW,seval,Ch.cells,hq]
    refine af hN ?_;try simp only[RX,↓KW,seval]
    refine af cF ?_;try simp only[RX,↓KW,seval]
    refine af (hL d c.on c.dU v) ?_;try simp only[I,B,RX,↓KW,seval]
    refine af (hS _ _) ?_;try simp only[B,RX,↓KW,seval]
    refine af (hG _ _ _) ?_;try simp only[I,RX,↓KW,seval,hq]
    refine af (hT d.delay (by obtain⟨_,_,h,_⟩:=hdw;exact h)) ?_
    try simp only[I,RX,↓KW,seval,hq]
    refine af (hT d.extend (by obtain⟨_,_,_,h⟩:=hdw;exact h)) ?_
    try simp only[I,RX,↓KW,seval]
    refine af (hY _ _ _ _ _ _) ?_;try simp only[I,B,RX,↓KW,seval,Ch.cells]
    first
     |refine back (k+1) _ (by omega) (by omega) ?_
     |(have hcl:cs.length=k:=by{rw[<-hcs];simp[og]}
       refine⟨by omega,back (k+1) _ (by omega) (by omega) ?_⟩)
    refine ai (by decide) ?_ ?_ ?_ ?_<;>simp[LX,I,B,hn1,hc0,hwr,bG,bK,Ju,Ch.cells]
 ·refine ai (by decide) ?_ ?_ ?_ ?_<;>simp[LX,I,bG,bK,og]
end
def Dc(t:Tb) (l:List Ch):Nat:=min l.length (t.aM.getD []).length
def Dd.Spec(C:aS) (f:Nat):Prop:=∀(t:Tb) (l:Option (List Ch)),t.Ok->(l.getD []).length<=1000000->C.c f [.agg t.cells,aH Ch.cells l] (I (jR t (l.getD []) (Dc t (l.getD [])))) none
section
variable{P:Program} (hm:P.follows .mixedOrders=true) {f:Nat}
include hm
theorem Dd.ok {fF fS fW:Nat} (hc:bF P f=some (tL fF fS fW)) (hF:zh.Spec (Pure P) fF) (hS:yu.Spec (Pure P) fS) (hW:gO.Spec (Pure P) fW):Dd.Spec (Pure P) f:=by
  intro t l ht hll
  have hd:=ht.ln.NI
  have hdl:=ht.YL
  refine ak hm hc (by show 2≤49; decide) (aj (keep:=[]) (i:=0) ?_)
  try simp only [I,RX,↓ KW,seval,tL,Z.H]
  refine aG (fun k:Nat=>(⟨[(11,.dat (I k) none),(10,.dat (I (l.getD []).length) none),(9,.dat (aH Ch.cells l) none),(2,.ptr 4 0),(5,.dat (I (jR t (l.getD []) k)) none)],[(4,⟨t.cells,[]⟩)],[],400⟩:S)) (fun k=>(l.getD []).length - k) (fun k=>k≤(l.getD []).length∧k≤(t.aM.getD []).length) ?_ 0 (by omega) ?_
  · rintro k ⟨hk,hkd⟩ A back
    have hwr:=aB (k:=k) (by omega)
    try simp only [I,RX,↓ KW,seval]
    rcases bc (decide ((k:Int) < ((l.getD []).length:Int))) with h|h
    · have hk':Dc t (l.getD [])=k:=by have:=of_decide_eq_false h; unfold Dc; omega
      try simp only [RX,↓ KW,seval,h]
      rw [hk']
    · have h1:k < (l.getD []).length:=by have:=of_decide_eq_true h; omega
      obtain ⟨c,hx⟩:∃ c,(l.getD [])[k]? = some c:=⟨_,List.getElem?_eq_getElem h1⟩
      have hcc:CX (l.getD []) k=c:=by rw [CX,List.getD_eq_getElem?_getD,hx]; rfl
      have hy:0≤(k:Int)∧(k:Int) < ((l.getD []).length:Int):=by omega
      try simp only [I,B,RX,↓ KW,seval,hx,hy,hd,Ch.cells]
      rcases bc (decide (((t.aM.getD []).length:Int)≤(k:Int))) with h2|h2
      · have h3:k < (t.aM.getD []).length:=by have:=of_decide_eq_false h2; omega
        obtain ⟨d,hx2⟩:∃ d,(t.aM.getD [])[k]? = some d:=⟨_,List.getElem?_eq_getElem h3⟩
        have hd2:HE t k=d:=by rw [HE,List.getD_eq_getElem?_getD,hx2]; rfl
        have hy2:0≤(k:Int)∧(k:Int) < ((t.aM.getD []).length:Int):=by omega
        have hq:d.cells.length=7∧ay d.cells 0 (some 7)=some (.agg d.cells)∧d.cells.take 7=d.cells∧d.cells[0]? = some (I d.phase)∧d.cells[5]? = some (I d.maxOn)∧d.cells[6]? = some (I d.sI):=⟨rfl,rfl,rfl,rfl,rfl,rfl⟩
        have hE:jR t (l.getD []) (k + 1)=if EN d c then d9 (jR t (l.getD []) k) d.phase else jR t (l.getD []) k:=by rw [jR,hd2,hcc]
        try simp only [RX,↓ KW,seval,h2,hx2,hy2,hd,hq]
        rcases bc c.out with a1|a1
        · try simp only [RX,↓ KW,seval,a1,hq]
          refine af (hF c.on c.dU) ?_
          try simp only [B,RX,↓ KW,seval]
          rcases bc (decide (c.dU ≥ 3)) with a2|a2
          · try simp only [I,RX,↓ KW,seval,a2,hq]
            refine af (hS d.maxOn d.sI c.Pe c.DR) ?_
            try simp only [B,RX,↓ KW,seval]
            rcases bc (RS d.maxOn d.sI c.Pe c.DR) with a3|a3
            · try simp only [RX,↓ KW,seval,a3]
              have hE2:jR t (l.getD []) (k + 1)=jR t (l.getD []) k:=by rw [hE]; simp only [EN,a1,a2,a3,Bool.or_self,Bool.false_eq_true,if_false]
              refine back (k + 1) _ (by omega) (by omega) ?_
              refine ai (by decide) ?_ ?_ ?_ ?_<;>simp [LX,I,hwr,hE2]
            · try simp only [I,RX,↓ KW,seval,a3,hq]
              have hE2:jR t (l.getD []) (k + 1)=d9 (jR t (l.getD []) k) d.phase:=by rw [hE]; simp only [EN,a1,a2,a3,Bool.or_true,if_true]
              refine af (hW _ _) ?_
              try simp only [I,RX,↓ KW,seval]
              refine back (k + 1) _ (by omega) (by omega) ?_
              refine ai (by decide) ?_ ?_ ?_ ?_<;>simp [LX,I,hwr,hE2]
          · try simp only [I,RX,↓ KW,seval,a2,hq]
            have hE2:jR t (l.getD []) (k + 1)=d9 (jR t (l.getD []) k) d.phase:=by rw [hE]; simp only [EN,a1,a2,Bool.or_true,Bool.true_or,if_true]
            refine af (hW _ _) ?_
            try simp only [I,RX,↓ KW,seval]
            refine back (k + 1) _ (by omega) (by omega) ?_
            refine ai (by decide) ?_ ?_ ?_ ?_<;>simp [LX,I,hwr,hE2]
        · try simp only [I,RX,↓ KW,seval,a1,hq]
          have hE2:jR t (l.getD []) (k + 1)=d9 (jR t (l.getD []) k) d.phase:=by rw [hE]; simp only [EN,a1,Bool.true_or,if_true]
          refine af (hW _ _) ?_
          try simp only [I,RX,↓ KW,seval]
          refine back (k + 1) _ (by omega) (by omega) ?_
          refine ai (by decide) ?_ ?_ ?_ ?_<;>simp [LX,I,hwr,hE2]
      · have hk':Dc t (l.getD [])=k:=by have:=of_decide_eq_true h2; unfold Dc; omega
        try simp only [RX,↓ KW,seval,h2]
        rw [hk']
  · refine ai (by decide) ?_ ?_ ?_ ?_<;>simp [LX,I,jR]
end
def F5(s:Pr):Pr:=if s.aq<0\/6<=s.aq then{s with aq:=0}else s
def VQ(t:Tb) (s:Pr) (lines:Int):Pr:=F5 (tB t s lines)
def gN(t:Tb) (s:Pr):Bool:=decide (aN t s>=0)&&(s.aq==0||(s.aq==5||decide (aN t s<s.which)))
def aI(t:Tb) (s:Pr) (l:List Rn):Int×Pr:=
 if s.aq=0 then(0,s)else if s.aq=1 then(uG t s l,s)else if s.aq=2 then(qF t s,s)
 else if s.aq=3 then(pO t s l,s)else if s.aq=4 then jQ t s else(uH t s l,s)
def Ar(t:Tb) (s:Pr) (l:List Rn) (to:Int):Ac:=
 if to=0 then⟨0,0,0,true,false⟩else if to=1 then lO t s l else if to=2 then OA t s l
 else if to=3 then HS t s l else if to=4 then OB t s l else OC t s l
def gp(t:Tb) (s:Pr) (l:List Rn) (to:Int) (was:Int):Pr:={s with aq:=to,time:=nu t {s with aq:=to} l (to !=was)}
def kf(t:Tb) (s:Pr) (l:List Rn):Pr×Ac:=
 if gN t s then({s with aq:=1,which:=aN t s,time:=0},lO t {s with aq:=1,which:=aN t s,time:=0} l)
 else if s.aq=5/\(aI t s l).1=0 then({(aI t s l).2 with aq:=0,which:=0,time:=0},z9 t (aI t s l).2 l)
 else(gp t (aI t s l).2 l (aI t s l).1 s.aq,Ar t (gp t (aI t s l).2 l (aI t s l).1 s.aq) l (aI t s l).1)
def De(t:Tb) (s:Pr) (lines:Int) (l:List Rn):Pr×Ac:=kf t (VQ t s lines) l
def Ip.Spec(C:aS) (f:Nat):Prop:=∀(t:Tb) (s:Pr) (lines:Int) (l:List Rn),lq t s l->C.c f [.agg t.cells,.agg s.cells,I lines,.agg (cz l)] (.cN [.agg (De t s lines l).1.cells,.agg (De t s lines l).2.cells]) none
def yx.Spec(C:aS) (f:Nat):Prop:=∃n:List AV,n.length=12/\je (.agg n)=false/\C.c f [] (.agg n) none/\
 (∀k:Nat,k<6->∃g,n[k*2]? =some (.fn (.func g) [] [])/\∀t s l,lq t s l->s.aq=k->C.p g [cI t s l] [none] (I (aI t s l).1) none [cI t (aI t s l).2 l])/\
 (∀k:Nat,k<6->∃g,n[k*2+1]? =some (.fn (.func g) [] [])/\∀t s l,lq t s l->C.c g [.ref (cI t s l)] (.agg (Ar t s l k).cells) none)
theorem EO{t:Tb} {s:Pr} (h:s.held.length=4):(iF t s).held.length=4:=by unfold iF;split<;>exact h
theorem Jv{t:Tb} {s:Pr} (h:s.held.length=4):(jQ t s).2.held.length=4:=by
 unfold jQ;split
 ·exact h
 ·split<;>exact EO h
theorem ny{t:Tb} {s:Pr} {l:List Rn} (h:s.held.length=4):(aI t s l).2.held.length=4:=by
 unfold aI
 repeat' split
 all_goals first|exact h|exact Jv h
theorem mG(t:Tb) (s:Pr) (l:List Rn):0<=(aI t s l).1/\(aI t s l).1<6:=by
 simp only[aI,uG,qF,pO,jQ,uH]
 repeat' split
 all_goals(simp only[];omega)
section
variable{t:Tb} {s:Pr} {l:List Rn} (h:lq t s l)
include h
theorem OL:(cI t s l)[131]? =some (I s.aq)/\(cI t s l)[132]? =some (I s.which)/\(cI t s l)[133]? =some (I s.time)/\(cI t s l)[138]? =some (I s.ee)/\ay (cI t s l) 131 (some 8)=some (.agg s.cells):=by
 have e:∀j,(cI t s l)[131+j]? =(y9 s l)[j]?:=fun j=>by
  rw[<-pM h,List.getElem?_drop]
 obtain⟨p0,p1,p2,p7⟩:=KG h;rw[List.getElem?_drop]at p1 p2 p7;refine⟨(e 0).trans p0,(e 1).trans p1,(e 2).trans p2,(e 7).trans p7,?_⟩;exact eu (Tb.len h.t) (Pr.len h.s)
theorem VR{k:Nat} (hk:k<4):(cI t s l)[134+k]? =some (I (ez s k)):=by
 have:=ZJ h hk
 rw[<-pM h,List.drop_drop,List.drop_drop,List.getElem?_drop,show 131+(3+k)+0=134+k by omega]at this
 exact this
theorem A4{j:Nat} {ps:List AV} (hj:j+ps.length<=8):setCells (cI t s l) (131+j) ps=t.cells++(setCells s.cells j ps++cz l):=by
 have e1:=Tb.len h.t
 have e2:=Pr.len h.s
 rw[cI,bO (by omega),e1,Nat.add_sub_cancel_left,y9,BZ (by omega)]
theorem VS(x:Int):setCells (cI t s l) 131 [I x]=cI t {s with aq:=x} l:=A4 h (j:=0) (ps:=[I x]) (by simp)
theorem OM(x:Int):setCells (cI t s l) 132 [I x]=cI t {s with which:=x} l:=A4 h (j:=1) (ps:=[I x]) (by simp)
theorem VT(x:Int):setCells (cI t s l) 133 [I x]=cI t {s with time:=x} l:=A4 h (j:=2) (ps:=[I x]) (by simp)
theorem VU(x:Int):setCells (cI t s l) 138 [I x]=cI t {s with ee:=x} l:=by
 rw[show(138:Nat)=131+7 from rfl,A4 h (by simp)]
 have e:setCells s.cells 7 [I x]=({s with ee:=x}:Pr).cells:=by rw[Pr.cells,Pr.cells,jc h.s];rfl
 rw[e];rfl
theorem dN{u:Pr} (hu:u.held.length=4):lq t u l:=⟨h.t,hu,h.l⟩
end
theorem ON{t:Tb} {s:Pr} {l:List Rn} (h:lq t s l) {z:List AV} (hz:z.length=235):
  List.take 139 (List.take 131 (t.cells++List.drop 131 z)++s.cells++List.drop 139 (t.cells++List.drop 131 z))++cz l++List.drop 235 (List.take 131 (t.cells++List.drop 131 z)++s.cells++List.drop 139 (t.cells++List.drop 131 z))=cI t s l:=by
 have e1:=Tb.len h.t
 have e2:=Pr.len h.s
 have a1:List.take 131 (t.cells++List.drop 131 z)=t.cells:=by rw[List.take_left' e1]
 have a2:List.take 139 (t.cells++s.cells++List.drop 139 (t.cells++List.drop 131 z))=t.cells++s.cells:=by rw[List.take_left' (by simp;omega)]
 rw[a1,a2,List.drop_of_length_le (by simp;omega),List.append_nil,List.append_assoc];rfl
section
variable{P:Program} (hm:P.follows .mixedOrders=true) {f:Nat}
include hm
theorem yx.ok{a0 b0 a1 b1 a2 b2 a3 b3 a4 b4 a5 b5:Nat} (hc:bF P f=some (nY a0 b0 a1 b1 a2 b2 a3 b3 a4 b4 a5 b5))
  (h0:HT.Spec (Pure P) a0) (k0:HU.Spec (Pure P) b0) (h1:xQ.Spec (Pure P) a1) (k1:zf.Spec (Pure P) b1) (h2:xR.Spec (Pure P) a2) (k2:CD.Spec (Pure P) b2)
  (h3:pP.Spec (Pure P) a3) (k3:tH.Spec (Pure P) b3) (h4:xS.Spec (Pure P) a4) (k4:CE.Spec (Pure P) b4) (h5:xT.Spec (Pure P) a5) (k5:CF.Spec (Pure P) b5):yx.Spec (Pure P) f:=by
 refine⟨[a0,b0,a1,b1,a2,b2,a3,b3,a4,b4,a5,b5].map fun k=>.fn (.func k) [] [],rfl,rfl,?_,?_,?_⟩
 ·refine ak hm hc (by show 0<=8;decide) (aj (keep:=[]) (i:=0) ?_)
  try simp only[RX,↓KW,seval,nY,Z.H]
  exact⟨rfl,by decide,rfl⟩
 ·intro k hk
  have e:k=0\/k=1\/k=2\/k=3\/k=4\/k=5:=by omega
  have cv:∀{g:Nat} {F:Tb->Pr->List Rn->Int} {t s l},WI F (Pure P) g->lq t s l->(aI t s l)=(F t s l,s)->(Pure P).p g [cI t s l] [none] (I (aI t s l).1) none [cI t (aI t s l).2 l]:=fun{g F t s l} hg h he=>by
   rw[he];exact bL (args:=[none]) (hg t s l h) rfl (by simp)
  rcases e with rfl|rfl|rfl|rfl|rfl|rfl
  ·exact⟨a0,rfl,fun t s l h hs=>cv h0 h (by simp[aI,hs])⟩
  ·exact⟨a1,rfl,fun t s l h hs=>cv h1 h (by simp[aI,hs])⟩
  ·exact⟨a2,rfl,fun t s l h hs=>cv h2 h (by simp[aI,hs])⟩
  ·exact⟨a3,rfl,fun t s l h hs=>cv h3 h (by simp[aI,hs])⟩
  ·refine⟨a4,rfl,fun t s l h hs=>?_⟩
   have:aI t s l=jQ t s:=by simp[aI,hs]
   rw[this];exact h4 t s l h
  ·exact⟨a5,rfl,fun t s l h hs=>cv h5 h (by simp[aI,hs])⟩
 ·intro k hk
  have e:k=0\/k=1\/k=2\/k=3\/k=4\/k=5:=by omega
  rcases e with rfl|rfl|rfl|rfl|rfl|rfl
  ·exact⟨b0,rfl,k0⟩
  ·exact⟨b1,rfl,k1⟩
  ·exact⟨b2,rfl,k2⟩
  ·exact⟨b3,rfl,k3⟩
  ·exact⟨b4,rfl,k4⟩
  ·exact⟨b5,rfl,k5⟩
theorem xS.ok {fR fY:Nat} (hc:bF P f=some (jZ fR fY)) (hR:j8.Spec (Pure P) fR) (hY:y6.Spec (Pure P) fY):xS.Spec (Pure P) f:=by
  intro t s l h
  have hq:=OL h
  have hlen:=F2 h
  have ht:=KE h
  have hz:∀ r:Rl,setCells bz 0 r.cells=r.cells:=fun _=>rfl
  have hzl:bz.length=11:=rfl
  have hr9:∀ r:Rl,r.cells[9]? = some (I r.most)∧r.cells[8]? = some (I r.stay):=fun _=>⟨rfl,rfl⟩
  refine w9 hm hc (by show 1≤100; decide) rfl (by simp) (aj (keep:=[]) (i:=0) ?_)
  try simp only [I,RY,↓ KW,seval,jZ,Z.H]
  refine ji [1] rfl ?_
  try simp only [I,RY,↓ KW,seval,hq]
  refine ⟨rfl,cm (bL (hR t s l h) rfl (Nat.le_of_ble_eq_true rfl)) ?_⟩
  try simp only [I,B,D,RY,↓ KW,seval,hq,hlen,ht,hz,hzl,hr9,Rl.len]
  have hz8:∀ u:Pr,u.held.length=4→ay (cI t u l) 131 (some 8)=some (.agg u.cells)∧ay (cI t u l) 0 (some 131)=some (.agg t.cells)∧(cI t u l).length=235:=fun u hu=>⟨(OL (dN h hu)).2.2.2.2,KE (dN h hu),F2 (dN h hu)⟩
  have hsp:=EO (t:=t) h.s
  have hY1:=hY t (iF t s) h.t hsp
  obtain ⟨z1,z2,z3⟩:=hz8 _ hsp
  have z4:=OM (dN h hsp)
  have fin:∀ {v:Bool},zZ s=v→(!EF t s && (v || decide (s.time < (cJ t s).stay)))=true→jQ t s=(4,s):=fun {v} e1 e2=>by
    rw [jQ,e1,if_pos e2]
  have fin2:∀ {v:Bool},zZ s=v→(!EF t s && (v || decide (s.time < (cJ t s).stay)))=false→jQ t s=if aN t (iF t s) ≥ 0 then (1,{ iF t s with which:=aN t (iF t s) }) else (5,iF t s):=fun {v} e1 e2=>by
    rw [jQ,e1,if_neg (by rw [e2]; decide)]
  have hl:EF t s=(decide ((cJ t s).most > 0) && decide (s.time ≥ (cJ t s).most)):=rfl
  have tail1:∀ {v:Bool},zZ s=v→EF t s=false∨v=false→iF t s=s:=fun {v} e1 e2=>by
    rw [iF,e1]; rcases e2 with e | e<;>rw [e]<;>simp
  have pw:0≤s.which∧s.which < 4→min s.which.toNat IntKind.i64.bits=s.which.toNat∧(decide (s.which < 0)=false):=fun hx=>by
    have:IntKind.i64.bits=64:=rfl
    exact ⟨by omega,by simp; omega⟩
  have hx4:zZ s=true→0≤s.which∧s.which < 4:=fun e=>by
    simp only [zZ,Bool.and_eq_true,decide_eq_true_eq] at e; exact ⟨e.1.1,e.1.2⟩
  obtain ⟨v,hv⟩:∃ v,zZ s=v:=⟨_,rfl⟩
  have h4:v=(decide (s.which ≥ 0) && decide (s.which < 4) && decide (ez s s.which.toNat > 0)):=by rw [← hv]; rfl
  cases hA1:decide (s.which ≥ 0)
  rotate_left
  cases hA2:decide (s.which < 4)
  rotate_left
  have hx:0≤s.which∧s.which < 4:=⟨of_decide_eq_true hA1,of_decide_eq_true hA2⟩
  have hh:=VR h (k:=s.which.toNat) (by omega)
  try simp only [I,RY,↓ KW,seval,hx,hh,hq,hz,hzl,hr9,Rl.len]
  cases hA3:decide (ez s s.which.toNat > 0)
  all_goals
    first | rw [hA1,hA2,hA3] at h4 | rw [hA1,hA2] at h4 | rw [hA1] at h4
    simp only [Bool.and_self,Bool.and_false,Bool.false_and] at h4
    subst h4
    try try simp only [I,B,D,RY,↓ KW,seval,hA3,hq,hlen,ht,hz,hzl,hr9,Rl.len]
    try try simp only [I,RY,↓ KW,seval,hA2,hq,hz,hzl,hr9,Rl.len]
    try try simp only [I,RY,↓ KW,seval,hz,hzl,hr9,Rl.len]
    cases h5:decide ((cJ t s).most > 0)<;>cases h6:decide (s.time ≥ (cJ t s).most)<;>cases h7:decide (s.time < (cJ t s).stay)
    all_goals
      rw [h5,h6] at hl
      simp only [Bool.and_self,Bool.and_false,Bool.false_and] at hl
      try simp only [I,RY,↓ KW,seval,hq,hr9]
      try try simp only [I,RY,↓ KW,seval,h6,hq,hlen,ht,hr9]
      try try simp only [RY,↓ KW,seval,h7,hq,ht]
      first
        | (have e:=fin hv (by rw [hl,h7]; rfl); rw [e]; exact ⟨rfl,rfl⟩)
        | skip
  all_goals first
    | (have e:=fin2 hv (by rw [hl,h7]; rfl)
       have es:=tail1 hv (by rw [hl]; first | exact .inl rfl | exact .inr rfl)
       rw [es] at hY1 e z4
       refine af hY1 ?_
       try simp only [I,RY,↓ KW,seval]
       generalize aN t s=k at *
       cases h8:decide (k ≥ 0)
       · rw [if_neg (of_decide_eq_false h8)] at e
         try simp only [RY,↓ KW,seval]
         rw [e]; exact ⟨rfl,rfl⟩
       · rw [if_pos (of_decide_eq_true h8)] at e
         try simp only [RY,↓ KW,seval,z4,hlen]
         first | (refine ⟨by omega,?_⟩; rw [e]; exact ⟨rfl,rfl⟩) | (rw [e]; exact ⟨rfl,rfl⟩))
    | (have e:=fin2 hv (by rw [hl,h7]; rfl)
       have es:iF t s={ s with ee:=yE .i64 s.ee (IntKind.i64.wrap (2 ^ s.which.toNat)) }:=by rw [iF,hl,hv]; rfl
       obtain ⟨p1,p2⟩:=pw (hx4 hv)
       have p3:(1:Int) * 2 ^ s.which.toNat=2 ^ s.which.toNat:=Int.one_mul _
       have s7:=VU h (yE .i64 s.ee (IntKind.i64.wrap (2 ^ s.which.toNat)))
       rw [← es] at s7
       refine ⟨(hx4 hv).1,?_⟩
       try simp only [RY,↓ KW,seval,p1,p3,s7,z1,z2]
       refine af hY1 ?_
       try simp only [I,RY,↓ KW,seval,p1,p3,s7]
       generalize aN t (iF t s)=k at *
       cases h8:decide (k ≥ 0)
       · rw [if_neg (of_decide_eq_false h8)] at e
         try simp only [RY,↓ KW,seval]
         rw [e]; exact ⟨rfl,rfl⟩
       · rw [if_pos (of_decide_eq_true h8)] at e
         try simp only [RY,↓ KW,seval,z3,z4]
         first | (refine ⟨by omega,?_⟩; rw [e]; exact ⟨rfl,rfl⟩) | (rw [e]; exact ⟨rfl,rfl⟩))
end
structure IE where
 samples:Option (List (Option Nat))
 push:Int
 ask:Int
 lines:Int
 deriving Inhabited
def IE.cells(x:IE):List AV:=[aH iZ x.samples,I x.push,I x.ask,I x.lines]
structure Td where
 start:Int
 fin:Int
 cut:Int
 dD:Int
 hold:Int
 early:Int
def Td.cells(x:Td):List AV:=[I x.start,I x.fin,I x.cut,I x.dD,I x.hold,I x.early]
def VV(t:Tb):Nat:=(t.aM.getD []).length
def Df(t:Tb) (s:bP) (x:IE):Option (List Ch):=dH (og t (s.gn.getD []) (x.samples.getD []) (VV t))
def OO(t:Tb) (s:bP) (x:IE):Int:=El t (jR t ((Df t s x).getD []) (Dc t ((Df t s x).getD [])))
def grS(s:bP):Int:=Kw fun p=>ga (s.rn p)
def wkS(s:bP):Int:=Kw fun p=>zb (s.rn p)
def Pg(t:Tb) (s:bP) (x:IE):Cs:=Ny t s.calls (OO t s x) x.push (grS s) (wkS s)
def Mr(t:Tb) (s:bP) (x:IE):Int:=Nz t (Pg t s x) (OO t s x)
def DE(t:Tb) (s:bP) (x:IE):Pr×Ac:=De t s.pre x.lines s.runs
def Mc(t:Tb) (s:bP) (x:IE):gL:=
 if(DE t s x).2.free then(L8 t s.rings s.runs (Mr t s x)).1 else if(DE t s x).2.back then VO t (WQ t s.pre.which)else s.rings
def ZP(t:Tb) (s:bP) (x:IE):Td:=
 if(DE t s x).2.free then⟨(L8 t s.rings s.runs (Mr t s x)).2.1,(L8 t s.rings s.runs (Mr t s x)).2.2,0,RQ t s.rings s.runs (Mr t s x),Eu t s.kW s.runs x.ask,Cg t s.kW s.runs x.ask⟩
 else⟨(DE t s x).2.start,(DE t s x).2.fin,(DE t s x).2.cut,0,0,0⟩
def cuE(d:Td) (here gV:Int) (free:Bool) (p:Nat):Cu:=⟨ej d.start p,ej d.fin p,ej here p,free&&ej gV p,ej d.dD p,ej d.hold p,ej d.early p,ej d.cut p⟩
def ZQ(t:Tb) (s:bP) (x:IE) (p:Nat):Cu:=cuE (ZP t s x) (OO t s x) (Pg t s x).gV (DE t s x).2.free p
def oh(t:Tb) (s:bP) (c:Nat->Cu) (k:Nat):List Rn:=(List.range 8).map fun p=>if p<k then qG (aX t p) (s.rn p) (c p)else s.rn p
def rO(t:Tb) (s:bP) (c:Nat->Cu):Nat->Bool
 |0=>false
 |k+1=>rO t s c k||wu (aX t k) (s.rn k) (c k)
def Jw(s:bP) (free:Bool) (r:gL):Bool:=free&&(s.rings.lU&&(!r.lU&&decide (r.group<=s.rings.group)))
def rdE(t:Tb) (s:bP) (x:IE):Rd:=tr t s.kW x.ask (rO t s (ZQ t s x) 8) (Jw s (DE t s x).2.free (Mc t s x))
def RZ(t:Tb) (s:bP) (x:IE):bP:=⟨oh t s (ZQ t s x) 8,Mc t s x,rdE t s x,(DE t s x).1,Pg t s x,Df t s x⟩
theorem Jy{t:Tb} {s:bP} {c:Nat->Cu} (h:s.Ok):oh t s c 0=s.runs:=by
 refine List.ext_getElem (by simp[oh,h.runs]) fun i h1 h2=>?_
 simp[oh,bP.rn,List.getD_eq_getElem?_getD,h2]
theorem Jz{t:Tb} {s:bP} {c:Nat->Cu} {k:Nat} (hk:k<8):(oh t s c k).set k (qG (aX t k) (s.rn k) (c k))=oh t s c (k+1):=by
 have:k=0\/k=1\/k=2\/k=3\/k=4\/k=5\/k=6\/k=7:=by omega
 rcases this with rfl|rfl|rfl|rfl|rfl|rfl|rfl|rfl<;>simp[oh,List.range_succ]
theorem zi(t:Tb) (s:bP) (c:Nat->Cu) (k:Nat):(oh t s c k).length=8:=by simp[oh]
theorem Md{a b:List AV} {off z:Nat} (h:off+z<=a.length):ay (a++b) off (some z)=ay a off (some z):=by
 simp only[ay,List.length_append]
 rw[if_pos (by omega),if_pos h,List.drop_append_of_le_length (by omega),List.take_append_of_le_length (by simp;omega)]
theorem bP.OP{s:bP}:s.cells=(cz s.runs++s.rings.cells)++(s.kW.cells++(s.pre.cells++(s.calls.cells++[aH Ch.cells s.gn]))):=by simp[bP.cells]
theorem bP.OQ{s:bP}:s.cells=(cz s.runs++(s.rings.cells++s.kW.cells))++(s.pre.cells++(s.calls.cells++[aH Ch.cells s.gn])):=by simp[bP.cells]
theorem bP.OR{s:bP}:s.cells=(cz s.runs++(s.rings.cells++(s.kW.cells++s.pre.cells)))++(s.calls.cells++[aH Ch.cells s.gn]):=by simp[bP.cells]
theorem bP.OS{s:bP}:s.cells=(cz s.runs++(s.rings.cells++(s.kW.cells++(s.pre.cells++s.calls.cells))))++([aH Ch.cells s.gn]++[]):=by simp[bP.cells]
section
variable{s:bP} (h:s.Ok)
include h
theorem bP.p96:ay s.cells 96 (some 4)=some (.agg s.rings.cells):=eu (dF h.runs) rfl
theorem bP.ZR:(cz s.runs++s.rings.cells).length=100:=by simp[dF h.runs,gL.cells]
theorem bP.ZS:(cz s.runs++(s.rings.cells++s.kW.cells)).length=106:=by simp[dF h.runs,gL.cells,Rd.cells,h.lock]
theorem bP.ZT:(cz s.runs++(s.rings.cells++(s.kW.cells++s.pre.cells))).length=114:=by simp[dF h.runs,gL.cells,Rd.cells,Pr.cells,h.lock,h.held]
theorem bP.VW:(cz s.runs++(s.rings.cells++(s.kW.cells++(s.pre.cells++s.calls.cells)))).length=116:=by simp[dF h.runs,gL.cells,Rd.cells,Pr.cells,Cs.cells,h.lock,h.held]
theorem bP.abA:ay s.cells 100 (some 6)=some (.agg s.kW.cells):=by rw[bP.OP (s:=s)];exact eu (bP.ZR h) (by simp[Rd.cells,h.lock])
theorem bP.ZU:ay s.cells 106 (some 8)=some (.agg s.pre.cells):=by rw[bP.OQ (s:=s)];exact eu (bP.ZS h) (Pr.len h.held)
theorem bP.VX:ay s.cells 114 (some 2)=some (.agg s.calls.cells):=by rw[bP.OR (s:=s)];exact eu (bP.ZT h) rfl
theorem bP.g96:s.cells[96]? =some (I s.rings.group):=kG (bP.p96 h) (j:=0) (by omega)
theorem bP.g99:s.cells[99]? =some (B s.rings.lU):=kG (bP.p96 h) (j:=3) (by omega)
theorem bP.abB:s.cells[107]? =some (I s.pre.which):=kG (bP.ZU h) (j:=1) (by omega)
theorem bP.abC:s.cells[115]? =some (I s.calls.gV):=kG (bP.VX h) (j:=1) (by omega)
theorem bP.ZV:s.cells[116]? =some (aH Ch.cells s.gn):=by rw[bP.OS (s:=s),List.getElem?_append_right (by rw[bP.VW h];omega),bP.VW h];rfl
theorem bP.s96(x:gL):setCells s.cells 96 x.cells={s with rings:=x}.cells:=nM (dF h.runs) rfl
theorem bP.VY{x:Rd} (hx:x.lock.length=4):setCells s.cells 100 x.cells={s with kW:=x}.cells:=by
 rw[bP.OP (s:=s),nM (bP.ZR h) (by simp[Rd.cells,h.lock,hx])];simp[bP.cells]
theorem bP.VZ{x:Pr} (hx:x.held.length=4):setCells s.cells 106 x.cells={s with pre:=x}.cells:=by
 rw[bP.OQ (s:=s),nM (bP.ZS h) (by rw[Pr.len h.held,Pr.len hx])];simp[bP.cells]
theorem bP.V0(x:Cs):setCells s.cells 114 x.cells={s with calls:=x}.cells:=by
 rw[bP.OR (s:=s),nM (mid:=s.calls.cells) (ps:=x.cells) (bP.ZT h) rfl];simp[bP.cells]
theorem bP.abE(x:Option (List Ch)):setCells s.cells 116 [aH Ch.cells x]={s with gn:=x}.cells:=by
 rw[bP.OS (s:=s),nM (mid:=[aH Ch.cells s.gn]) (ps:=[aH Ch.cells x]) (bP.VW h) rfl];simp[bP.cells]
end
theorem JA{t:Tb} {s:Pr} {n:Int}:(VQ t s n).held.length=4:=by
 have:(tB t s n).held.length=4:=by simp[tB,e9]
 unfold VQ F5;split<;>exact this
theorem EP{t:Tb} {s:Pr} {n:Int} {l:List Rn}:(De t s n l).1.held.length=4:=by
 have h0:=JA (t:=t) (s:=s) (n:=n)
 have h1:=ny (t:=t) (l:=l) h0
 unfold De kf;split
 ·exact h0
 ·split
  ·exact h1
  ·exact h1
theorem ZW{G:Prop} {F:S->Prop} {α:Type} (st:α->S) (J:α->Prop) (h:(∀y s,J y->Le s (st y)->down F s)->G) (hF:∀y,J y->F (st y)):G:=
 h fun y s hy hle=>⟨st y,.inl ⟨hle,hF y hy⟩⟩
def Dg.Spec(C:aS) (f:Nat):Prop:=∀(t:Tb) (s:bP) (x:IE),t.Ok->t.Fw->VV t<=1000000->s.Ok->(s.gn.getD []).length<=1000000->(x.samples.getD []).length<=1000000->C.c f [.agg t.cells,.agg s.cells,.agg x.cells] (.agg (RZ t s x).cells) none
section
variable{P:Program} (hm:P.follows .mixedOrders=true) {f:Nat}
include hm
theorem Dg.ok{fD fE fH fG fK fC fW fP fR fS fO fA fX fU fB fY fZ fT:Nat} (hc:bF P f=some (tJ fD fE fH fG fK fC fW fP fR fS fO fA fX fU fB fY fZ fT)) (hD:Db.Spec (Pure P) fD) (hE:Dd.Spec (Pure P) fE) (hH:Lz.Spec (Pure P) fH)
  (hG:yp.Spec (Pure P) fG) (hK:yq.Spec (Pure P) fK) (hC:Step.Spec (Pure P) fC) (hW:Want.Spec (Pure P) fW) (hP:Ip.Spec (Pure P) fP) (hR:CU.Spec (Pure P) fR) (hS:Ih.Spec (Pure P) fS) (hO:NX.Spec (Pure P) fO) (hA:Early.Spec (Pure P) fA)
  (hX:CW.Spec (Pure P) fX) (hU:Ii.Spec (Pure P) fU) (hB:kn.Spec (Pure P) fB) (hY:CR.Spec (Pure P) fY) (hZ:CQ.Spec (Pure P) fZ) (hT:Cj.Spec (Pure P) fT):Dg.Spec (Pure P) f:=by
 intro t s x ht hfw hnd hs hch hsm
 have htl:=Tb.len ht
 have hp:=Tb.whole ht
 have hzl:bX.length=117:=rfl
 have hz0:∀u:bP,u.Ok->setCells bX 0 u.cells=u.cells:=fun u hu=>bk (by rw[bP.len hu];rfl)
 have q1:=bP.len hs
 have q2:=bP.whole hs
 have q3:=bP.ZV hs
 have q4:=bP.VX hs
 have q5:=bP.ZU hs
 have q6:=bP.Ex hs
 have q7:=bP.p96 hs
 have q8:=bP.abA hs
 have q9:=hz0 s hs
 have qw:=bP.abB hs
 have x1:x.cells[0]? =some (aH iZ x.samples)/\x.cells[1]? =some (I x.push)/\x.cells[2]? =some (I x.ask)/\x.cells[3]? =some (I x.lines):=⟨rfl,rfl,rfl,rfl⟩
 have hq:OO t s x=El t (jR t ((Df t s x).getD []) (Dc t ((Df t s x).getD []))):=rfl
 have hst:RZ t s x=⟨oh t s (cuE (ZP t s x) (OO t s x) (Pg t s x).gV (DE t s x).2.free) 8,Mc t s x,tr t s.kW x.ask (rO t s (cuE (ZP t s x) (OO t s x) (Pg t s x).gV (DE t s x).2.free) 8) (Jw s (DE t s x).2.free (Mc t s x)),(DE t s x).1,Pg t s x,Df t s x⟩:=rfl
 have cD:=hD t s.gn x.samples ht hfw hch hsm
 rw[show dH (og t (s.gn.getD []) (x.samples.getD []) (t.aM.getD []).length)=Df t s x from rfl]at cD
 have hcl:((Df t s x).getD []).length<=1000000:=by
  rw[Df,dV];simp only[og,List.length_map,List.length_range];exact hnd
 have cC:=hC t s.calls (OO t s x) x.push (grS s) (wkS s) ht
 rw[show Ny t s.calls (OO t s x) x.push (grS s) (wkS s)=Pg t s x from rfl]at cC
 have cW:=hW t (Pg t s x) (OO t s x) ht
 rw[show Nz t (Pg t s x) (OO t s x)=Mr t s x from rfl]at cW
 have cP:=hP t s.pre x.lines s.runs ⟨ht,hs.held,hs.runs⟩
 rw[show De t s.pre x.lines s.runs=DE t s x from rfl]at cP
 have hph:(DE t s x).1.held.length=4:=EP
 have cR:=hR t s.rings s.runs (Mr t s x) ht hs.runs
 have cS:=hS t s.rings s.runs (Mr t s x) ht hs.runs
 have cO:=hO t s.kW s.runs x.ask ht hs.lock hs.runs
 have cA:=hA t s.kW s.runs x.ask ht hs.lock hs.runs
 have hrg:Mc t s x=if(DE t s x).2.free then(L8 t s.rings s.runs (Mr t s x)).1 else if(DE t s x).2.back then VO t (WQ t s.pre.which)else s.rings:=rfl
 have htd:ZP t s x=if(DE t s x).2.free then⟨(L8 t s.rings s.runs (Mr t s x)).2.1,(L8 t s.rings s.runs (Mr t s x)).2.2,0,RQ t s.rings s.runs (Mr t s x),Eu t s.kW s.runs x.ask,Cg t s.kW s.runs x.ask⟩
  else⟨(DE t s x).2.start,(DE t s x).2.fin,(DE t s x).2.cut,0,0,0⟩:=rfl
 generalize Mc t s x=rg at*;generalize ZP t s x=td at*;generalize Mr t s x=w0 at*;generalize Pg t s x=c1 at*;generalize OO t s x=h0 at*;generalize Df t s x=c0 at*;generalize DE t s x=pa at*;generalize RZ t s x=res at*;generalize L8 t s.rings s.runs w0=rr at*;generalize RQ t s.rings s.runs w0=pr at*
 generalize Eu t s.kW s.runs x.ask=ho at*;generalize Cg t s.kW s.runs x.ask=ea at*
 have c1l:c1.cells.length=2:=rfl
 have sl1:ig (aH Ch.cells c0) none=true:=by cases c0<;>rfl
 have sl2:(aH Ch.cells c0).cells=[aH Ch.cells c0]:=by cases c0<;>rfl
 have u1:=bP.abE hs c0
 have k1:({s with gn:=c0}:bP).Ok:=⟨hs.1,hs.2,hs.3⟩
 have q11:=bP.len k1
 have q12:=bP.ZV k1
 have u2:=bP.V0 k1 c1
 have k2:({s with gn:=c0,calls:=c1}:bP).Ok:=⟨hs.1,hs.2,hs.3⟩
 have q21:=bP.len k2
 have q22:=bP.VX k2
 have u3:=bP.VZ k2 hph
 have k3:({s with gn:=c0,calls:=c1,pre:=pa.1}:bP).Ok:=⟨hs.1,hs.2,hph⟩
 have q31:=bP.len k3
 have pl:=Pr.len hph
 have pw:=Pr.whole hph
 have al:pa.2.cells.length=5/\pa.2.cells[0]? =some (I pa.2.start)/\pa.2.cells[1]? =some (I pa.2.fin)/\pa.2.cells[2]? =some (I pa.2.cut)/\pa.2.cells[3]? =some (B pa.2.free)/\pa.2.cells[4]? =some (B pa.2.back):=⟨rfl,rfl,rfl,rfl,rfl,rfl⟩
 have zp:setCells [.int .i64 0,.int .i64 0,.int .i64 0,.int .i64 0,.int .i64 0,.int .i64 0,.int .i64 0,.int .i64 0] 0 pa.1.cells=pa.1.cells:=bk (by rw[pl];rfl)
 have za:setCells [.int .i64 0,.int .i64 0,.int .i64 0,.bool false,.bool false] 0 pa.2.cells=pa.2.cells:=rfl
 have zt:setCells [.int .i64 0,.int .i64 0,.int .i64 0,.int .i64 0,.int .i64 0,.int .i64 0] 0 [I pa.2.start,I pa.2.fin,I pa.2.cut,I 0,I 0,I 0]=(⟨pa.2.start,pa.2.fin,pa.2.cut,0,0,0⟩:Td).cells:=rfl
 have tdl:∀d:Td,d.cells.length=6:=fun _=>rfl
 have tds:∀(d:Td) (n:Int),setCells d.cells 0 [I n]=({d with start:=n}:Td).cells/\setCells d.cells 1 [I n]=({d with fin:=n}:Td).cells/\setCells d.cells 2 [I n]=({d with cut:=n}:Td).cells/\setCells d.cells 3 [I n]=({d with dD:=n}:Td).cells/\setCells d.cells 4 [I n]=({d with hold:=n}:Td).cells/\setCells d.cells 5 [I n]=({d with early:=n}:Td).cells:=fun _ _=>⟨rfl,rfl,rfl,rfl,rfl,rfl⟩
 have rl:∀r:gL,r.cells.length=4:=fun _=>rfl
 have u4:=fun r=>bP.s96 k3 r
 refine ak hm hc (by show 3<=220;decide) (aj (keep:=[0]) (i:=0) ?_)
 try simp only[RY,↓KW,seval,tJ,Z.H,hp,hzl,q1,q2,q3,x1]
 refine af cD ?_;try simp only[RY,↓KW,seval,hp,q1,q9,sl1,sl2,u1,q12]
 refine af (hE t c0 ht hcl) ?_;try simp only[I,RY,↓KW,seval,sl2,u1]
 refine af (hH t _ ht) ?_;rw[<-hq];try simp only[I,RY,↓KW,seval,hp,q2,q4,x1]
 refine af (hG s hs) ?_;try simp only[I,RY,↓KW,seval,q2]
 refine af (hK s hs) ?_;try simp only[I,RY,↓KW,seval]
 refine af cC ?_;try simp only[RY,↓KW,seval,hp,c1l,q11,u2,q22]
 refine af cW ?_;try simp only[I,RY,↓KW,seval,hp,q5,q6,x1,u2]
 refine af cP ?_;try simp only[I,B,RY,↓KW,seval,q21,pl,pw,al,zp,za]
 apply ZW (fun _:Unit=>(⟨[(8,.dat (I h0) none),(3,.ptr 4 0),(4,.ptr 5 0),(5,.ptr 6 0),(6,.ptr 7 0),(7,.ptr 9 0),(11,.ptr 57 0),(12,.ptr 70 0)],[(4,⟨t.cells,[]⟩),(5,⟨s.cells,[]⟩),(6,⟨x.cells,[]⟩),(7,⟨bX,[]⟩),(9,⟨({s with gn:=c0,calls:=c1,pre:=pa.1,rings:=rg}:bP).cells,[]⟩),(57,⟨pa.2.cells,[]⟩),(70,⟨td.cells,[]⟩)],[],400⟩:S)) (fun _=>True)
 ·intro back
  rcases bc pa.2.free with h1|h1
  ·rw[h1]at hrg htd
   try simp only[B,RY,↓KW,seval,h1,u3,al,zt]
   rcases bc pa.2.back with h2|h2
   ·rw[h2]at hrg
    try simp only[RY,seval,h2]
    refine back () _ trivial ?_
    refine ai (by decide) ?_ ?_ ?_ ?_<;>simp[LX,I,hrg,htd]
   ·rw[h2]at hrg
    try simp only[I,RY,↓KW,seval,h2,hp,qw]
    refine af (hX t s.pre.which ht) ?_;try simp only[I,RY,↓KW,seval]
    refine af (hU t _ ht) ?_;try simp only[RY,↓KW,seval,q31,rl,u4]
    refine back () _ trivial ?_
    refine ai (by decide) ?_ ?_ ?_ ?_<;>simp[LX,I,hrg,htd]
  ·rw[h1]at hrg htd
   try simp only[RY,↓KW,seval,h1,hp,q6,q7,u3,zt]
   refine af cR ?_;try simp only[I,RY,↓KW,seval,hp,q6,q7,q31,tdl,tds,rl]
   refine af cS ?_;try simp only[I,RY,↓KW,seval,hp,q6,q8,x1,tdl,tds,u4]
   refine af cO ?_;try simp only[I,RY,↓KW,seval,hp,q6,q8,x1,tdl,tds]
   refine af cA ?_;try simp only[I,RY,↓KW,seval,tdl,tds]
   refine back () _ trivial ?_
   refine ai (by decide) ?_ ?_ ?_ ?_<;>simp[LX,I,hrg,htd]
 ·rintro _ _
  try simp only[I,RY,↓KW,seval]
  obtain⟨cu,hcu⟩:∃cu,cuE td h0 c1.gV pa.2.free=cu:=⟨_,rfl⟩
  have hcuP:∀p,cu p=⟨ej td.start p,ej td.fin p,ej h0 p,pa.2.free&&ej c1.gV p,ej td.dD p,ej td.hold p,ej td.early p,ej td.cut p⟩:=fun p=>by rw[<-hcu];rfl
  rw[hcu]at hst
  have w0:=Jy (t:=t) (c:=cu) hs
  refine aG (fun k:Nat=>(⟨[(121,.dat (I k) none),(13,.dat (B (rO t s cu k)) none),(8,.dat (I h0) none),(3,.ptr 4 0),(4,.ptr 5 0),(5,.ptr 6 0),(6,.ptr 7 0),(7,.ptr 9 0),(11,.ptr 57 0),(12,.ptr 70 0)],[(4,⟨t.cells,[]⟩),(5,⟨s.cells,[]⟩),(6,⟨x.cells,[]⟩),(7,⟨bX,[]⟩),(9,⟨({s with runs:=oh t s cu k,gn:=c0,calls:=c1,pre:=pa.1,rings:=rg}:bP).cells,[]⟩),(57,⟨pa.2.cells,[]⟩),(70,⟨td.cells,[]⟩)],[],400⟩:S)) (fun k=>8-k) (fun k=>k<=8) ?_ 0 (by omega) ?_
  rotate_left
  ·refine ai (by decide) ?_ ?_ ?_ ?_<;>simp[LX,I,B,w0,rO]
  intro k hk A back
  have hwr:=aB (k:=k) (by omega)
  have kk:({s with runs:=oh t s cu k,gn:=c0,calls:=c1,pre:=pa.1,rings:=rg}:bP).Ok:=⟨zi ..,hs.2,hph⟩
  have v1:=bP.len kk
  have v2:=bP.abC kk
  have tdg:td.cells[0]? =some (I td.start)/\td.cells[1]? =some (I td.fin)/\td.cells[2]? =some (I td.cut)/\td.cells[3]? =some (I td.dD)/\td.cells[4]? =some (I td.hold)/\td.cells[5]? =some (I td.early):=⟨rfl,rfl,rfl,rfl,rfl,rfl⟩
  try simp only[I,B,RY,↓KW,seval]
  rcases bc (decide ((k:Int)<8))with h|h
  rotate_left
  ·have h8:k<8:=by have:=of_decide_eq_true h;omega
   have hy:0<=(k:Int)/\(k:Int)<8:=by omega
   have hpp:=Tb.mT (ht.ln.tc h8)
   have hrp:ay s.cells (k*12) (some 12)=some (.agg (s.rn k).cells):=by rw[bP.cells,Md (by rw[dF hs.runs];omega)];exact i6 hs.runs h8
   have vs:=bP.SM kk h8 (qG (aX t k) (s.rn k) (cu k))
   rw[show({s with runs:=oh t s cu k,gn:=c0,calls:=c1,pre:=pa.1,rings:=rg}:bP).runs.set k (qG (aX t k) (s.rn k) (cu k))=oh t s cu (k+1)from Jz h8]at vs
   have hl:rO t s cu (k+1)=(rO t s cu k||wu (aX t k) (s.rn k) (cu k)):=rfl
   generalize rO t s cu k=hd at*
   obtain⟨cc,hcc⟩:∃c,cu k=c:=⟨_,rfl⟩
   have hP:=hcuP k
   rw[hcc]at hP vs hl
   have ccl:∀c:Cu,c.cells.length=8/\ay c.cells 0 (some 8)=some (.agg c.cells):=fun _=>⟨rfl,rfl⟩
   have ccz:setCells [.bool false,.bool false,.bool false,.bool false,.bool false,.bool false,.bool false,.bool false] 0 [B (ej td.start k),B (ej td.fin k),B (ej h0 k),B (pa.2.free&&ej c1.gV k),B (ej td.dD k),B (ej td.hold k),B (ej td.early k),B (ej td.cut k)]=cc.cells:=by rw[hP];rfl
   try simp only[I,RY,↓KW,seval,hy,tdg]
   have bs:∀p:Nat,∀n:Int,(Pure P).c fB [I n,I p] (B (ej n p)) none:=fun p n=>hB n p
   rcases bc pa.2.free with h5|h5<;>rcases bc hd with h6|h6
   all_goals
    rw[h5]at ccz;rw[h6]at hl;simp only[Bool.true_and,Bool.false_and,Bool.true_or,Bool.false_or]at ccz hl
    repeat' (refine af (hB _ _) ?_;try simp only[I,B,RY,↓KW,seval,h5,h6,hy,v2,tdg,hpp,hrp,al])
    try simp only[RY,↓KW,seval,ccz,ccl]
    try(refine af (hY _ _ _) ?_;try simp only[B,RY,↓KW,seval,ccz,hy,hpp,hrp,ccl])
    try(refine af (hZ _ _ _) ?_;try simp only[RY,↓KW,seval,ccz,hy,v1,vs,Rn.len])
    refine⟨by omega,back (k+1) _ (by omega) (by omega) ?_⟩
    refine ai (by decide) ?_ ?_ ?_ ?_<;>simp[LX,I,B,hwr,hl]
  ·have hk8:k=8:=by have:=of_decide_eq_false h;omega
   subst hk8
   have hrd:(tr t s.kW x.ask (rO t s cu 8) (Jw s pa.2.free rg)).lock.length=4:=by simp[tr,tq]
   have w1:=bP.VY kk hrd
   have rk:res.Ok:=by rw[hst];exact⟨zi ..,hrd,hph⟩
   have w2:=bP.whole rk
   have w3:=hz0 res rk
   have w4:=bP.len rk
   have v3:=bP.g96 kk
   have v4:=bP.g99 kk
   have v5:=bP.g96 hs
   have v6:=bP.g99 hs
   have hle:Jw s pa.2.free rg=(pa.2.free&&(s.rings.lU&&(!rg.lU&&decide (rg.group<=s.rings.group)))):=rfl
   have cT:=hT t s.kW x.ask (rO t s cu 8) (Jw s pa.2.free rg) ht hs.lock
   rw[<-hst]at w1;generalize tr t s.kW x.ask (rO t s cu 8) (Jw s pa.2.free rg)=rd at*;generalize rO t s cu 8=hd at*;generalize Jw s pa.2.free rg=rn at*
   have rdl:rd.cells.length=6:=by simp[Rd.cells,hrd]
   rcases bc pa.2.free with h5|h5<;>rcases bc s.rings.lU with h6|h6<;>rcases bc rg.lU with h7|h7<;>rcases bc (decide (rg.group<=s.rings.group))with h8|h8
   all_goals
    rw[h5,h6,h7,h8]at hle;simp only[Bool.and_false,Bool.and_true,Bool.not_true,Bool.not_false]at hle;subst hle;try simp only[I,B,RY,↓KW,seval,h5,h6,h7,h8,v3,v4,v5,v6,hp,q8,x1,al]
    try try simp only[I,B,D,RY,↓KW,seval,h5,h6,h7,h8,v3,v4,v5,v6,w1,w2,w3,w4,v1,v2,rdl,htl,hp,hzl,q1,q2,q3,q4,q5,q6,q7,q8,q9,qw,x1,sl1,sl2,c1l,u1,q11,q12,u2,q21,q22,u3,q31,pl,pw,al,zp,za,zt,tdl,tds,rl,u4]
    refine af cT ?_;try simp only[RY,↓KW,seval,w1,w2,w3,w4,v1,rdl,hzl]
end
section
variable{P:Program} (hm:P.follows .mixedOrders=true) {f:Nat}
include hm
theorem Ip.ok {fL fS fR fE fB fT:Nat} (hc:bF P f=some (ry fL fS fR fE fB fT)) (hL:Cq.Spec (Pure P) fL) (hS:yx.Spec (Pure P) fS) (hR:y6.Spec (Pure P) fR) (hE:zf.Spec (Pure P) fE) (hB:HW.Spec (Pure P) fB) (hT:HX.Spec (Pure P) fT):Ip.Spec (Pure P) f:=by
  intro t s lines l h
  have e1:=Tb.len h.t
  have e2:=Pr.len h.s
  have e3:=dF h.l
  have e4:=Tb.whole h.t
  have e5:=Pr.whole h.s
  have e6:=gB h.l
  have hL0:=hL t s lines h.t h.s
  have hre:De t s lines l=kf t (F5 (tB t s lines)) l:=rfl
  have hs0:lq t (tB t s lines) l:=dN h (HJ t s lines)
  generalize tB t s lines=u at *
  have f1:=Pr.len hs0.s
  have f2:=Pr.whole hs0.s
  have ffill:=ON hs0 (z:=qD) rfl
  have f0:List.take 0 qD=[]:=rfl
  have fz:qD.length=235:=rfl
  obtain ⟨n,hn,_,hSc,hTu,hDo⟩:=hS
  have hn2:setCells pn 0 n=n:=bk (by rw [hn]; rfl)
  have hzl:pn.length=12:=rfl
  have q0:=fun (v:Pr) (hv:v.held.length=4)=>OL (dN h hv)
  have q1:=fun (v:Pr) (hv:v.held.length=4)=>KE (dN h hv)
  have q2:=fun (v:Pr) (hv:v.held.length=4)=>F2 (dN h hv)
  have q3:=fun (v:Pr) (hv:v.held.length=4)=>VS (dN h hv)
  have q4:=fun (v:Pr) (hv:v.held.length=4)=>OM (dN h hv)
  have q5:=fun (v:Pr) (hv:v.held.length=4)=>VT (dN h hv)
  have k8:∀ v:Pr,v.held.length=4→setCells [I 0,I 0,I 0,I 0,I 0,I 0,I 0,I 0] 0 v.cells=v.cells:=fun v hv=>bk (by rw [Pr.len hv]; rfl)
  have kA:∀ a:Ac,a.cells.length=5∧setCells [I 0,I 0,I 0,B false,B false] 0 a.cells=a.cells∧ay a.cells 0 (some 5)=some (.agg a.cells):=fun a=>⟨rfl,rfl,rfl⟩
  refine ak hm hc (by show 4≤147; decide) (aj (keep:=[]) (i:=0) ?_)
  try simp only [I,RY,↓ KW,seval,ry,Z.H,e4,e5]
  refine af hL0 ?_
  try simp only [RY,↓ KW,seval,e1,e3,e6,f1,ffill,f0]
  refine af hSc ?_
  try simp only [RY,↓ KW,seval,hn,hzl]
  have u0:=q0 u hs0.s
  have u1:=q1 u hs0.s
  have u2:=q2 u hs0.s
  obtain ⟨v,hv⟩:∃ v,F5 u=v:=⟨_,rfl⟩
  have hv4:v.held.length=4:=by rw [← hv,F5]; split<;>exact hs0.s
  have hvr:0≤v.aq∧v.aq < 6:=by rw [← hv,F5]; split<;>first | (show (0:Int)≤0∧(0:Int) < 6; exact ⟨by decide,by decide⟩) | omega
  rw [hv] at hre
  obtain ⟨k,hk⟩:∃ k:Nat,v.aq=k:=⟨v.aq.toNat,by omega⟩
  have hk6:k < 6:=by omega
  have hT0:gN t v=(decide (aN t v ≥ 0) && ((k:Int) == 0 || ((k:Int) == 5 || decide (aN t v < v.which)))):=by rw [gN,hk]
  have v0:=q0 v hv4
  rw [hk] at v0
  have v1:=q1 v hv4
  have v2:=q2 v hv4
  have v3:=Pr.len hv4
  have v4:=Pr.whole hv4
  have qs:(u.aq < 0∨6≤u.aq→setCells (cI t u l) 131 [I 0]=cI t v l)∧(¬ (u.aq < 0∨6≤u.aq)→cI t u l=cI t v l) :=
    ⟨fun e=>by rw [q3 u hs0.s 0,← hv,F5,if_pos e],fun e=>by rw [← hv,F5,if_neg e]⟩
  cases hA:decide (u.aq < 0)
  cases hB2:decide (u.aq ≥ 6)
  · have e:v=u:=by rw [← hv,F5,if_neg (by have:=of_decide_eq_false hA; have:=of_decide_eq_false hB2; omega)]
    subst e
    have qs:True:=trivial
    rw [hk] at hA hB2
    try simp only [I,RY,↓ KW,seval,hA,hB2,v0,e4,hn2]
    refine af (hR t v h.t hv4) ?_
    try simp only [I,RY,↓ KW,seval]
    cases c1:decide (aN t v ≥ 0)
    · have hT1:gN t v=false:=by rw [hT0,c1]; rfl
      have c2:True:=trivial
      have c3:True:=trivial
      have c4:True:=trivial
      obtain ⟨g,hg,htu⟩:=hTu k (by omega)
      have htu':=htu t v l (dN h hv4) hk
      have ho:=ny (t:=t) (l:=l) hv4
      have hr:=mG t v l
      have hst2:kf t v l=if v.aq=5∧(aI t v l).1=0 then ({ (aI t v l).2 with aq:=0,which:=0,time:=0 },z9 t (aI t v l).2 l)
        else (gp t (aI t v l).2 l (aI t v l).1 v.aq,Ar t (gp t (aI t v l).2 l (aI t v l).1 v.aq) l (aI t v l).1):=if_neg (by rw [hT1]; decide)
      rw [hst2] at hre
      generalize (aI t v l).2=w at *
      obtain ⟨j,hj⟩:∃ j:Nat,(aI t v l).1=j:=⟨(aI t v l).1.toNat,by omega⟩
      rw [hj] at htu' hre hr
      have hj6:j < 6:=by omega
      have hy:0≤(k:Int)∧(k:Int) < 6:=by omega
      have hy2:0≤(j:Int)∧(j:Int) < 6:=by omega
      have w0:=q0 w ho
      have w1:=q1 w ho
      have w2:=q2 w ho
      try simp only [RY,↓ KW,seval,hy,hg]
      refine ⟨rfl,aU htu' ?_⟩
      try simp only [I,B,D,RY,↓ KW,seval,qs,e1,e2,e3,e4,e5,e6,f1,f2,ffill,f0,fz,hn,hn2,hzl,kA,List.nil_append,v0,v1,v2,v3,v4,w0,w1,w2]
      cases d1:((k:Int) == 5)
      rotate_left
      cases d2:((j:Int) == 0)
      rotate_left
      · have s1:=q3 w ho 0
        have s2:=q4 { w with aq:=0 } ho 0
        have s3:=q5 { w with aq:=0,which:=0 } ho 0
        obtain ⟨y,hyy⟩:∃ y:Pr,y={ w with aq:=0,which:=0,time:=0 }:=⟨_,rfl⟩
        have hy4:y.held.length=4:=by rw [hyy]; exact ho
        rw [← hyy] at s3 hre
        have hxx:v.aq=5∧(j:Int)=0:=⟨by rw [hk]; simpa using d1,by simpa using d2⟩
        rw [if_pos hxx] at hre
        have y0:=q0 y hy4
        have y3:=Pr.len hy4
        have y4:=Pr.whole hy4
        have y5:=k8 y hy4
        have l1:=q2 { w with aq:=0 } ho
        have l2:=q2 { w with aq:=0,which:=0 } ho
        try simp only [I,RY,↓ KW,seval,d2]
        refine ⟨rfl,aU (bL (hB t w l (dN h ho)) rfl (Nat.le_of_ble_eq_true rfl)) ?_⟩
        try simp only [RY,↓ KW,seval,kA,w2,s1,s2,s3,l1,l2]
        refine dG rfl ?_
        try simp only [RY,↓ KW,seval,kA,y0,y3,y4,y5]
        rw [hre]
      all_goals
        have hxx:¬ (v.aq=5∧(j:Int)=0):=by
          rintro ⟨a,b⟩
          rw [hk] at a
          simp_all
        rw [if_neg hxx] at hre
        obtain ⟨g2,hg2,hdo⟩:=hDo j hj6
        have s1:=q3 w ho j
        obtain ⟨y,hyy⟩:∃ y:Pr,y=gp t w l j v.aq:=⟨_,rfl⟩
        have hy4:y.held.length=4:=by rw [hyy]; exact ho
        have s2:∀ x,x=nu t { w with aq:=(j:Int) } l ((j:Int) != (k:Int))→setCells (cI t { w with aq:=(j:Int) } l) 133 [I x]=cI t y l:=fun x hx=>by
          rw [q5 { w with aq:=(j:Int) } ho x,hx,hyy,gp,hk]
        have s2':=s2 _ rfl
        rw [← hyy] at hre
        have y0:=q0 y hy4
        have y3:=Pr.len hy4
        have y4:=Pr.whole hy4
        have y5:=k8 y hy4
        have l1:=q2 { w with aq:=(j:Int) } ho
        have ht3:=hT t { w with aq:=(j:Int) } l ((j:Int) != (k:Int)) (dN h ho)
        try try simp only [I,RY,↓ KW,seval,w2,s1]
        try try simp only [RY,↓ KW,seval,d2,w2,s1]
        refine ⟨rfl,aU (bL ht3 rfl (Nat.le_of_ble_eq_true rfl)) ?_⟩
        try simp only [I,RY,↓ KW,seval,s2',l1]
        refine ji [9] rfl ?_
        try simp only [RY,↓ KW,seval,y0,hy2,hg2]
        refine ⟨rfl,cm (bL (hdo t y l (dN h hy4)) rfl (Nat.le_of_ble_eq_true rfl)) ?_⟩
        try simp only [RY,seval,kA,y3,y4,y5]
        rw [hre]
    · cases c2:((k:Int) == 0)
      rotate_left
      · have hT1:gN t v=true:=by rw [hT0,c1,c2]; rfl
        have s1:=q3 v hv4 1
        have s2:=q4 { v with aq:=1 } hv4 (aN t v)
        have s3:=q5 { v with aq:=1,which:=aN t v } hv4 0
        have ht1:kf t v l=({ v with aq:=1,which:=aN t v,time:=0 },lO t { v with aq:=1,which:=aN t v,time:=0 } l):=if_pos hT1
        obtain ⟨y,hy⟩:∃ y:Pr,y={ v with aq:=1,which:=aN t v,time:=0 }:=⟨_,rfl⟩
        have hy4:y.held.length=4:=by rw [hy]; exact hv4
        rw [← hy] at ht1 s3
        have y0:=q0 y hy4
        have y3:=Pr.len hy4
        have y4:=Pr.whole hy4
        have y5:=k8 y hy4
        have l1:=q2 { v with aq:=1 } hv4
        have l2:=q2 { v with aq:=1,which:=aN t v } hv4
        try simp only [RY,↓ KW,seval,c2,v2,s1,s2,s3,l1,l2]
        refine ji [5] rfl ?_
        try simp only [RY,↓ KW,seval,y0]
        refine ⟨rfl,cm (bL (hE t y l (dN h hy4)) rfl (Nat.le_of_ble_eq_true rfl)) ?_⟩
        try simp only [RY,seval,kA,y3,y4,y5]
        rw [hre,ht1]
      · cases c3:((k:Int) == 5)
        rotate_left
        · have hT1:gN t v=true:=by rw [hT0,c1,c2,c3]; rfl
          have s1:=q3 v hv4 1
          have s2:=q4 { v with aq:=1 } hv4 (aN t v)
          have s3:=q5 { v with aq:=1,which:=aN t v } hv4 0
          have ht1:kf t v l=({ v with aq:=1,which:=aN t v,time:=0 },lO t { v with aq:=1,which:=aN t v,time:=0 } l):=if_pos hT1
          obtain ⟨y,hy⟩:∃ y:Pr,y={ v with aq:=1,which:=aN t v,time:=0 }:=⟨_,rfl⟩
          have hy4:y.held.length=4:=by rw [hy]; exact hv4
          rw [← hy] at ht1 s3
          have y0:=q0 y hy4
          have y3:=Pr.len hy4
          have y4:=Pr.whole hy4
          have y5:=k8 y hy4
          have l1:=q2 { v with aq:=1 } hv4
          have l2:=q2 { v with aq:=1,which:=aN t v } hv4
          try simp only [RY,↓ KW,seval,c2,c3,v2,s1,s2,s3,l1,l2]
          refine ji [5] rfl ?_
          try simp only [RY,↓ KW,seval,y0]
          refine ⟨rfl,cm (bL (hE t y l (dN h hy4)) rfl (Nat.le_of_ble_eq_true rfl)) ?_⟩
          try simp only [RY,seval,kA,y3,y4,y5]
          rw [hre,ht1]
        · cases c4:decide (aN t v < v.which)
          rotate_left
          · have hT1:gN t v=true:=by rw [hT0,c1,c2,c3,c4]; rfl
            have s1:=q3 v hv4 1
            have s2:=q4 { v with aq:=1 } hv4 (aN t v)
            have s3:=q5 { v with aq:=1,which:=aN t v } hv4 0
            have ht1:kf t v l=({ v with aq:=1,which:=aN t v,time:=0 },lO t { v with aq:=1,which:=aN t v,time:=0 } l):=if_pos hT1
            obtain ⟨y,hy⟩:∃ y:Pr,y={ v with aq:=1,which:=aN t v,time:=0 }:=⟨_,rfl⟩
            have hy4:y.held.length=4:=by rw [hy]; exact hv4
            rw [← hy] at ht1 s3
            have y0:=q0 y hy4
            have y3:=Pr.len hy4
            have y4:=Pr.whole hy4
            have y5:=k8 y hy4
            have l1:=q2 { v with aq:=1 } hv4
            have l2:=q2 { v with aq:=1,which:=aN t v } hv4
            try simp only [I,RY,↓ KW,seval,c2,c3,c4,v0,v2,s1,s2,s3,l1,l2]
            refine ji [5] rfl ?_
            try simp only [RY,↓ KW,seval,y0]
            refine ⟨rfl,cm (bL (hE t y l (dN h hy4)) rfl (Nat.le_of_ble_eq_true rfl)) ?_⟩
            try simp only [RY,seval,kA,y3,y4,y5]
            rw [hre,ht1]
          · have hT1:gN t v=false:=by rw [hT0,c1,c2,c3,c4]; rfl
            obtain ⟨g,hg,htu⟩:=hTu k (by omega)
            have htu':=htu t v l (dN h hv4) hk
            have ho:=ny (t:=t) (l:=l) hv4
            have hr:=mG t v l
            have hst2:kf t v l=if v.aq=5∧(aI t v l).1=0 then ({ (aI t v l).2 with aq:=0,which:=0,time:=0 },z9 t (aI t v l).2 l)
              else (gp t (aI t v l).2 l (aI t v l).1 v.aq,Ar t (gp t (aI t v l).2 l (aI t v l).1 v.aq) l (aI t v l).1):=if_neg (by rw [hT1]; decide)
            rw [hst2] at hre
            generalize (aI t v l).2=w at *
            obtain ⟨j,hj⟩:∃ j:Nat,(aI t v l).1=j:=⟨(aI t v l).1.toNat,by omega⟩
            rw [hj] at htu' hre hr
            have hj6:j < 6:=by omega
            have hy:0≤(k:Int)∧(k:Int) < 6:=by omega
            have hy2:0≤(j:Int)∧(j:Int) < 6:=by omega
            have w0:=q0 w ho
            have w1:=q1 w ho
            have w2:=q2 w ho
            try simp only [I,RY,↓ KW,seval,c2,c3,c4,hy,hg,v0]
            refine ⟨rfl,aU htu' ?_⟩
            try simp only [I,RY,↓ KW,seval,w2]
            have d1:=c3
            have d2:True:=trivial
            all_goals
              have hxx:¬ (v.aq=5∧(j:Int)=0):=by
                rintro ⟨a,b⟩
                rw [hk] at a
                simp_all
              rw [if_neg hxx] at hre
              obtain ⟨g2,hg2,hdo⟩:=hDo j hj6
              have s1:=q3 w ho j
              obtain ⟨y,hyy⟩:∃ y:Pr,y=gp t w l j v.aq:=⟨_,rfl⟩
              have hy4:y.held.length=4:=by rw [hyy]; exact ho
              have s2:∀ x,x=nu t { w with aq:=(j:Int) } l ((j:Int) != (k:Int))→setCells (cI t { w with aq:=(j:Int) } l) 133 [I x]=cI t y l:=fun x hx=>by
                rw [q5 { w with aq:=(j:Int) } ho x,hx,hyy,gp,hk]
              have s2':=s2 _ rfl
              rw [← hyy] at hre
              have y0:=q0 y hy4
              have y1:=q1 y hy4
              have y2:=q2 y hy4
              have y3:=Pr.len hy4
              have y4:=Pr.whole hy4
              have y5:=k8 y hy4
              have l1:=q2 { w with aq:=(j:Int) } ho
              have ht3:=hT t { w with aq:=(j:Int) } l ((j:Int) != (k:Int)) (dN h ho)
              try try simp only [seval,s1]
              try try simp only [I,B,D,RY,↓ KW,seval,d2,e1,e2,e3,e4,e5,e6,f1,f2,ffill,f0,fz,hn,hn2,hzl,kA,List.nil_append,v0,v1,v2,v3,v4,w0,w1,w2,s1,s2',y0,y1,y2,y3,y4,y5,l1,hy2,hg2,qs]
              refine ⟨rfl,aU (bL ht3 rfl (Nat.le_of_ble_eq_true rfl)) ?_⟩
              try simp only [I,RY,↓ KW,seval,s2',l1]
              refine ji [9] rfl ?_
              try simp only [RY,↓ KW,seval,y0,hy2,hg2]
              refine ⟨rfl,cm (bL (hdo t y l (dN h hy4)) rfl (Nat.le_of_ble_eq_true rfl)) ?_⟩
              try simp only [RY,seval,kA,y3,y4,y5]
              rw [hre]
  · have qs:=qs.1 (.inr (by have:=of_decide_eq_true hB2; omega))
    try simp only [I,RY,↓ KW,seval,hA,hB2,u0,u2,qs,e4,hn2,v0]
    refine af (hR t v h.t hv4) ?_
    try simp only [I,RY,↓ KW,seval,qs]
    cases c1:decide (aN t v ≥ 0)
    · have hT1:gN t v=false:=by rw [hT0,c1]; rfl
      have c2:True:=trivial
      have c3:True:=trivial
      have c4:True:=trivial
      obtain ⟨g,hg,htu⟩:=hTu k (by omega)
      have htu':=htu t v l (dN h hv4) hk
      have ho:=ny (t:=t) (l:=l) hv4
      have hr:=mG t v l
      have hst2:kf t v l=if v.aq=5∧(aI t v l).1=0 then ({ (aI t v l).2 with aq:=0,which:=0,time:=0 },z9 t (aI t v l).2 l)
        else (gp t (aI t v l).2 l (aI t v l).1 v.aq,Ar t (gp t (aI t v l).2 l (aI t v l).1 v.aq) l (aI t v l).1):=if_neg (by rw [hT1]; decide)
      rw [hst2] at hre
      generalize (aI t v l).2=w at *
      obtain ⟨j,hj⟩:∃ j:Nat,(aI t v l).1=j:=⟨(aI t v l).1.toNat,by omega⟩
      rw [hj] at htu' hre hr
      have hj6:j < 6:=by omega
      have hy:0≤(k:Int)∧(k:Int) < 6:=by omega
      have hy2:0≤(j:Int)∧(j:Int) < 6:=by omega
      have w0:=q0 w ho
      have w1:=q1 w ho
      have w2:=q2 w ho
      try simp only [RY,↓ KW,seval,hy,hg]
      refine ⟨rfl,aU htu' ?_⟩
      try simp only [I,B,D,RY,↓ KW,seval,qs,e1,e2,e3,e4,e5,e6,f1,f2,ffill,f0,fz,hn,hn2,hzl,kA,List.nil_append,v0,v1,v2,v3,v4,w0,w1,w2]
      cases d1:((k:Int) == 5)
      rotate_left
      cases d2:((j:Int) == 0)
      rotate_left
      · have s1:=q3 w ho 0
        have s2:=q4 { w with aq:=0 } ho 0
        have s3:=q5 { w with aq:=0,which:=0 } ho 0
        obtain ⟨y,hyy⟩:∃ y:Pr,y={ w with aq:=0,which:=0,time:=0 }:=⟨_,rfl⟩
        have hy4:y.held.length=4:=by rw [hyy]; exact ho
        rw [← hyy] at s3 hre
        have hxx:v.aq=5∧(j:Int)=0:=⟨by rw [hk]; simpa using d1,by simpa using d2⟩
        rw [if_pos hxx] at hre
        have y0:=q0 y hy4
        have y3:=Pr.len hy4
        have y4:=Pr.whole hy4
        have y5:=k8 y hy4
        have l1:=q2 { w with aq:=0 } ho
        have l2:=q2 { w with aq:=0,which:=0 } ho
        try simp only [I,RY,↓ KW,seval,d2]
        refine ⟨rfl,aU (bL (hB t w l (dN h ho)) rfl (Nat.le_of_ble_eq_true rfl)) ?_⟩
        try simp only [RY,↓ KW,seval,kA,w2,s1,s2,s3,l1,l2]
        refine dG rfl ?_
        try simp only [RY,↓ KW,seval,kA,y0,y3,y4,y5]
        rw [hre]
      all_goals
        have hxx:¬ (v.aq=5∧(j:Int)=0):=by
          rintro ⟨a,b⟩
          rw [hk] at a
          simp_all
        rw [if_neg hxx] at hre
        obtain ⟨g2,hg2,hdo⟩:=hDo j hj6
        have s1:=q3 w ho j
        obtain ⟨y,hyy⟩:∃ y:Pr,y=gp t w l j v.aq:=⟨_,rfl⟩
        have hy4:y.held.length=4:=by rw [hyy]; exact ho
        have s2:∀ x,x=nu t { w with aq:=(j:Int) } l ((j:Int) != (k:Int))→setCells (cI t { w with aq:=(j:Int) } l) 133 [I x]=cI t y l:=fun x hx=>by
          rw [q5 { w with aq:=(j:Int) } ho x,hx,hyy,gp,hk]
        have s2':=s2 _ rfl
        rw [← hyy] at hre
        have y0:=q0 y hy4
        have y3:=Pr.len hy4
        have y4:=Pr.whole hy4
        have y5:=k8 y hy4
        have l1:=q2 { w with aq:=(j:Int) } ho
        have ht3:=hT t { w with aq:=(j:Int) } l ((j:Int) != (k:Int)) (dN h ho)
        try try simp only [I,RY,↓ KW,seval,w2,s1]
        try try simp only [RY,↓ KW,seval,d2,w2,s1]
        refine ⟨rfl,aU (bL ht3 rfl (Nat.le_of_ble_eq_true rfl)) ?_⟩
        try simp only [I,RY,↓ KW,seval,s2',l1]
        refine ji [9] rfl ?_
        try simp only [RY,↓ KW,seval,y0,hy2,hg2]
        refine ⟨rfl,cm (bL (hdo t y l (dN h hy4)) rfl (Nat.le_of_ble_eq_true rfl)) ?_⟩
        try simp only [RY,seval,kA,y3,y4,y5]
        rw [hre]
    · cases c2:((k:Int) == 0)
      rotate_left
      · have hT1:gN t v=true:=by rw [hT0,c1,c2]; rfl
        have s1:=q3 v hv4 1
        have s2:=q4 { v with aq:=1 } hv4 (aN t v)
        have s3:=q5 { v with aq:=1,which:=aN t v } hv4 0
        have ht1:kf t v l=({ v with aq:=1,which:=aN t v,time:=0 },lO t { v with aq:=1,which:=aN t v,time:=0 } l):=if_pos hT1
        obtain ⟨y,hy⟩:∃ y:Pr,y={ v with aq:=1,which:=aN t v,time:=0 }:=⟨_,rfl⟩
        have hy4:y.held.length=4:=by rw [hy]; exact hv4
        rw [← hy] at ht1 s3
        have y0:=q0 y hy4
        have y3:=Pr.len hy4
        have y4:=Pr.whole hy4
        have y5:=k8 y hy4
        have l1:=q2 { v with aq:=1 } hv4
        have l2:=q2 { v with aq:=1,which:=aN t v } hv4
        try simp only [RY,↓ KW,seval,c2,v2,s1,s2,s3,l1,l2]
        refine ji [5] rfl ?_
        try simp only [RY,↓ KW,seval,y0]
        refine ⟨rfl,cm (bL (hE t y l (dN h hy4)) rfl (Nat.le_of_ble_eq_true rfl)) ?_⟩
        try simp only [RY,seval,kA,y3,y4,y5]
        rw [hre,ht1]
      · cases c3:((k:Int) == 5)
        rotate_left
        · have hT1:gN t v=true:=by rw [hT0,c1,c2,c3]; rfl
          have s1:=q3 v hv4 1
          have s2:=q4 { v with aq:=1 } hv4 (aN t v)
          have s3:=q5 { v with aq:=1,which:=aN t v } hv4 0
          have ht1:kf t v l=({ v with aq:=1,which:=aN t v,time:=0 },lO t { v with aq:=1,which:=aN t v,time:=0 } l):=if_pos hT1
          obtain ⟨y,hy⟩:∃ y:Pr,y={ v with aq:=1,which:=aN t v,time:=0 }:=⟨_,rfl⟩
          have hy4:y.held.length=4:=by rw [hy]; exact hv4
          rw [← hy] at ht1 s3
          have y0:=q0 y hy4
          have y3:=Pr.len hy4
          have y4:=Pr.whole hy4
          have y5:=k8 y hy4
          have l1:=q2 { v with aq:=1 } hv4
          have l2:=q2 { v with aq:=1,which:=aN t v } hv4
          try simp only [RY,↓ KW,seval,c2,c3,v2,s1,s2,s3,l1,l2]
          refine ji [5] rfl ?_
          try simp only [RY,↓ KW,seval,y0]
          refine ⟨rfl,cm (bL (hE t y l (dN h hy4)) rfl (Nat.le_of_ble_eq_true rfl)) ?_⟩
          try simp only [RY,seval,kA,y3,y4,y5]
          rw [hre,ht1]
        · cases c4:decide (aN t v < v.which)
          rotate_left
          · have hT1:gN t v=true:=by rw [hT0,c1,c2,c3,c4]; rfl
            have s1:=q3 v hv4 1
            have s2:=q4 { v with aq:=1 } hv4 (aN t v)
            have s3:=q5 { v with aq:=1,which:=aN t v } hv4 0
            have ht1:kf t v l=({ v with aq:=1,which:=aN t v,time:=0 },lO t { v with aq:=1,which:=aN t v,time:=0 } l):=if_pos hT1
            obtain ⟨y,hy⟩:∃ y:Pr,y={ v with aq:=1,which:=aN t v,time:=0 }:=⟨_,rfl⟩
            have hy4:y.held.length=4:=by rw [hy]; exact hv4
            rw [← hy] at ht1 s3
            have y0:=q0 y hy4
            have y3:=Pr.len hy4
            have y4:=Pr.whole hy4
            have y5:=k8 y hy4
            have l1:=q2 { v with aq:=1 } hv4
            have l2:=q2 { v with aq:=1,which:=aN t v } hv4
            try simp only [I,RY,↓ KW,seval,c2,c3,c4,v0,v2,s1,s2,s3,l1,l2]
            refine ji [5] rfl ?_
            try simp only [RY,↓ KW,seval,y0]
            refine ⟨rfl,cm (bL (hE t y l (dN h hy4)) rfl (Nat.le_of_ble_eq_true rfl)) ?_⟩
            try simp only [RY,seval,kA,y3,y4,y5]
            rw [hre,ht1]
          · have hT1:gN t v=false:=by rw [hT0,c1,c2,c3,c4]; rfl
            obtain ⟨g,hg,htu⟩:=hTu k (by omega)
            have htu':=htu t v l (dN h hv4) hk
            have ho:=ny (t:=t) (l:=l) hv4
            have hr:=mG t v l
            have hst2:kf t v l=if v.aq=5∧(aI t v l).1=0 then ({ (aI t v l).2 with aq:=0,which:=0,time:=0 },z9 t (aI t v l).2 l)
              else (gp t (aI t v l).2 l (aI t v l).1 v.aq,Ar t (gp t (aI t v l).2 l (aI t v l).1 v.aq) l (aI t v l).1):=if_neg (by rw [hT1]; decide)
            rw [hst2] at hre
            generalize (aI t v l).2=w at *
            obtain ⟨j,hj⟩:∃ j:Nat,(aI t v l).1=j:=⟨(aI t v l).1.toNat,by omega⟩
            rw [hj] at htu' hre hr
            have hj6:j < 6:=by omega
            have hy:0≤(k:Int)∧(k:Int) < 6:=by omega
            have hy2:0≤(j:Int)∧(j:Int) < 6:=by omega
            have w0:=q0 w ho
            have w1:=q1 w ho
            have w2:=q2 w ho
            try simp only [I,RY,↓ KW,seval,c2,c3,c4,hy,hg,v0]
            refine ⟨rfl,aU htu' ?_⟩
            try simp only [I,RY,↓ KW,seval,w2]
            have d1:=c3
            have d2:True:=trivial
            all_goals
              have hxx:¬ (v.aq=5∧(j:Int)=0):=by
                rintro ⟨a,b⟩
                rw [hk] at a
                simp_all
              rw [if_neg hxx] at hre
              obtain ⟨g2,hg2,hdo⟩:=hDo j hj6
              have s1:=q3 w ho j
              obtain ⟨y,hyy⟩:∃ y:Pr,y=gp t w l j v.aq:=⟨_,rfl⟩
              have hy4:y.held.length=4:=by rw [hyy]; exact ho
              have s2:∀ x,x=nu t { w with aq:=(j:Int) } l ((j:Int) != (k:Int))→setCells (cI t { w with aq:=(j:Int) } l) 133 [I x]=cI t y l:=fun x hx=>by
                rw [q5 { w with aq:=(j:Int) } ho x,hx,hyy,gp,hk]
              have s2':=s2 _ rfl
              rw [← hyy] at hre
              have y0:=q0 y hy4
              have y1:=q1 y hy4
              have y2:=q2 y hy4
              have y3:=Pr.len hy4
              have y4:=Pr.whole hy4
              have y5:=k8 y hy4
              have l1:=q2 { w with aq:=(j:Int) } ho
              have ht3:=hT t { w with aq:=(j:Int) } l ((j:Int) != (k:Int)) (dN h ho)
              try try simp only [seval,s1]
              try try simp only [I,B,D,RY,↓ KW,seval,d2,e1,e2,e3,e4,e5,e6,f1,f2,ffill,f0,fz,hn,hn2,hzl,kA,List.nil_append,v0,v1,v2,v3,v4,w0,w1,w2,s1,s2',y0,y1,y2,y3,y4,y5,l1,hy2,hg2,qs]
              refine ⟨rfl,aU (bL ht3 rfl (Nat.le_of_ble_eq_true rfl)) ?_⟩
              try simp only [I,RY,↓ KW,seval,s2',l1]
              refine ji [9] rfl ?_
              try simp only [RY,↓ KW,seval,y0,hy2,hg2]
              refine ⟨rfl,cm (bL (hdo t y l (dN h hy4)) rfl (Nat.le_of_ble_eq_true rfl)) ?_⟩
              try simp only [RY,seval,kA,y3,y4,y5]
              rw [hre]
  · have qs:=qs.1 (.inl (of_decide_eq_true hA))
    try simp only [I,RY,↓ KW,seval,hA,u0,u2,qs,e4,hn2,v0]
    refine af (hR t v h.t hv4) ?_
    try simp only [I,RY,↓ KW,seval,qs]
    cases c1:decide (aN t v ≥ 0)
    · have hT1:gN t v=false:=by rw [hT0,c1]; rfl
      have c2:True:=trivial
      have c3:True:=trivial
      have c4:True:=trivial
      obtain ⟨g,hg,htu⟩:=hTu k (by omega)
      have htu':=htu t v l (dN h hv4) hk
      have ho:=ny (t:=t) (l:=l) hv4
      have hr:=mG t v l
      have hst2:kf t v l=if v.aq=5∧(aI t v l).1=0 then ({ (aI t v l).2 with aq:=0,which:=0,time:=0 },z9 t (aI t v l).2 l)
        else (gp t (aI t v l).2 l (aI t v l).1 v.aq,Ar t (gp t (aI t v l).2 l (aI t v l).1 v.aq) l (aI t v l).1):=if_neg (by rw [hT1]; decide)
      rw [hst2] at hre
      generalize (aI t v l).2=w at *
      obtain ⟨j,hj⟩:∃ j:Nat,(aI t v l).1=j:=⟨(aI t v l).1.toNat,by omega⟩
      rw [hj] at htu' hre hr
      have hj6:j < 6:=by omega
      have hy:0≤(k:Int)∧(k:Int) < 6:=by omega
      have hy2:0≤(j:Int)∧(j:Int) < 6:=by omega
      have w0:=q0 w ho
      have w1:=q1 w ho
      have w2:=q2 w ho
      try simp only [RY,↓ KW,seval,hy,hg]
      refine ⟨rfl,aU htu' ?_⟩
      try simp only [I,B,D,RY,↓ KW,seval,qs,e1,e2,e3,e4,e5,e6,f1,f2,ffill,f0,fz,hn,hn2,hzl,kA,List.nil_append,v0,v1,v2,v3,v4,w0,w1,w2]
      cases d1:((k:Int) == 5)
      rotate_left
      cases d2:((j:Int) == 0)
      rotate_left
      · have s1:=q3 w ho 0
        have s2:=q4 { w with aq:=0 } ho 0
        have s3:=q5 { w with aq:=0,which:=0 } ho 0
        obtain ⟨y,hyy⟩:∃ y:Pr,y={ w with aq:=0,which:=0,time:=0 }:=⟨_,rfl⟩
        have hy4:y.held.length=4:=by rw [hyy]; exact ho
        rw [← hyy] at s3 hre
        have hxx:v.aq=5∧(j:Int)=0:=⟨by rw [hk]; simpa using d1,by simpa using d2⟩
        rw [if_pos hxx] at hre
        have y0:=q0 y hy4
        have y3:=Pr.len hy4
        have y4:=Pr.whole hy4
        have y5:=k8 y hy4
        have l1:=q2 { w with aq:=0 } ho
        have l2:=q2 { w with aq:=0,which:=0 } ho
        try simp only [I,RY,↓ KW,seval,d2]
        refine ⟨rfl,aU (bL (hB t w l (dN h ho)) rfl (Nat.le_of_ble_eq_true rfl)) ?_⟩
        try simp only [RY,↓ KW,seval,kA,w2,s1,s2,s3,l1,l2]
        refine dG rfl ?_
        try simp only [RY,↓ KW,seval,kA,y0,y3,y4,y5]
        rw [hre]
      all_goals
        have hxx:¬ (v.aq=5∧(j:Int)=0):=by
          rintro ⟨a,b⟩
          rw [hk] at a
          simp_all
        rw [if_neg hxx] at hre
        obtain ⟨g2,hg2,hdo⟩:=hDo j hj6
        have s1:=q3 w ho j
        obtain ⟨y,hyy⟩:∃ y:Pr,y=gp t w l j v.aq:=⟨_,rfl⟩
        have hy4:y.held.length=4:=by rw [hyy]; exact ho
        have s2:∀ x,x=nu t { w with aq:=(j:Int) } l ((j:Int) != (k:Int))→setCells (cI t { w with aq:=(j:Int) } l) 133 [I x]=cI t y l:=fun x hx=>by
          rw [q5 { w with aq:=(j:Int) } ho x,hx,hyy,gp,hk]
        have s2':=s2 _ rfl
        rw [← hyy] at hre
        have y0:=q0 y hy4
        have y3:=Pr.len hy4
        have y4:=Pr.whole hy4
        have y5:=k8 y hy4
        have l1:=q2 { w with aq:=(j:Int) } ho
        have ht3:=hT t { w with aq:=(j:Int) } l ((j:Int) != (k:Int)) (dN h ho)
        try try simp only [I,RY,↓ KW,seval,w2,s1]
        try try simp only [RY,↓ KW,seval,d2,w2,s1]
        refine ⟨rfl,aU (bL ht3 rfl (Nat.le_of_ble_eq_true rfl)) ?_⟩
        try simp only [I,RY,↓ KW,seval,s2',l1]
        refine ji [9] rfl ?_
        try simp only [RY,↓ KW,seval,y0,hy2,hg2]
        refine ⟨rfl,cm (bL (hdo t y l (dN h hy4)) rfl (Nat.le_of_ble_eq_true rfl)) ?_⟩
        try simp only [RY,seval,kA,y3,y4,y5]
        rw [hre]
    · cases c2:((k:Int) == 0)
      rotate_left
      · have hT1:gN t v=true:=by rw [hT0,c1,c2]; rfl
        have s1:=q3 v hv4 1
        have s2:=q4 { v with aq:=1 } hv4 (aN t v)
        have s3:=q5 { v with aq:=1,which:=aN t v } hv4 0
        have ht1:kf t v l=({ v with aq:=1,which:=aN t v,time:=0 },lO t { v with aq:=1,which:=aN t v,time:=0 } l):=if_pos hT1
        obtain ⟨y,hy⟩:∃ y:Pr,y={ v with aq:=1,which:=aN t v,time:=0 }:=⟨_,rfl⟩
        have hy4:y.held.length=4:=by rw [hy]; exact hv4
        rw [← hy] at ht1 s3
        have y0:=q0 y hy4
        have y3:=Pr.len hy4
        have y4:=Pr.whole hy4
        have y5:=k8 y hy4
        have l1:=q2 { v with aq:=1 } hv4
        have l2:=q2 { v with aq:=1,which:=aN t v } hv4
        try simp only [RY,↓ KW,seval,c2,v2,s1,s2,s3,l1,l2]
        refine ji [5] rfl ?_
        try simp only [RY,↓ KW,seval,y0]
        refine ⟨rfl,cm (bL (hE t y l (dN h hy4)) rfl (Nat.le_of_ble_eq_true rfl)) ?_⟩
        try simp only [RY,seval,kA,y3,y4,y5]
        rw [hre,ht1]
      · cases c3:((k:Int) == 5)
        rotate_left
        · have hT1:gN t v=true:=by rw [hT0,c1,c2,c3]; rfl
          have s1:=q3 v hv4 1
          have s2:=q4 { v with aq:=1 } hv4 (aN t v)
          have s3:=q5 { v with aq:=1,which:=aN t v } hv4 0
          have ht1:kf t v l=({ v with aq:=1,which:=aN t v,time:=0 },lO t { v with aq:=1,which:=aN t v,time:=0 } l):=if_pos hT1
          obtain ⟨y,hy⟩:∃ y:Pr,y={ v with aq:=1,which:=aN t v,time:=0 }:=⟨_,rfl⟩
          have hy4:y.held.length=4:=by rw [hy]; exact hv4
          rw [← hy] at ht1 s3
          have y0:=q0 y hy4
          have y3:=Pr.len hy4
          have y4:=Pr.whole hy4
          have y5:=k8 y hy4
          have l1:=q2 { v with aq:=1 } hv4
          have l2:=q2 { v with aq:=1,which:=aN t v } hv4
          try simp only [RY,↓ KW,seval,c2,c3,v2,s1,s2,s3,l1,l2]
          refine ji [5] rfl ?_
          try simp only [RY,↓ KW,seval,y0]
          refine ⟨rfl,cm (bL (hE t y l (dN h hy4)) rfl (Nat.le_of_ble_eq_true rfl)) ?_⟩
          try simp only [RY,seval,kA,y3,y4,y5]
          rw [hre,ht1]
        · cases c4:decide (aN t v < v.which)
          rotate_left
          · have hT1:gN t v=true:=by rw [hT0,c1,c2,c3,c4]; rfl
            have s1:=q3 v hv4 1
            have s2:=q4 { v with aq:=1 } hv4 (aN t v)
            have s3:=q5 { v with aq:=1,which:=aN t v } hv4 0
            have ht1:kf t v l=({ v with aq:=1,which:=aN t v,time:=0 },lO t { v with aq:=1,which:=aN t v,time:=0 } l):=if_pos hT1
            obtain ⟨y,hy⟩:∃ y:Pr,y={ v with aq:=1,which:=aN t v,time:=0 }:=⟨_,rfl⟩
            have hy4:y.held.length=4:=by rw [hy]; exact hv4
            rw [← hy] at ht1 s3
            have y0:=q0 y hy4
            have y3:=Pr.len hy4
            have y4:=Pr.whole hy4
            have y5:=k8 y hy4
            have l1:=q2 { v with aq:=1 } hv4
            have l2:=q2 { v with aq:=1,which:=aN t v } hv4
            try simp only [I,RY,↓ KW,seval,c2,c3,c4,v0,v2,s1,s2,s3,l1,l2]
            refine ji [5] rfl ?_
            try simp only [RY,↓ KW,seval,y0]
            refine ⟨rfl,cm (bL (hE t y l (dN h hy4)) rfl (Nat.le_of_ble_eq_true rfl)) ?_⟩
            try simp only [RY,seval,kA,y3,y4,y5]
            rw [hre,ht1]
          · have hT1:gN t v=false:=by rw [hT0,c1,c2,c3,c4]; rfl
            obtain ⟨g,hg,htu⟩:=hTu k (by omega)
            have htu':=htu t v l (dN h hv4) hk
            have ho:=ny (t:=t) (l:=l) hv4
            have hr:=mG t v l
            have hst2:kf t v l=if v.aq=5∧(aI t v l).1=0 then ({ (aI t v l).2 with aq:=0,which:=0,time:=0 },z9 t (aI t v l).2 l)
              else (gp t (aI t v l).2 l (aI t v l).1 v.aq,Ar t (gp t (aI t v l).2 l (aI t v l).1 v.aq) l (aI t v l).1):=if_neg (by rw [hT1]; decide)
            rw [hst2] at hre
            generalize (aI t v l).2=w at *
            obtain ⟨j,hj⟩:∃ j:Nat,(aI t v l).1=j:=⟨(aI t v l).1.toNat,by omega⟩
            rw [hj] at htu' hre hr
            have hj6:j < 6:=by omega
            have hy:0≤(k:Int)∧(k:Int) < 6:=by omega
            have hy2:0≤(j:Int)∧(j:Int) < 6:=by omega
            have w0:=q0 w ho
            have w1:=q1 w ho
            have w2:=q2 w ho
            try simp only [I,RY,↓ KW,seval,c2,c3,c4,hy,hg,v0]
            refine ⟨rfl,aU htu' ?_⟩
            try simp only [I,RY,↓ KW,seval,w2]
            have d1:=c3
            have d2:True:=trivial
            all_goals
              have hxx:¬ (v.aq=5∧(j:Int)=0):=by
                rintro ⟨a,b⟩
                rw [hk] at a
                simp_all
              rw [if_neg hxx] at hre
              obtain ⟨g2,hg2,hdo⟩:=hDo j hj6
              have s1:=q3 w ho j
              obtain ⟨y,hyy⟩:∃ y:Pr,y=gp t w l j v.aq:=⟨_,rfl⟩
              have hy4:y.held.length=4:=by rw [hyy]; exact ho
              have s2:∀ x,x=nu t { w with aq:=(j:Int) } l ((j:Int) != (k:Int))→setCells (cI t { w with aq:=(j:Int) } l) 133 [I x]=cI t y l:=fun x hx=>by
                rw [q5 { w with aq:=(j:Int) } ho x,hx,hyy,gp,hk]
              have s2':=s2 _ rfl
              rw [← hyy] at hre
              have y0:=q0 y hy4
              have y1:=q1 y hy4
              have y2:=q2 y hy4
              have y3:=Pr.len hy4
              have y4:=Pr.whole hy4
              have y5:=k8 y hy4
              have l1:=q2 { w with aq:=(j:Int) } ho
              have ht3:=hT t { w with aq:=(j:Int) } l ((j:Int) != (k:Int)) (dN h ho)
              try try simp only [seval,s1]
              try try simp only [I,B,D,RY,↓ KW,seval,d2,e1,e2,e3,e4,e5,e6,f1,f2,ffill,f0,fz,hn,hn2,hzl,kA,List.nil_append,v0,v1,v2,v3,v4,w0,w1,w2,s1,s2',y0,y1,y2,y3,y4,y5,l1,hy2,hg2,qs]
              refine ⟨rfl,aU (bL ht3 rfl (Nat.le_of_ble_eq_true rfl)) ?_⟩
              try simp only [I,RY,↓ KW,seval,s2',l1]
              refine ji [9] rfl ?_
              try simp only [RY,↓ KW,seval,y0,hy2,hg2]
              refine ⟨rfl,cm (bL (hdo t y l (dN h hy4)) rfl (Nat.le_of_ble_eq_true rfl)) ?_⟩
              try simp only [RY,seval,kA,y3,y4,y5]
              rw [hre]
end
def abF(x y:Int):Prop:=∀i,i<8->tb x i=true->tb y i=true
def ZX(x y:Int):Prop:=∀i,i<8->tb x i=true->tb y i=false
structure ab4 (t:Tb) (l:List Rn) (to:Int) (a:Ac):Prop where
 cs:Can a.start
 cf:Can a.fin
 cc:Can a.cut
 start:∀p,p<8->tb a.start p=true->nr t l p=true
 sub:abF a.start to
 cut:∀p,p<8->tb a.cut p=true->zb (bp l p)=true
 fin:∀p,p<8->tb a.fin p=true->ga (bp l p)=true
 ab5:ZX a.fin to
 ab6:ZX a.cut to
def Uq(t:Tb):Prop:=∀x∈cU t,aR t x.p=(x,true)
structure F6 (t u:Tb):Prop where
 groups:u.groups=t.groups
 bQ:u.bQ=t.bQ
 on:wE u=wE t
 share:u.share=t.share
 revert:u.revert=t.revert
 extend:u.extend=t.extend
 same:∀p,(aX u p).min=(aX t p).min/\(aX u p).walk=(aX t p).walk/\(aX u p).f7=(aX t p).f7/\(aX u p).ei=(aX t p).ei
 more:∀p,(aX t p).top<=(aX u p).top/\(aX t p).red<=(aX u p).red
theorem mH{a b:Int} (h:a<=b):iJ a<=iJ b:=by simp only[AX];omega
theorem zj{α:Type} {f g:α->Int}:∀{l:List α},(∀x∈l,f x<=g x)->xG (l.map f)<=xG (l.map g)
 |[],_=>Int.le_refl _
 |x::l,h=>by
  have h1:=mH (h x List.mem_cons_self)
  have ih:=zj (l:=l) fun y hy=>h y (List.mem_cons_of_mem _ hy)
  simp only[xG,List.map_cons,List.sum_cons]at*;omega
theorem Dh{α:Type} {f g:α->Int}:∀{l:List α},(∀x∈l,f x<=g x)->gQ (l.map f)<=gQ (l.map g)
 |[],_=>Int.le_refl _
 |x::l,h=>by
  have h1:=h x List.mem_cons_self
  have ih:=Dh (l:=l) fun y hy=>h y (List.mem_cons_of_mem _ hy)
  simp only[List.map_cons,Cm];omega
section
variable{t u:Tb} (h:F6 t u)
include h
theorem F6.clear:lH t<=lH u:=by
 rw[lH,lH,h.on]
 refine Dh fun p _=>?_
 have h1:=(h.same p).2.2.2
 have h2:=(h.more p).2
 rw[FQ,FQ,uy,uy,h1];simp only[AX];omega
theorem F6.serve(p:Int):kr t p<=kr u p:=by
 obtain⟨h1,h2,h3,h4⟩:=h.same p;obtain⟨h5,h6⟩:=h.more p
 have h7:=h.extend
 have h8:=h.revert
 rw[kr,kr,h.on];split
 ·rw[h1,h2,h3,h4,h7,h8,FQ (aX t p).walk (aX t p).f7,mw,mw]
  have hAB:gQ [iJ (aX t p).min,Fu (aX t p).walk (aX t p).f7,iJ (aX t p).top]<=gQ [iJ (aX t p).min,Fu (aX t p).walk (aX t p).f7,iJ (aX u p).top]:=by
   have:=mH h5
   simp only[Cm,LW];omega
  have a1:=mH hAB
  have a2:=mH h6
  simp only[xG,List.map_cons,List.map_nil,List.sum_cons,List.sum_nil];omega
 ·exact Int.le_refl _
theorem F6.cU:Eng.cU u=Eng.cU t:=by rw[Eng.cU,Eng.cU,h.groups]
theorem F6.abG(p:Int):aR u p=aR t p:=by rw[aR,aR,h.cU]
theorem F6.pass(g:Int):nQ t g<=nQ u g:=by
 rw[nQ,nQ,h.groups];split
 ·exact Int.le_refl _
 ·rw[mw,mw,gy,gy,h.cU]
  have:=zj (l:=((Eng.cU t).take (Eng.cU t).length).filter fun x=>x.group==g) (f:=fun x=>kr t x.p) (g:=fun x=>kr u x.p) fun x _=>h.serve x.p
  simp only[xG,List.map_cons,List.sum_cons]at*;omega
theorem F6.free(p:Int):oU t p<=oU u p:=by
 rw[oU,oU,h.abG,h.on,h.groups];split
 ·rw[mw,mw]
  have h1:=mH (h.pass (aR t p).1.group)
  have:=zj (l:=List.range (t.groups.getD []).length) (f:=fun(g:Nat)=>nQ t g) (g:=fun(g:Nat)=>nQ u g) fun g _=>h.pass g
  simp only[xG,List.map_cons,List.sum_cons]at*;omega
 ·exact Int.le_refl _
theorem F6.rl(k:Int):vS u k=vS t k:=by rw[vS,vS,h.bQ]
theorem F6.entry(k:Int):qq t k<=qq u k:=by
 have h1:=mH h.clear
 have h2:=h.revert
 rw[qq,qq,h.bQ];split
 ·exact Int.le_refl _
 ·rw[h.rl,h2,mw,mw]
  simp only[xG,List.map_cons,List.map_nil,List.sum_cons,List.sum_nil];omega
end
def abH:Ph:={(default:Ph)with on:=true,min:=5,max:=20,top:=20,ei:=10,red:=2}
def t10:Tb:={nD with phases:=abH::List.replicate 7 default}
end Go.Eng
