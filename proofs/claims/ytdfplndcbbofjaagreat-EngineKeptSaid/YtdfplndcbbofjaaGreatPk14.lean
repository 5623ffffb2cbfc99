/- The engine and the library,part 14 of 16: what the proofs of this seat need of them. -/
import Derived.Test.YtdfplndcbbofjaaGreatPk13
set_option linter.unnecessarySimpa false
set_option linter.unusedSimpArgs false
set_option linter.unusedVariables false
set_option linter.defProp false
set_option maxRecDepth 10000
set_option maxHeartbeats 4000000
namespace Go.Eng
open Go
section
variable {P:Program} (hm:P.follows .mixedOrders=true) {f:Nat}
include hm
theorem z6.ok {fR fH:Nat} (hc:aL P f=some (pT fR fH)) (hR:Bp.Spec (Pure P) fR) (hH:kN.Spec (Pure P) fH):z6.Spec (Pure P) f:=by
 intro t g r at' want ht
 have hl:=Tb.len ht
 have hp:=Tb.whole ht
 have hln:=z5 ht g r
 refine an hm hc (by show 5≤33; decide) (aj (keep:=[]) (i:=0) ?_)
 try simp only [I,B,D,RX,↓ KW,seval,pT,Z.H,hl,hp]
 refine af (hR t g r ht) ?_
 have hP:∀ i,PW t g r at' want i=(decide ((i:Int) > at') && dR want (((iM t g r).getD []).getD i 0)):=fun _=>rfl
 have hE:Qu t g r at' want=match (List.range ((iM t g r).getD []).length).find? (PW t g r at' want) with
  | some i=>(i:Int)
  | none=>-1:=rfl
 generalize PW t g r at' want=pr at *
 generalize Qu t g r at' want=res at *
 generalize iM t g r=row at *
 try simp only [I,B,D,RX,↓ KW,seval]
 refine aF (fun k:Nat=>(⟨[(18,.dat (I k) none),(17,.dat (I (row.getD []).length) none),(16,.dat (aE az row) none),(3,.dat (I at') none),(4,.dat (I want) none)],[],[],400⟩:S)) (fun k=>(row.getD []).length - k) (fun k=>k≤(row.getD []).length∧∀ q,q < k→pr q=false) ?_ 0 ⟨by omega,by omega⟩ ?_
 rotate_left
 ·refine ai (by decide) ?_ ?_ ?_ ?_<;>simp [LX,I,B,D]
 rintro k ⟨hk,hno⟩ A back
 have hwr:=aB (k:=k) (by omega)
 try simp only [I,B,D,RX,↓ KW,seval]
 cases h:decide ((k:Int) < ((row.getD []).length:Int))
 ·have hk':k=(row.getD []).length:=by have:=of_decide_eq_false h; omega
  have hf:(List.range (row.getD []).length).find? pr=none:=oN fun x hx=>hno x (by have:=List.mem_range.1 hx; omega)
  rw [hf] at hE
  try simp only [I,B,D,RX,↓ KW,seval,h]
  rw [hE]
 ·have h8:k < (row.getD []).length:=by have:=of_decide_eq_true h; omega
  obtain ⟨x,hx⟩:∃ x,(row.getD [])[k]? = some x:=⟨_,List.getElem?_eq_getElem h8⟩
  have hxd:(row.getD []).getD k 0=x:=by rw [List.getD_eq_getElem?_getD,hx]; rfl
  have hpk:=hP k
  rw [hxd] at hpk
  try simp only [I,B,D,RX,↓ KW,seval,h,hx,az]
  refine ⟨by omega,?_⟩
  try simp only [I,B,D,RX,↓ KW,seval,hx,az]
  cases h1:decide ((k:Int) > at')
  ·have hx2:pr k=false:=by rw [hpk,h1]; rfl
   try simp only [I,B,D,RX,↓ KW,seval,h1]
   refine back (k + 1) _ ⟨by omega,fun q hq'=>?_⟩ (by omega) ?_
   ·by_cases e:q=k
    ·rw [e]; exact hx2
    ·exact hno q (by omega)
   ·refine ai (by decide) ?_ ?_ ?_ ?_<;>simp [LX,I,B,D,hwr]
  ·try simp only [I,B,D,RX,↓ KW,seval,h1]
   refine af (hH want x) ?_
   cases h2:dR want x
   ·have hx2:pr k=false:=by rw [hpk,h1,h2]; rfl
    try simp only [I,B,D,RX,↓ KW,seval]
    refine back (k + 1) _ ⟨by omega,fun q hq'=>?_⟩ (by omega) ?_
    ·by_cases e:q=k
     ·rw [e]; exact hx2
     ·exact hno q (by omega)
    ·refine ai (by decide) ?_ ?_ ?_ ?_<;>simp [LX,I,B,D,hwr]
   ·have hx2:pr k=true:=by rw [hpk,h1,h2]; rfl
    have hf:(List.range (row.getD []).length).find? pr=some k:=sC (List.getElem?_range h8) hx2 (fun y hy=>hno y (by rw [List.take_range] at hy; have:=List.mem_range.1 hy; omega))
    rw [hf] at hE
    try simp only [I,B,D,RX,↓ KW,seval]
    rw [hE]
theorem Et.ok {fR fO:Nat} (hc:aL P f=some (lB fR fO)) (hR:Bp.Spec (Pure P) fR) (hO:setOf.Spec (Pure P) fO):Et.Spec (Pure P) f:=by
 intro t g ht
 have hl:=Tb.len ht
 have hp:=Tb.whole ht
 have l0:=z5 ht g 0
 have l1:=z5 ht g 1
 refine an hm hc (by show 2≤14; decide) (aj (keep:=[]) (i:=0) ?_)
 try simp only [I,B,D,RX,↓ KW,seval,lB,Z.H,hl,hp]
 refine af (hR t g 0 ht) ?_
 try simp only [I,B,D,RX,↓ KW,seval,hp]
 refine af (hO _ (by omega)) ?_
 try simp only [I,B,D,RX,↓ KW,seval,hp]
 refine af (hR t g 1 ht) ?_
 try simp only [I,B,D,RX,↓ KW,seval,hp]
 refine af (hO _ (by omega)) ?_
 try simp only [I,B,D,RX,↓ KW,seval]
 rfl
theorem Eu.ok {fM:Nat} (hc:aL P f=some (jx fM)) (hM:Et.Spec (Pure P) fM):Eu.Spec (Pure P) f:=by
 intro t g want ht
 have hl:=Tb.len ht
 have hp:=Tb.whole ht
 have hg:=Tb.lR ht
 have hgl:=ht.groups
 have hE:Qx t g want=match (List.range (t.groups.getD []).length).find? (TQ t g want) with
  | some k=>Qw t g k
  | none=>-1:=rfl
 have hP:∀ k,TQ t g want k=(dB .i64 (Qv t (Qw t g k)) want != 0):=fun _=>rfl
 have hF:∀ k,Qw t g k=(IntKind.i64.wrap (IntKind.i64.wrap (Th t g + 1) + k)).tmod (t.groups.getD []).length:=fun _=>rfl
 have hw0:IntKind.i64.wrap (((t.groups.getD []).length:Int) - 1)=IntKind.i64.wrap ((t.groups.getD []).length - 1):=rfl
 refine an hm hc (by show 3≤40; decide) (aj (keep:=[]) (i:=0) ?_)
 try simp only [I,B,D,RX,↓ KW,seval,jx,Z.H,hl,hp,hg]
 have hG:(g < 0∨((t.groups.getD []).length:Int)≤g→IntKind.i64.wrap (((t.groups.getD []).length:Int) - 1)=Th t g)∧(¬ (g < 0∨((t.groups.getD []).length:Int)≤g)→g=Th t g) :=
  ⟨fun h=>(if_pos h).symm,fun h=>(if_neg h).symm⟩
 generalize hgr:Th t g=g0 at *
 generalize Qw t g=fg at *
 generalize TQ t g want=pr at *
 generalize Qx t g want=res at *
 cases c1:decide (g < 0)
 cases c2:decide (g ≥ ((t.groups.getD []).length:Int))
 ·have e0:=hG.2 (by have:=of_decide_eq_false c1; have:=of_decide_eq_false c2; omega)
  subst e0
  try simp only [I,B,D,RX,↓ KW,seval,c1,c2,hl,hp,hg]
  refine aF (fun k:Nat=>(⟨[(23,.dat (I k) none),(22,.dat (I (t.groups.getD []).length) none),(1,.dat (I g) none),(7,.dat (I (t.groups.getD []).length) none),(3,.ptr 4 0),(2,.dat (I want) none)],[(4,⟨t.cells,[]⟩)],[],400⟩:S)) (fun k=>(t.groups.getD []).length - k) (fun k=>k≤(t.groups.getD []).length∧∀ q,q < k→pr q=false) ?_ 0 ⟨by omega,by omega⟩ ?_
  rotate_left
  ·refine ai (by decide) ?_ ?_ ?_ ?_<;>simp [LX,I,B,D]
  rintro k ⟨hk,hno⟩ A back
  have hwr:=aB (k:=k) (by omega)
  try simp only [I,B,D,RX,↓ KW,seval]
  cases h:decide ((k:Int) < ((t.groups.getD []).length:Int))
  ·have hk':k=(t.groups.getD []).length:=by have:=of_decide_eq_false h; omega
   have hf:(List.range (t.groups.getD []).length).find? pr=none:=oN fun x hx=>hno x (by have:=List.mem_range.1 hx; omega)
   rw [hf] at hE
   try simp only [I,B,D,RX,↓ KW,seval,h]
   rw [hE]
  ·have h8:k < (t.groups.getD []).length:=by have:=of_decide_eq_true h; omega
   have hFk:=hF k
   have hne:(((t.groups.getD []).length:Int)=0)=False:=by simp; intro h; rw [h] at h8; simp at h8
   have hPk:=hP k
   try simp only [I,B,D,RX,↓ KW,seval,h,hne,hl,hp,hg]
   rw [← hFk]
   refine af (hM t (fg k) ht) ?_
   cases h2:(dB .i64 (Qv t (fg k)) want != 0)
   ·have hx2:pr k=false:=by rw [hPk,h2]
    try simp only [I,B,D,RX,↓ KW,seval,h2]
    refine back (k + 1) _ ⟨by omega,fun q hq'=>?_⟩ (by omega) ?_
    ·by_cases e:q=k
     ·rw [e]; exact hx2
     ·exact hno q (by omega)
    ·refine ai (by decide) ?_ ?_ ?_ ?_<;>simp [LX,I,B,D,hwr]
   ·have hx2:pr k=true:=by rw [hPk,h2]
    have hf:(List.range (t.groups.getD []).length).find? pr=some k:=sC (List.getElem?_range h8) hx2 (fun y hy=>hno y (by rw [List.take_range] at hy; have:=List.mem_range.1 hy; omega))
    rw [hf] at hE
    try simp only [I,B,D,RX,↓ KW,seval,h2]
    rw [hE]
 ·have e0:=hG.1 (.inr (by have:=of_decide_eq_true c2; omega))
  try simp only [I,B,D,RX,↓ KW,seval,c1,c2,hl,hp,hg]
  refine aF (fun k:Nat=>(⟨[(23,.dat (I k) none),(22,.dat (I (t.groups.getD []).length) none),(1,.dat (I g0) none),(7,.dat (I (t.groups.getD []).length) none),(3,.ptr 4 0),(2,.dat (I want) none)],[(4,⟨t.cells,[]⟩)],[],400⟩:S)) (fun k=>(t.groups.getD []).length - k) (fun k=>k≤(t.groups.getD []).length∧∀ q,q < k→pr q=false) ?_ 0 ⟨by omega,by omega⟩ ?_
  rotate_left
  ·refine ai (by decide) ?_ ?_ ?_ ?_<;>simp [LX,I,B,D,e0]
  rintro k ⟨hk,hno⟩ A back
  have hwr:=aB (k:=k) (by omega)
  try simp only [I,B,D,RX,↓ KW,seval]
  cases h:decide ((k:Int) < ((t.groups.getD []).length:Int))
  ·have hk':k=(t.groups.getD []).length:=by have:=of_decide_eq_false h; omega
   have hf:(List.range (t.groups.getD []).length).find? pr=none:=oN fun x hx=>hno x (by have:=List.mem_range.1 hx; omega)
   rw [hf] at hE
   try simp only [I,B,D,RX,↓ KW,seval,h]
   rw [hE]
  ·have h8:k < (t.groups.getD []).length:=by have:=of_decide_eq_true h; omega
   have hFk:=hF k
   have hne:(((t.groups.getD []).length:Int)=0)=False:=by simp; intro h; rw [h] at h8; simp at h8
   have hPk:=hP k
   try simp only [I,B,D,RX,↓ KW,seval,h,hne,hl,hp,hg]
   rw [← hFk]
   refine af (hM t (fg k) ht) ?_
   cases h2:(dB .i64 (Qv t (fg k)) want != 0)
   ·have hx2:pr k=false:=by rw [hPk,h2]
    try simp only [I,B,D,RX,↓ KW,seval,h2]
    refine back (k + 1) _ ⟨by omega,fun q hq'=>?_⟩ (by omega) ?_
    ·by_cases e:q=k
     ·rw [e]; exact hx2
     ·exact hno q (by omega)
    ·refine ai (by decide) ?_ ?_ ?_ ?_<;>simp [LX,I,B,D,hwr]
   ·have hx2:pr k=true:=by rw [hPk,h2]
    have hf:(List.range (t.groups.getD []).length).find? pr=some k:=sC (List.getElem?_range h8) hx2 (fun y hy=>hno y (by rw [List.take_range] at hy; have:=List.mem_range.1 hy; omega))
    rw [hf] at hE
    try simp only [I,B,D,RX,↓ KW,seval,h2]
    rw [hE]
 ·have e0:=hG.1 (.inl (of_decide_eq_true c1))
  try simp only [I,B,D,RX,↓ KW,seval,c1,hl,hp,hg]
  refine aF (fun k:Nat=>(⟨[(23,.dat (I k) none),(22,.dat (I (t.groups.getD []).length) none),(1,.dat (I g0) none),(7,.dat (I (t.groups.getD []).length) none),(3,.ptr 4 0),(2,.dat (I want) none)],[(4,⟨t.cells,[]⟩)],[],400⟩:S)) (fun k=>(t.groups.getD []).length - k) (fun k=>k≤(t.groups.getD []).length∧∀ q,q < k→pr q=false) ?_ 0 ⟨by omega,by omega⟩ ?_
  rotate_left
  ·refine ai (by decide) ?_ ?_ ?_ ?_<;>simp [LX,I,B,D,e0]
  rintro k ⟨hk,hno⟩ A back
  have hwr:=aB (k:=k) (by omega)
  try simp only [I,B,D,RX,↓ KW,seval]
  cases h:decide ((k:Int) < ((t.groups.getD []).length:Int))
  ·have hk':k=(t.groups.getD []).length:=by have:=of_decide_eq_false h; omega
   have hf:(List.range (t.groups.getD []).length).find? pr=none:=oN fun x hx=>hno x (by have:=List.mem_range.1 hx; omega)
   rw [hf] at hE
   try simp only [I,B,D,RX,↓ KW,seval,h]
   rw [hE]
  ·have h8:k < (t.groups.getD []).length:=by have:=of_decide_eq_true h; omega
   have hFk:=hF k
   have hne:(((t.groups.getD []).length:Int)=0)=False:=by simp; intro h; rw [h] at h8; simp at h8
   have hPk:=hP k
   try simp only [I,B,D,RX,↓ KW,seval,h,hne,hl,hp,hg]
   rw [← hFk]
   refine af (hM t (fg k) ht) ?_
   cases h2:(dB .i64 (Qv t (fg k)) want != 0)
   ·have hx2:pr k=false:=by rw [hPk,h2]
    try simp only [I,B,D,RX,↓ KW,seval,h2]
    refine back (k + 1) _ ⟨by omega,fun q hq'=>?_⟩ (by omega) ?_
    ·by_cases e:q=k
     ·rw [e]; exact hx2
     ·exact hno q (by omega)
    ·refine ai (by decide) ?_ ?_ ?_ ?_<;>simp [LX,I,B,D,hwr]
   ·have hx2:pr k=true:=by rw [hPk,h2]
    have hf:(List.range (t.groups.getD []).length).find? pr=some k:=sC (List.getElem?_range h8) hx2 (fun y hy=>hno y (by rw [List.take_range] at hy; have:=List.mem_range.1 hy; omega))
    rw [hf] at hE
    try simp only [I,B,D,RX,↓ KW,seval,h2]
    rw [hE]
theorem Ir.ok {e fO:Nat} (hc:aL P f=some (t9 e fO)) (hO:setOf.Spec (Pure P) fO):Ir.Spec (Pure P) f:=by
 intro t g r pl ht
 have hl:=Tb.len ht
 have hg:=Tb.lR ht
 refine an hm hc (by show 4≤55; decide) (aj (keep:=[]) (i:=0) ?_)
 try simp only [I,B,D,RX,↓ KW,seval,t9,Z.H,hl,hg]
 by_cases h0:g < 0∨((t.groups.getD []).length:Int)≤g∨r < 0∨1 < r
 ·have hx:qg t g r pl=-1:=if_pos h0
  rw [hx]
  cases h1:decide (g < 0)
  ·try simp only [I,B,D,RX,↓ KW,seval,h1,hg]
   cases h2:decide (g ≥ ((t.groups.getD []).length:Int))
   ·try simp only [I,B,D,RX,↓ KW,seval,h2,hg]
    cases h3:decide (r < 0)
    ·have h4:decide (r > 1)=true:=by
      have:=of_decide_eq_false h1; have:=of_decide_eq_false h2; have:=of_decide_eq_false h3; simp; omega
     try simp only [I,B,D,RX,↓ KW,seval,h3,h4]
    ·try simp only [I,B,D,RX,↓ KW,seval,h3]
   ·try simp only [I,B,D,RX,↓ KW,seval,h2]
  ·try simp only [I,B,D,RX,↓ KW,seval,h1]
 have hx:iM t g r=((t.groups.getD []).getD g.toNat default).row r.toNat:=if_neg h0
 have hat:qg t g r pl=if pl < 0∨(((iM t g r).getD []).length:Int)≤pl then -1
  else if 0≤((iM t g r).getD []).getD pl.toNat 0∧((iM t g r).getD []).getD pl.toNat 0 < 8 then ((iM t g r).getD []).getD pl.toNat 0 else -1:=if_neg h0
 have h1:decide (g < 0)=false:=by simp; omega
 have h2:decide (g ≥ ((t.groups.getD []).length:Int))=false:=by simp; omega
 have h3:decide (r < 0)=false:=by simp; omega
 have h4:decide (r > 1)=false:=by simp; omega
 obtain ⟨gr,hgr⟩:∃ gr,(t.groups.getD [])[g.toNat]? = some gr:=⟨_,List.getElem?_eq_getElem (by omega)⟩
 have hgd:(t.groups.getD []).getD g.toNat default=gr:=by rw [List.getD_eq_getElem?_getD,hgr]; rfl
 rw [hgd] at hx
 have hrow:(gr.cells.drop r.toNat)[0]? = some (aE az (gr.row r.toNat)):=by
  have:r=0∨r=1:=by omega
  rcases this with rfl|rfl<;>rfl
 rw [← hx] at hrow
 have hgl:gr.cells.length=2:=rfl
 have hgt:gr.cells.take 2=gr.cells:=rfl
 have hy:0≤g∧g < ((t.groups.getD []).length:Int):=by omega
 have hy2:0≤r∧r < 2:=by omega
 generalize qg t g r pl=res at *
 generalize iM t g r=row at *
 try simp only [I,B,D,RX,↓ KW,seval,h1,h2,h3,h4,hg,hgr,hgl,hgt,hy,hy2,hrow]
 by_cases h5:pl < 0∨((row.getD []).length:Int)≤pl
 ·rw [if_pos h5] at hat
  rw [hat]
  cases h6:decide (pl < 0)
  ·have h7:decide (pl ≥ ((row.getD []).length:Int))=true:=by have:=of_decide_eq_false h6; simp; omega
   try simp only [I,B,D,RX,↓ KW,seval,h6,h7]
  ·try simp only [I,B,D,RX,↓ KW,seval,h6]
 ·rw [if_neg h5] at hat
  have h6:decide (pl < 0)=false:=by simp; omega
  have h7:decide (pl ≥ ((row.getD []).length:Int))=false:=by simp; omega
  obtain ⟨x,hx2⟩:∃ x,(row.getD [])[pl.toNat]? = some x:=⟨_,List.getElem?_eq_getElem (by omega)⟩
  have hxd:(row.getD []).getD pl.toNat 0=x:=by rw [List.getD_eq_getElem?_getD,hx2]; rfl
  rw [hxd] at hat
  have ho:=Cy x
  have hy3:0≤pl∧pl < ((row.getD []).length:Int):=by omega
  try simp only [I,B,D,RX,↓ KW,seval,h6,h7,hy3,hx2,az]
  have hOx:=hO (some [x]) (by simp)
  obtain ⟨z,hz⟩:∃ z,PK ((some [x]:Option (List Int)).getD [])=z:=⟨_,rfl⟩
  have hs:(z == 0)=!(decide (0≤x) && decide (x < 8)):=by rw [← hz]; exact ho
  rw [hz] at hOx
  refine af hOx ?_
  by_cases h8:0≤x∧x < 8
  ·rw [if_pos h8] at hat
   rw [decide_eq_true h8.1,decide_eq_true h8.2] at hs
   try simp only [I,B,D,RX,↓ KW,seval,hs,hy3,hx2,az,Bool.and_self]
   rw [hat]
  ·rw [if_neg h8] at hat
   have h9:(decide (0≤x) && decide (x < 8))=false:=by
    rw [← Bool.decide_and]; exact decide_eq_false h8
   rw [h9] at hs
   try simp only [I,B,D,RX,↓ KW,seval,hs,hy3,hx2,az]
   rw [hat]
theorem Ev.ok {fA:Nat} (hc:aL P f=some (rI fA)) (hA:Ir.Spec (Pure P) fA):Ev.Spec (Pure P) f:=by
 intro t r k ht
 have hl:=Tb.len ht
 have hp:=Tb.whole ht
 have hr0:r.cells[0]? = some (I r.group):=rfl
 refine an hm hc (by show 3≤22; decide) (aj (keep:=[]) (i:=0) ?_)
 try simp only [I,B,D,RX,↓ KW,seval,rI,Z.H,hl,hp,hr0]
 cases h1:decide (k < 0)
 ·try simp only [I,B,D,RX,↓ KW,seval,h1]
  cases h2:decide (k > 1)
  ·try simp only [I,B,D,RX,↓ KW,seval,h2,hp,hr0]
   have a:=of_decide_eq_false h1
   have b:=of_decide_eq_false h2
   have hy:0≤k∧k < 2:=by omega
   have hr1:r.cells[1 + k.toNat]? = some (I (r.at k)):=by
    have:k=0∨k=1:=by omega
    rcases this with rfl|rfl<;>rfl
   try simp only [I,B,D,RX,↓ KW,seval,hy,hr1]
   refine af (hA t r.group k (r.at k) ht) ?_
   try simp only [I,B,D,RX,↓ KW,seval]
   rw [mV,if_neg (by omega)]
  ·try simp only [I,B,D,RX,↓ KW,seval,h2]
   rw [mV,if_pos (.inr (of_decide_eq_true h2))]
 ·try simp only [I,B,D,RX,↓ KW,seval,h1]
  rw [mV,if_pos (.inl (of_decide_eq_true h1))]
theorem vA.ok {fW:Nat} (hc:aL P f=some (om fW)) (hW:tZ.Spec (Pure P) fW):vA.Spec (Pure P) f:=by
 intro t r k q ht
 have hl:=Tb.len ht
 have hp:=Tb.whole ht
 have hr0:r.cells[0]? = some (I r.group):=rfl
 have hwr:=fun h=>jY (t:=t) (q:=q) h
 have hE:Ti t r k q=((ay t q).2 && (ay t q).1.group == r.group && (ay t q).1.ring != k && decide ((ay t q).1.pos > r.at (ay t q).1.ring)):=rfl
 refine an hm hc (by show 4≤41; decide) (aj (keep:=[]) (i:=0) ?_)
 try simp only [I,B,D,RX,↓ KW,seval,om,Z.H,hl,hp,hr0]
 refine af (hW t q ht) ?_
 generalize (ay t q).2=ok at *
 generalize (ay t q).1=w at *
 generalize Ti t r k q=res at *
 cases ok
 ·try simp only [I,B,D,RX,↓ KW,seval]
  rw [hE]; rfl
 try simp only [I,B,D,RX,↓ KW,seval,hr0]
 have hy:0≤w.ring∧w.ring < 2:=hwr rfl
 have hr1:r.cells[1 + w.ring.toNat]? = some (I (r.at w.ring)):=by
  have:w.ring=0∨w.ring=1:=by omega
  rcases this with e|e<;>rw [e]<;>rfl
 cases h1:(w.group == r.group)
 ·try simp only [I,B,D,RX,↓ KW,seval,h1]
  rw [hE,h1]; rfl
 try simp only [I,B,D,RX,↓ KW,seval,h1]
 cases h2:(w.ring != k)
 ·try simp only [I,B,D,RX,↓ KW,seval,h2]
  rw [hE,h1,h2]; rfl
 try simp only [I,B,D,RX,↓ KW,seval,h2,hy,hr1]
 rw [hE,h1,h2]; rfl
end
end Go.Eng
namespace Go.Eng
open Go
open Ieee
set_option exponentiation.threshold 4000
def rk (x:Nat):Int:=if x < 2 ^ 63 then (x:Int) else -((x:Int) - (2 ^ 63:Nat)) - 1
def fv:Option Nat→AV
 | none=>.dX
 | some n=>Fl n
theorem Kt:i6 .dX=.dat .dX none:=rfl
end Go.Eng
namespace Go.Eng
open Go
section
open Z
def Bq:List AV:=[.float .f64 0,.float .f64 0,.float .f64 0,.float .f64 0,.float .f64 0,.float .f64 0,.float .f64 0,.float .f64 0,.float .f64 0,.float .f64 0,.float .f64 0,.float .f64 0,.float .f64 0,.float .f64 0,.float .f64 0,.float .f64 0]
def iE (g0 g1 g2 g3 g4 g5 g6 g7 g8:Nat):bY:=⟨90,[.tmp 4],r [V 4 (F)] (r [M 12 0,o 13 (.call g0 [t 12]),o 5 (.alloc dV),n (s 5 13 131)] (r [M 14 1,o 15 (.call g1 [t 14,k (F)]),M 6 15] (r [o 16 (L 5 131),o 17 (.call g2 [t 16]),o 7 (.alloc bB),n (s 7 17 117)] (j (r [V 8 (i 0)] (u 0 (.loop (j (r [M 18 8,M 19 6,o 20 (h 19),o 21 (b .lss 18 20)] (c 21 z (.exit 0))) (j (u 1 (r [o 24 (L 5 131),o 25 (L 7 117),M 26 6,M 27 8,o 28 (a 26 27 6),o 29 (L 28 6),o 30 (.call g3 [t 29]),o 31 (.call g4 [t 24,t 25,t 30]),n (s 7 31 117)] (r [o 32 (f 7 0),o 33 (L 32 96),o 34 (.call g5 [t 33]),M 9 34] (r [V 10 (i 0)] (u 2 (.loop (j (r [M 35 10,o 36 (bb .lss 35 (i 8))] (c 36 z (.exit 2))) (j (u 3 (j (r [M 39 10,o 40 (f 7 0),o 41 (A 40 39 8 12),o 42 (f 41 2),o 43 (f 42 0),o 44 (l 43),o 45 (bb .neq 44 (i 0)),M 46 45,p 47 (m 10) 46,p 48 (f 7 0) 46,p 49 (A 48 47 8 12) 46,p 50 (f 49 0) 46,p 51 (l 50) 46,p 52 (bb .neq 51 (i 1)) 46,o 53 (P 46 52),M 54 53,q 55 (m 10) 54,q 56 (f 5 0) 54,q 57 (A 56 55 8 13) 54,q 58 (f 57 0) 54,q 59 (l 58) 54,q 60 (.un .not (t 59)) 54,q 61 (m 60) 54,p 62 (m 9) 61,p 63 (m 10) 61,p 64 (.call g6 [t 62,t 63]) 61,p 65 (.un .not (t 64)) 61,q 66 (P 61 65) 54,o 67 (Q 54 66)] (c 67 (r [V 4 (F)] y) z)) (r [V 11 (i 0)] (u 4 (.loop (j (r [M 68 11,M 69 10,o 70 (b .lss 68 69)] (c 70 z (.exit 4))) (j (u 5 (r [o 73 (L 5 131),M 74 10,M 75 11,o 76 (.call g7 [t 73,t 74,t 75]),M 77 76,p 78 (m 9) 77,p 79 (m 10) 77,p 80 (.call g6 [t 78,t 79]) 77,p 81 (.un .not (t 80)) 77,o 82 (P 77 81),M 83 82,p 84 (m 9) 83,p 85 (m 11) 83,p 86 (.call g6 [t 84,t 85]) 83,p 87 (.un .not (t 86)) 83,o 88 (P 83 87)] (c 88 (r [V 4 (F)] y) z))) (R [M 71 11,o 72 (bb .add 71 (i 1)),M 11 72])))))))) (R [M 37 10,o 38 (bb .add 37 (i 1)),M 10 38]))))))))) (R [M 22 8,o 23 (bb .add 22 (i 1)),M 8 23])))))) (r [o 89 (.call g8 []),M 4 89] y)))))⟩
def iF (g0 g1 g2 g3 g4 g5 g6 g7:Nat):bY:=⟨67,[.tmp 4],r [V 4 (F)] (r [M 12 0,o 13 (.call g0 [t 12]),o 5 (.alloc dV),n (s 5 13 131)] (r [M 14 1,o 15 (.call g1 [t 14,k (F)]),M 6 15] (r [o 16 (L 5 131),o 17 (.call g2 [t 16]),o 7 (.alloc bB),n (s 7 17 117)] (j (r [V 8 (i 0)] (u 0 (.loop (j (r [M 18 8,M 19 6,o 20 (h 19),o 21 (b .lss 18 20)] (c 21 z (.exit 0))) (j (u 1 (r [o 24 (L 7 117),o 9 (.alloc bB),n (s 9 24 117)] (r [o 25 (L 5 131),o 26 (L 7 117),M 27 6,M 28 8,o 29 (a 27 28 6),o 30 (L 29 6),o 31 (.call g3 [t 30]),o 32 (.call g4 [t 25,t 26,t 31]),n (s 7 32 117)] (j (r [o 33 (f 9 114),o 34 (f 33 0),o 35 (l 34),o 36 (f 7 114),o 37 (f 36 0),o 38 (l 37),o 39 (b .andNot 35 38),o 40 (L 9 117),o 41 (.call g5 [t 40]),o 42 (b .andNot 39 41),o 43 (bb .and 42 (i 255)),o 44 (bb .neq 43 (i 0))] (c 44 (r [V 4 (F)] y) z)) (r [o 45 (f 9 114),o 46 (f 45 1),o 47 (l 46),o 48 (f 7 114),o 49 (f 48 1),o 50 (l 49),o 51 (b .andNot 47 50),o 52 (.call g6 [t 51]),o 53 (h 52),V 54 (i 0)] (u 2 (.loop (r [o 55 (b .lss 54 53)] (j (c 55 z (.exit 2)) (j (u 3 (r [o 56 (a 52 54 1),o 57 (l 56),M 11 57] (r [M 58 11,o 59 (f 9 0),o 60 (A 59 58 8 12),o 61 (f 60 2),o 62 (f 61 0),o 63 (l 62),o 64 (bb .neq 63 (i 1))] (c 64 (r [V 4 (F)] y) z)))) (R [o 65 (bb .add 54 (i 1)),M 54 65]))))))))))) (R [M 22 8,o 23 (bb .add 22 (i 1)),M 8 23])))))) (r [o 66 (.call g7 []),M 4 66] y)))))⟩
def lD (g0 g1 g2 g3 g4 g5:Nat):bY:=⟨200,[.tmp 4],r [V 4 .bw] (r [V 5 .bw] (r [o 6 (.alloc Bq)] (r [V 7 (i 16)] (r [o 18 (.build [.bw,i 0,i 0,i 0,i 0,F] []),o 8 (.alloc [.bw,i 0,i 0,i 0,i 0,F]),n (s 8 18 6)] (j (r [V 9 (i 0)] (u 0 (.loop (j (r [M 19 9,M 20 0,o 21 (h 20),o 22 (b .lss 19 21),M 23 22,p 24 (m 9) 23,p 25 (bb .lss 24 (i 120)) 23,o 26 (P 23 25),M 27 26,p 28 (m 5) 27,p 29 (h 28) 27,p 30 (bb .lss 29 (i 1500)) 27,o 31 (P 27 30)] (c 31 z (.exit 0))) (j (u 1 (r [M 34 0,M 35 9,o 36 (a 34 35 1),o 37 (l 36),o 38 (.call g0 [t 37,k (i 1099511627776)]),M 10 38] (r [M 39 10,o 40 (bb .quo 39 (i 16)),o 41 (bb .rem 40 (i 64)),M 11 41] (r [M 42 10,o 43 (bb .quo 42 (i 1024)),o 44 (bb .rem 43 (i 30)),o 45 (.bin .add (k (i 1)) (t 44)),M 12 45] (r [o 46 (.build [.bw,i 0,i 0,i 0,i 0,F] []),o 13 (.alloc [.bw,i 0,i 0,i 0,i 0,F]),n (s 13 46 6)] (j (r [M 47 10,o 48 (bb .rem 47 (i 16))] (u 2 (j (r [o 50 (bb .eql 48 (i 0)),M 49 50] (c 49 z (r [o 51 (bb .eql 48 (i 1)),M 49 51] (c 49 z (R [o 52 (bb .eql 48 (i 2)),M 49 52]))))) (c 49 (R [M 53 11,o 54 (bb .rem 53 (i 16)),M 55 11,o 56 (bb .rem 55 (i 16)),o 57 (A 6 56 16 1),o 58 (l 57),o 59 (.bin .sub (k (.float .f64 4626322717216342016)) (t 58)),o 60 (A 6 54 16 1),n (s 60 59 1)]) (r [o 62 (bb .eql 48 (i 3)),M 61 62] (c 61 (R [M 63 11,o 64 (bb .rem 63 (i 16)),o 65 (.call g1 []),o 66 (.call g2 [k (i 1)]),o 67 (.call g3 [k (.float .f64 0),k (.float .f64 13830554455654793216)]),o 68 (.build [.float .f64 0,.float .f64 0,.float .f64 0,.float .f64 0,.float .f64 0,.float .f64 0] [(0,1,t 65),(1,1,t 66),(2,1,t 67),(3,1,k (.float .f64 4613937818241073152)),(4,1,k (.float .f64 4711630319722168320)),(5,1,k (.float .f64 4604930618986332160))]),M 69 11,o 70 (bb .rem 69 (i 6)),o 71 (.CY (t 68) (t 70) 6 1 none),o 72 (A 6 64 16 1),n (s 72 71 1)]) (j (r [o 74 (bb .eql 48 (i 4)),M 73 74] (c 73 z (R [o 75 (bb .eql 48 (i 5)),M 73 75]))) (c 73 (R [M 76 10,o 77 (bb .quo 76 (i 1024)),o 78 (bb .rem 77 (i 256)),o 79 (f 13 1),n (s 79 78 1)]) (r [o 81 (bb .eql 48 (i 6)),M 80 81] (c 80 (R [o 82 (f 8 2),o 83 (l 82),M 84 11,o 85 (bb .rem 84 (i 4)),o 86 (.tr .u64 (t 85)),o 87 (.bin .shl (k (i 1)) (t 86)),o 88 (b .xor 83 87),o 89 (f 8 2),n (s 89 88 1)]) (r [o 91 (bb .eql 48 (i 7)),M 90 91] (c 90 (R [M 92 11,o 93 (bb .rem 92 (i 4)),o 94 (.tr .u64 (t 93)),o 95 (.bin .shl (k (i 1)) (t 94)),o 96 (f 13 3),n (s 96 95 1)]) (r [o 98 (bb .eql 48 (i 8)),M 97 98] (c 97 (R [o 99 (f 8 3),o 100 (l 99),M 101 11,o 102 (bb .rem 101 (i 4)),o 103 (.tr .u64 (t 102)),o 104 (.bin .shl (k (i 1)) (t 103)),o 105 (b .xor 100 104),o 106 (f 8 3),n (s 106 105 1)]) (r [o 108 (bb .eql 48 (i 9)),M 107 108] (c 107 (R [M 109 12,o 110 (bb .mul 109 (i 6)),M 12 110]) (r [o 112 (bb .eql 48 (i 10)),M 111 112] (c 111 (r [V 14 (i 0)] (u 3 (.loop (j (r [M 113 14,o 114 (bb .lss 113 (i 16))] (c 114 z (.exit 3))) (j (u 4 (R [M 117 14,M 118 11,o 119 (bb .rem 118 (i 2)),o 120 (bb .mul 119 (i 20)),o 121 (.AA .f64 (t 120)),o 122 (A 6 117 16 1),n (s 122 121 1)])) (R [M 115 14,o 116 (bb .add 115 (i 1)),M 14 116])))))) (r [o 124 (bb .eql 48 (i 11)),M 123 124] (c 123 (R [M 125 11,o 126 (bb .rem 125 (i 17)),M 7 126]) (r [o 128 (bb .eql 48 (i 12)),M 127 128] (c 127 (r [o 129 (f 8 3),n (ss 129 (i 0) 1)] (R [V 7 (i 16)])) (r [o 131 (bb .eql 48 (i 13)),M 130 131] (c 130 (j (r [M 132 1,M 133 132,p 134 (m 11) 133,p 135 (bb .rem 134 (i 4)) 133,p 136 (bb .eql 135 (i 0)) 133,o 137 (P 133 136)] (c 137 (R [M 138 11,o 139 (.tr .u64 (t 138)),o 140 (.bin .shl (k (i 256)) (t 139)),o 141 (f 13 1),n (s 141 140 1)]) z)) (j (r [M 142 1,M 143 142,p 144 (m 11) 143,p 145 (bb .rem 144 (i 4)) 143,p 146 (bb .eql 145 (i 1)) 143,o 147 (P 143 146)] (c 147 (R [M 148 10,o 149 (bb .quo 148 (i 1024)),o 150 (bb .rem 149 (i 256)),o 151 (f 13 4),n (s 151 150 1)]) z)) (R [M 152 1,M 153 152,p 154 (m 11) 153,p 155 (bb .rem 154 (i 2)) 153,p 156 (bb .eql 155 (i 0)) 153,o 157 (P 153 156),o 158 (f 13 5),n (s 158 157 1)]))) z)))))))))))))))))))))))) (r [M 159 7,o 160 (.Qg (t 6) 16 1 (t 159)),o 161 (.AB g4 1 8 (t 160) (t 6)),M 15 161] (r [V 16 (i 0)] (u 5 (.loop (j (r [M 162 16,M 163 12,o 164 (b .lss 162 163),M 165 164,p 166 (m 5) 165,p 167 (h 166) 165,p 168 (bb .lss 167 (i 1500)) 165,o 169 (P 165 168)] (c 169 z (.exit 5))) (j (u 6 (r [M 172 15,o 173 (f 8 2),o 174 (l 173),o 175 (f 8 3),o 176 (l 175),o 177 (.build [.bw,i 0,i 0,i 0,i 0,F] [(0,1,t 172),(2,1,t 174),(3,1,t 176)]),o 17 (.alloc [.bw,i 0,i 0,i 0,i 0,F]),n (s 17 177 6)] (j (r [M 178 16,o 179 (bb .eql 178 (i 0))] (c 179 (r [o 180 (f 13 1),o 181 (l 180),o 182 (f 17 1),n (s 182 181 1)] (r [o 183 (f 13 4),o 184 (l 183),o 185 (f 17 4),n (s 185 184 1)] (r [o 186 (f 17 3),o 187 (l 186),o 188 (f 13 3),o 189 (l 188),o 190 (b .or 187 189),o 191 (f 17 3),n (s 191 190 1)] (R [o 192 (f 13 5),o 193 (l 192),o 194 (f 17 5),n (s 194 193 1)])))) z)) (R [M 195 5,o 196 (L 17 6),o 197 (.oU g5 6 [t 196]),o 198 (.app g5 6 64 (t 195) (t 197)),M 5 198])))) (R [M 170 16,o 171 (bb .add 170 (i 1)),M 16 171]))))))))))))) (R [M 32 9,o 33 (bb .add 32 (i 1)),M 9 33])))))) (r [M 199 5,M 4 199] y))))))⟩
def mS:bY:=⟨12,[.cell 2 (some 4)],r [o 1 (w 0),o 2 (.alloc [.bw,i 0,i 0,i 0])] (r [o 3 (f 1 0),o 4 (l 3),o 5 (f 1 1),o 6 (l 5),o 7 (f 1 2),o 8 (l 7),o 9 (f 1 3),o 10 (l 9),o 11 (.build [.bw,i 0,i 0,i 0] [(0,1,t 4),(1,1,t 6),(2,1,t 8),(3,1,t 10)]),n (s 2 11 4)] y)⟩
def mT (g0 g1 g2 g3 g4:Nat):bY:=⟨25,[.tmp 0],r [V 0 (F)] (r [o 1 (.alloc dV)] (r [o 3 (.build de [(0,1,k (T)),(1,1,k (i 1)),(3,1,k (i 1)),(4,1,k (i 1)),(6,1,k (i 10)),(10,1,k (i 1))]),o 4 (f 1 0),o 5 (.Hf (t 4) (k (i 0)) 8 13),n (s 5 3 13)] (r [o 6 (f 1 121),o 7 (.Hf (t 6) (k (i 0)) 8 1),n (ss 7 (i 1) 1)] (r [o 8 (.oU g0 1 [k (i 0)]),o 9 (.build [.bw,.bw] [(0,1,t 8),(1,1,k .bw)]),o 10 (.oU g1 2 [t 9]),o 11 (f 1 104),n (s 11 10 1)] (r [o 12 (L 1 131),o 13 (.call g2 [t 12]),o 2 (.alloc bB),n (s 2 13 117)] (r [o 14 (L 2 117),o 15 (.call g3 [t 14]),o 16 (bb .eql 15 (i 0)),M 17 16,p 18 (L 1 131) 17,p 19 (L 2 117) 17,p 20 (.build [.bw,i 0,i 0,i 0] []) 17,p 21 (.call g4 [t 18,t 19,t 20]) 17,p 22 (.call g3 [t 21]) 17,p 23 (bb .eql 22 (i 1)) 17,o 24 (P 17 23),M 0 24] y))))))⟩
def rT:bY:=⟨2,[.tmp 0],r [V 0 (.float .f64 0)] (r [o 1 (.xt .ffrom (k (.int .u64 9221120237041090561))),M 0 1] y)⟩
def rU:bY:=⟨8,[.tmp 2],r [V 2 (.float .f64 0)] (r [V 3 (.int .u64 0)] (j (r [M 4 0,o 5 (bb .geq 4 (i 0))] (c 5 (R [V 3 (.int .u64 9218868437227405312)]) (R [V 3 (.int .u64 18442240474082181120)]))) (r [M 6 3,o 7 (.xt .ffrom (t 6)),M 2 7] y)))⟩
def jZ:bY:=⟨13,[.tmp 4],r [V 4 (.float .f64 0)] (r [M 5 0,o 6 (.xt .CX (t 5)),o 7 (bb .andNot 6 (.int .u64 9223372036854775808)),M 8 1,o 9 (.xt .CX (t 8)),o 10 (bb .and 9 (.int .u64 9223372036854775808)),o 11 (b .or 7 10),o 12 (.xt .ffrom (t 11)),M 4 12] y)⟩
end
end Go.Eng
namespace Go.Eng
open Go
def UC (x:Nat):Bool:=IB x 13920209183539462144 && Ib x 4696837146684686336
def VB (d:uM) (on:Bool) (dA:Int) (x:Nat):Bool × Int :=
 if UC x then (if IB x d.on then (true,0) else if Ib x d.off then (false,0) else (on,0)) else (on,ck dA)
def Ex (d:uM) (on:Bool) (dA:Int):Option Nat→Bool × Int
 | some x=>VB d on dA x
 | none=>(on,ck dA)
def xC (on:Bool) (dA:Int):Bool:=on || decide (dA ≥ 3)
def TR (K3 AL:Int) (b:Bool):Int × Int:=if b then (ck K3,0) else (0,ck AL)
def MU (a b K3 AL:Int):Bool:=(decide (a > 0) && decide (K3 ≥ a)) || (decide (b > 0) && decide (AL ≥ b))
def c9 (n:Int):Int:=lM n 0 9999
def MV (delay extend held tail:Int) (out b:Bool):Int × Int × Bool :=
 if !b && (held == 0 && (tail == 0 && out == false)) then (held,tail,out)
 else if (if b then ck held else 0) > c9 delay then ((if b then ck held else 0),c9 extend,true)
 else if out && decide (c9 tail > 0) then ((if b then ck held else 0),c9 tail - 1,true)
 else ((if b then ck held else 0),0,false)
def FG (x:Nat):Int:=if K1 x then (tk x:Int) else 0
def FH (d:uM) (c:Ch) (x:Option Nat):Ch :=
  ⟨(Ex d c.on c.dA x).1,(Ex d c.on c.dA x).2,(TR c.K3 c.AL (xC (Ex d c.on c.dA x).1 (Ex d c.on c.dA x).2)).1,(TR c.K3 c.AL (xC (Ex d c.on c.dA x).1 (Ex d c.on c.dA x).2)).2,
   (MV (FG d.delay) (FG d.extend) c.held c.tail c.out (xC (Ex d c.on c.dA x).1 (Ex d c.on c.dA x).2)).1,(MV (FG d.delay) (FG d.extend) c.held c.tail c.out (xC (Ex d c.on c.dA x).1 (Ex d c.on c.dA x).2)).2.1,(MV (FG d.delay) (FG d.extend) c.held c.tail c.out (xC (Ex d c.on c.dA x).1 (Ex d c.on c.dA x).2)).2.2⟩
def UD:Nat:=9221120237041090561
def z8 (l:List Ch) (k:Nat):Ch:=l.getD k default
def Ey (l:List (Option Nat)) (k:Nat):Option Nat:=l.getD k none
def ny (t:Tb) (l:List Ch) (x:List (Option Nat)) (n:Nat):List Ch:=(List.range n).map fun k=>FH (D0 t k) (z8 l k) (Ey x k)
def mU (x:Option Nat):List AV:=[fv x]
def Br (d:uM) (c:Ch):Bool:=c.out || (decide (c.dA ≥ 3) || MU d.maxOn d.qL c.K3 c.AL)
def jz (t:Tb) (l:List Ch):Nat→Int
 | 0=>0
 | k + 1=>if Br (D0 t k) (z8 l k) then cY (jz t l k) (D0 t k).phase else jz t l k
def rW.Spec (C:bk) (f:Nat):Prop:=∀ n:Int,C.c f [I n] (I (ck n)) none
def z9.Spec (C:bk) (f:Nat):Prop:=∀ (d:uM) (on:Bool) (dA:Int) (x:Option Nat),C.c f [.agg d.cells,.agg [B on,I dA],fv x] (.agg [B (Ex d on dA x).1,I (Ex d on dA x).2]) none
def wJ.Spec (C:bk) (f:Nat):Prop:=∀ (on:Bool) (dA:Int),C.c f [.agg [B on,I dA]] (B (decide (dA ≥ 3))) none
def Aa.Spec (C:bk) (f:Nat):Prop:=∀ (on:Bool) (dA:Int),C.c f [.agg [B on,I dA]] (B (xC on dA)) none
def Ab.Spec (C:bk) (f:Nat):Prop:=∀ (a b:Int) (x:Bool),C.c f [.agg [I a,I b],B x] (.agg [I (TR a b x).1,I (TR a b x).2]) none
def vC.Spec (C:bk) (f:Nat):Prop:=∀ (a b x y:Int),C.c f [I a,I b,.agg [I x,I y]] (B (MU a b x y)) none
def Ez.Spec (C:bk) (f:Nat):Prop:=∀ n:Int,C.c f [I n] (I (c9 n)) none
def Ad.Spec (C:bk) (f:Nat):Prop:=∀ (a b held tail:Int) (out x:Bool),C.c f [I a,I b,.agg [I held,I tail,B out],B x] (.agg [I (MV a b held tail out x).1,I (MV a b held tail out x).2.1,B (MV a b held tail out x).2.2]) none
def EA.Spec (C:bk) (f:Nat):Prop:=∀ (l:Option (List Ch)) (k:Nat),(l.getD []).length≤1000000→C.c f [aE Ch.cells l,I k,.agg (Ch.cells default)] (.agg (z8 (l.getD []) k).cells) none
def EC.Spec (C:bk) (f:Nat):Prop:=∀ (l:Option (List (Option Nat))) (k:Nat),(l.getD []).length≤1000000→C.c f [aE mU l,I k,.dX] (fv (Ey (l.getD []) k)) none
def vD.Spec (C:bk) (f:Nat):Prop:=∀ x:Nat,x < 2 ^ 64→C.c f [Fl x] (I (FG x)) none
def Is.Spec (C:bk) (f:Nat):Prop:=C.c f [] .dX none
section
variable {P:Program} (hm:P.follows .mixedOrders=true) {f:Nat}
include hm
theorem rW.ok (hc:aL P f=some oo):rW.Spec (Pure P) f:=by
 intro n
 have h1:=Ks n
 refine an hm hc (by show 1≤7; decide) (aj (keep:=[]) (i:=0) ?_)
 try simp only [I,B,D,RX,↓ KW,seval,oo,Z.H]
 rw [h1]; rfl
theorem PX.ok (hc:aL P f=some pV):rW.Spec (Pure P) f:=by
 intro n
 have h1:=Ks n
 refine an hm hc (by show 1≤7; decide) (aj (keep:=[]) (i:=0) ?_)
 try simp only [I,B,D,RX,↓ KW,seval,pV,Z.H]
 rw [h1]; rfl
theorem Ez.ok (hc:aL P f=some pW):Ez.Spec (Pure P) f:=by
 intro n
 have h1:=Ks n
 refine an hm hc (by show 1≤6; decide) (aj (keep:=[]) (i:=0) ?_)
 try simp only [I,B,D,RX,↓ KW,seval,pW,Z.H]
 rw [h1]; rfl
theorem Is.ok (hc:aL P f=some rT):Is.Spec (Pure P) f:=by
 show (Pure P).c f [] .dX none
 refine Pq (n:=UD) (by decide +kernel) ?_
 refine an hm hc (by show 0≤2; decide) (aj (keep:=[]) (i:=0) ?_)
 try simp only [I,B,D,RX,↓ KW,seval,rT,Z.H]
 all_goals rfl
theorem vD.ok {fS:Nat} (hc:aL P f=some (lu fS)) (hS:zA.Spec (Pure P) fS):vD.Spec (Pure P) f:=by
 intro x hx
 refine an hm hc (by show 1≤11; decide) (aj (keep:=[]) (i:=0) ?_)
 try simp only [I,B,D,RX,↓ KW,seval,lu,Z.H]
 refine af (hS x hx) ?_
 try simp only [I,B,D,RX,↓ KW,seval,Ig]
 rfl
theorem wJ.ok (hc:aL P f=some lz):wJ.Spec (Pure P) f:=by
 intro on dA
 refine an hm hc (by show 1≤6; decide) (aj (keep:=[]) (i:=0) ?_)
 try simp only [I,B,D,RX,↓ KW,seval,lz,Z.H]
 try rfl
theorem Aa.ok {fF:Nat} (hc:aL P f=some (od fF)) (hF:wJ.Spec (Pure P) fF):Aa.Spec (Pure P) f:=by
 intro on dA
 refine an hm hc (by show 1≤9; decide) (aj (keep:=[]) (i:=0) ?_)
 try simp only [I,B,D,RX,↓ KW,seval,od,Z.H]
 cases on
 ·try simp only [I,B,D,RX,↓ KW,seval]
  refine af (hF false dA) ?_
  try simp only [I,B,D,RX,↓ KW,seval]
  simp [xC]
 ·try simp only [I,B,D,RX,↓ KW,seval]
  simp [xC]
theorem z9.ok {fM:Nat} (hc:aL P f=some (j7 fM)) (hM:rW.Spec (Pure P) fM):z9.Spec (Pure P) f:=by
 intro d on dA x
 have q1:d.cells[1]? = some (Fl d.on)∧d.cells[2]? = some (Fl d.off):=⟨rfl,rfl⟩
 cases x with
 | none =>
  have hE:Ex d on dA none=(on,ck dA):=rfl
  rw [hE]
  show (Pure P).c f [.agg d.cells,.agg [B on,I dA],.dX] _ none
  refine an hm hc (by show 3≤35; decide) (aj (keep:=[]) (i:=0) ?_)
  try simp only [I,B,D,RX,↓ KW,seval,j7,Z.H,K2,Vx,Kt,q1]
  refine af (hM _) ?_
  try simp only [I,B,D,RX,↓ KW,seval]
 | some x =>
  show (Pure P).c f [.agg d.cells,.agg [B on,I dA],Fl x] _ none
  have hE:Ex d on dA (some x)=if IB x 13920209183539462144 && Ib x 4696837146684686336 then (if IB x d.on then (true,0) else if Ib x d.off then (false,0) else (on,0)) else (on,ck dA):=rfl
  generalize Ex d on dA (some x)=res at *
  refine an hm hc (by show 3≤35; decide) (aj (keep:=[]) (i:=0) ?_)
  try simp only [I,B,D,RX,↓ KW,seval,j7,Z.H,K2,q1]
  cases h1:IB x 13920209183539462144<;>cases h2:Ib x 4696837146684686336<;>cases h3:IB x d.on<;>cases h4:Ib x d.off<;>rw [h1,h2,h3,h4] at hE
  all_goals try simp only [I,B,D,RX,↓ KW,seval,h1,h2,h3,h4,K2,q1]
  all_goals try simp only [I,B,D,RX,↓ KW,seval,h1,h2,h3,h4,K2,q1]
  all_goals (try (refine af (hM _) ?_))
  all_goals try simp only [I,B,D,RX,↓ KW,seval,h1,h2,h3,h4,K2,q1]
  all_goals (rw [hE]; rfl)
theorem Ab.ok {fM:Nat} (hc:aL P f=some (pS fM)) (hM:rW.Spec (Pure P) fM):Ab.Spec (Pure P) f:=by
 intro a b x
 refine an hm hc (by show 2≤14; decide) (aj (keep:=[]) (i:=0) ?_)
 try simp only [I,B,D,RX,↓ KW,seval,pS,Z.H]
 cases x
 ·try simp only [I,B,D,RX,↓ KW,seval]
  refine af (hM _) ?_
  try simp only [I,B,D,RX,↓ KW,seval]
  rfl
 ·try simp only [I,B,D,RX,↓ KW,seval]
  refine af (hM _) ?_
  try simp only [I,B,D,RX,↓ KW,seval]
  rfl
theorem vC.ok (hc:aL P f=some og):vC.Spec (Pure P) f:=by
 intro a b x y
 refine an hm hc (by show 3≤25; decide) (aj (keep:=[]) (i:=0) ?_)
 try simp only [I,B,D,RX,↓ KW,seval,og,Z.H]
 cases h1:decide (a > 0)<;>cases h2:decide (x ≥ a)<;>cases h3:decide (b > 0)<;>cases h4:decide (y ≥ b) <;>
 (try simp only [I,B,D,RX,↓ KW,seval,h1,h2,h3,h4]; try (try simp only [I,B,D,RX,↓ KW,seval,h1,h2,h3,h4]); simp [MU,h1,h2,h3,h4])
end
end Go.Eng
namespace Go.Eng
open Go
section
variable {P:Program} (hm:P.follows .mixedOrders=true) {f:Nat}
include hm
theorem vw.ok {fA fG fO fM fI:Nat} (hc:aL P f=some (iD fA fG fO fM fI)) (hA:Er.Spec (Pure P) fA) (hG:Ep.Spec (Pure P) fG) (hO:wI.Spec (Pure P) fO) (hM:lC.Spec (Pure P) fM) (hI:ue.Spec (Pure P) fI):vw.Spec (Pure P) f:=by
  intro p r c
  have t1:=uf p r c
  have t2:=zZ p r c
  have t3:=z0 p r c
  have t4:=FE p r c
  have hO2:=hO p r c
  obtain ⟨g,hg⟩:∃ g,gQ p r c=g:=⟨_,rfl⟩
  obtain ⟨d,hd⟩:∃ d,cU p g c=d:=⟨_,rfl⟩
  rw [hg,hd] at hO2
  refine an hm hc (by show 1≤59; decide) (aj (keep:=[]) (i:=0) ?_)
  try simp only [I,B,D,RX,↓ KW,seval,iD,Z.H,t1,t2,t3,t4,aQ]
  rcases bc c.fin with h1|h1
  · try simp only [I,B,D,RX,↓ KW,seval,h1,t1,t2,t3,t4]
    refine af hO2 ?_
    try simp only [I,B,D,RX,↓ KW,seval,t1,t2,t3,t4,Rn.cells]
    rcases bc d with h2|h2
    · try simp only [I,B,D,RX,↓ KW,seval,h2,t1,t2,t3,t4,Rn.cells]
      simp [jy,h1,hg,hd,h2,Rn.cells]
    · try simp only [I,B,D,RX,↓ KW,seval,h2,t1,t2,t3,t4,Rn.cells]
      rcases bc c.hold with h3|h3
      · try simp only [I,B,D,RX,↓ KW,seval,h3,h2,t1,t2,t3,t4,Rn.cells]
        rcases bc (decide (g.left > 0)) with h4|h4
        · try simp only [I,B,D,RX,↓ KW,seval,h4,t1,t2,t3,t4,Rn.cells]
          simp [jy,h1,hg,hd,h2,h3,h4,Rn.cells]
        · try simp only [I,B,D,RX,↓ KW,seval,h4,t1,t2,t3,t4,Rn.cells]
          refine af (hI p ⟨g.limit,g.up,g.down⟩) ?_
          try simp only [I,B,D,RX,↓ KW,seval,t1,t2,t3,t4,Rn.cells]
          simp [jy,h1,hg,hd,h2,h3,h4,Rn.cells,bQ]
      · try simp only [I,B,D,RX,↓ KW,seval,h3,h2,t1,t2,t3,t4,Rn.cells]
        refine af (hM g.extra) ?_
        try simp only [I,B,D,RX,↓ KW,seval,t1,t2,t3,t4,Rn.cells]
        simp [jy,h1,hg,hd,h2,h3,Rn.cells]
  · try simp only [I,B,D,RX,↓ KW,seval,h1,t1,t2,t3,t4]
    refine af (hA p r c _ _) ?_
    try simp only [I,B,D,RX,↓ KW,seval,t1,t2,t3,t4,Rn.cells,vt]
    rcases bc r.done with h2|h2
    · try simp only [I,B,D,RX,↓ KW,seval,h2,t1,t2,t3,t4]
      simp [jy,h1,h2,vt,Rn.cells]
    · try simp only [I,B,D,RX,↓ KW,seval,h2,t1,t2,t3,t4]
      refine af (hG p ⟨r.limit,r.up,r.down⟩ r.jE) ?_
      try simp only [I,B,D,RX,↓ KW,seval,t1,t2,t3,t4,Tr.cells]
      simp [jy,h1,h2,vt,Rn.cells]
theorem zY.ok {fO:Nat} (hc:aL P f=some (ob fO)) (hO:wI.Spec (Pure P) fO):zY.Spec (Pure P) f:=by
 intro p r c
 have qp:aD p.cells 0 (some 13)=some (.agg p.cells):=rfl
 have qr:aD r.cells 0 (some 12)=some (.agg r.cells)∧r.cells[0]? = some (I r.aC):=⟨rfl,rfl⟩
 have qc:aD c.cells 0 (some 8)=some (.agg c.cells)∧c.cells[1]? = some (B c.fin)∧c.cells[5]? = some (B c.hold):=⟨rfl,rfl,rfl⟩
 have hO2:=hO p r c
 obtain ⟨g,hg⟩:∃ g,gQ p r c=g:=⟨_,rfl⟩
 obtain ⟨d,hd⟩:∃ d,cU p g c=d:=⟨_,rfl⟩
 rw [hg,hd] at hO2
 have b1:∀ ps,sZ 0 13 (some (.agg p.cells)) (some ps)=some ((0,p.cells) :: ps):=fun _=>rfl
 have b2:∀ ps,sZ 13 12 (some (.agg r.cells)) (some ps)=some ((13,r.cells) :: ps):=fun _=>rfl
 have b3:∀ ps,sZ 25 8 (some (.agg c.cells)) (some ps)=some ((25,c.cells) :: ps):=fun _=>rfl
 have b4:bE ia [(0,p.cells),(13,r.cells),(25,c.cells)]=dK p r c:=rfl
 have b5:setCells ia 0 (dK p r c)=dK p r c:=rfl
 have b6:ia.length=33:=rfl
 refine an hm hc (by show 3≤30; decide) (aj (keep:=[]) (i:=0) ?_)
 try simp only [I,B,D,RX,↓ KW,seval,ob,Z.H,qp,qr,qc,b1,b2,b3,b4]
 rcases bc (r.aC != 1) with h1|h1
 ·try simp only [I,B,D,RX,↓ KW,seval,h1,qp,qr,qc,b1,b2,b3,b4]
  rcases bc c.fin with h2|h2
  ·try simp only [I,B,D,RX,↓ KW,seval,h2,qp,qr,qc,b1,b2,b3,b4]
   rcases bc c.hold with h3|h3
   ·try simp only [I,B,D,RX,↓ KW,seval,h3,qp,qr,qc,b1,b2,b3,b4]
    simp [ud,h1,h2,h3]
   ·try simp only [I,B,D,RX,↓ KW,seval,h3,qp,qr,qc,b1,b2,b3,b4]
    refine af hO2 ?_
    try simp only [I,B,D,RX,↓ KW,seval,qp,qr,qc,b1,b2,b3,b4,Rn.cells,aQ]
    simp [ud,h1,h2,h3,hg,hd]
  ·try simp only [I,B,D,RX,↓ KW,seval,h2,qp,qr,qc,b1,b2,b3,b4]
   simp [ud,h1,h2]
 ·try simp only [I,B,D,RX,↓ KW,seval,h1,qp,qr,qc,b1,b2,b3,b4]
  simp [ud,h1]
theorem zX.ok {fR fG fY fC:Nat} (hc:aL P f=some (oc fR fG fY fC)) (hR:Es.Spec (Pure P) fR) (hG:vw.Spec (Pure P) fG) (hY:rR.Spec (Pure P) fY) (hC:rS.Spec (Pure P) fC):zX.Spec (Pure P) f:=by
 intro p r c
 have qp:aD p.cells 0 (some 13)=some (.agg p.cells):=rfl
 have qr:aD r.cells 0 (some 12)=some (.agg r.cells)∧r.cells[0]? = some (I r.aC):=⟨rfl,rfl⟩
 have qc:aD c.cells 0 (some 8)=some (.agg c.cells)∧c.cells[1]? = some (B c.fin)∧c.cells[5]? = some (B c.hold):=⟨rfl,rfl,rfl⟩
 have t1:=uf p r c
 have b1:∀ ps,sZ 0 13 (some (.agg p.cells)) (some ps)=some ((0,p.cells) :: ps):=fun _=>rfl
 have b2:∀ ps,sZ 13 12 (some (.agg r.cells)) (some ps)=some ((13,r.cells) :: ps):=fun _=>rfl
 have b3:∀ ps,sZ 25 8 (some (.agg c.cells)) (some ps)=some ((25,c.cells) :: ps):=fun _=>rfl
 have b4:bE ia [(0,p.cells),(13,r.cells),(25,c.cells)]=dK p r c:=rfl
 have b5:setCells ia 0 (dK p r c)=dK p r c:=rfl
 have b6:ia.length=33:=rfl
 have b7:∀ x:Rn,setCells aQ 0 x.cells=x.cells∧x.cells.length=12∧aD x.cells 0 (some 12)=some (.agg x.cells):=fun _=>⟨rfl,rfl,rfl⟩
 have b8:aQ.length=12:=rfl
 refine an hm hc (by show 3≤31; decide) (aj (keep:=[]) (i:=0) ?_)
 try simp only [I,B,D,RY,↓ KW,seval,oc,Z.H,qp,qr,qc,t1,b1,b2,b3,b4,b5,b6,b7,b8]
 rcases bc (r.aC == 1) with h1|h1
 ·try simp only [I,B,D,RY,↓ KW,seval,h1,qp,qr,qc,t1,b1,b2,b3,b4,b5,b6,b7,b8]
  rcases bc (r.aC == 2) with h2|h2
  ·try simp only [I,B,D,RY,↓ KW,seval,h2,qp,qr,qc,t1,b1,b2,b3,b4,b5,b6,b7,b8]
   rcases bc (r.aC == 3) with h3|h3
   ·try simp only [I,B,D,RY,↓ KW,seval,h3,qp,qr,qc,t1,b1,b2,b3,b4,b5,b6,b7,b8]
    refine ⟨rfl,af (hR p r c) ?_⟩
    try simp only [I,B,D,RY,↓ KW,seval,qp,qr,qc,t1,b1,b2,b3,b4,b5,b6,b7,b8]
    simp [c7,h1,h2,h3]
   ·try simp only [I,B,D,RY,↓ KW,seval,h3,qp,qr,qc,t1,b1,b2,b3,b4,b5,b6,b7,b8]
    refine ⟨rfl,rfl,af (hC p r c) ?_⟩
    try simp only [I,B,D,RY,↓ KW,seval,qp,qr,qc,t1,b1,b2,b3,b4,b5,b6,b7,b8]
    simp [c7,h1,h2,h3]
  ·try simp only [I,B,D,RY,↓ KW,seval,h2,qp,qr,qc,t1,b1,b2,b3,b4,b5,b6,b7,b8]
   refine ⟨rfl,rfl,af (hY p r c) ?_⟩
   try simp only [I,B,D,RY,↓ KW,seval,qp,qr,qc,t1,b1,b2,b3,b4,b5,b6,b7,b8]
   simp [c7,h1,h2]
 ·try simp only [I,B,D,RY,↓ KW,seval,h1,qp,qr,qc,t1,b1,b2,b3,b4,b5,b6,b7,b8]
  refine ⟨rfl,rfl,af (hG p r c) ?_⟩
  try simp only [I,B,D,RY,↓ KW,seval,qp,qr,qc,t1,b1,b2,b3,b4,b5,b6,b7,b8]
  simp [c7,h1]
end
end Go.Eng
namespace Go.Eng
open Go
section
variable {P:Program} (hm:P.follows .mixedOrders=true) {f:Nat}
include hm
theorem Ad.ok {fC:Nat} (hc:aL P f=some (oe fC)) (hC:Ez.Spec (Pure P) fC):Ad.Spec (Pure P) f:=by
 intro a b held tail out x
 have hE:MV a b held tail out x=if (!x && (held == 0 && (tail == 0 && out == false)))=true then (held,tail,out)
  else if decide ((if x then ck held else 0) > c9 a)=true then ((if x then ck held else 0),c9 b,true)
  else if (out && decide (c9 tail > 0))=true then ((if x then ck held else 0),c9 tail - 1,true)
  else ((if x then ck held else 0),0,false):=by simp only [MV,decide_eq_true_eq]
 have hw:IntKind.i64.wrap (c9 held + 1)=ck held:=by
  have:0≤c9 held∧c9 held≤9999:=by unfold c9 lM; split<;>(try split)<;>omega
  rfl
 have hw2:IntKind.i64.wrap (c9 tail - 1)=c9 tail - 1:=by
  have:0≤c9 tail∧c9 tail≤9999:=by unfold c9 lM; split<;>(try split)<;>omega
  rw [aY (by omega) (by omega)]
 generalize MV a b held tail out x=res at *
 refine an hm hc (by show 4≤50; decide) (aj (keep:=[]) (i:=0) ?_)
 try simp only [I,B,D,RX,↓ KW,seval,oe,Z.H]
 have qe:dm [.i,.i,.b] [.int .i64 held,.int .i64 tail,.bool out] [.int .i64 0,.int .i64 0,.bool false]=some (held == 0 && (tail == 0 && out == false)):=by
  simp [dm,tv]
 have qf:(false != false)=false:=rfl
 have qt:(true != false)=true:=rfl
 rcases bc x with hx|hx
 ·try simp only [I,B,D,RX,↓ KW,seval,hx,qe]
  rcases bc (held == 0 && (tail == 0 && out == false)) with h1|h1
  ·try simp only [I,B,D,RX,↓ KW,seval,h1,qf]
   refine af (hC _) ?_
   try simp only [I,B,D,RX,↓ KW,seval]
   refine af (hC _) ?_
   try simp only [I,B,D,RX,↓ KW,seval]
   rcases bc (decide (0 > c9 a)) with h2|h2
   ·try simp only [I,B,D,RX,↓ KW,seval,h2]
    rcases bc out with h3|h3
    ·try simp only [I,B,D,RX,↓ KW,seval,h3]
     rw [hE,hx,h1]; simp only [h2,h3,Bool.not_false,Bool.not_true,Bool.true_and,Bool.false_and,Bool.and_true,Bool.and_false,Bool.false_eq_true,if_true,if_false]
    ·try simp only [I,B,D,RX,↓ KW,seval,h3]
     rcases bc (decide (c9 tail > 0)) with h4|h4
     ·try simp only [I,B,D,RX,↓ KW,seval,h4]
      rw [hE,hx,h1]; simp only [h2,h3,h4,Bool.not_false,Bool.not_true,Bool.true_and,Bool.false_and,Bool.and_true,Bool.and_false,Bool.false_eq_true,if_true,if_false]
     ·try simp only [I,B,D,RX,↓ KW,seval,h4,hw2]
      rw [hE,hx,h1]; simp only [h2,h3,h4,Bool.not_false,Bool.not_true,Bool.true_and,Bool.false_and,Bool.and_true,Bool.and_false,Bool.false_eq_true,if_true,if_false]
   ·try simp only [I,B,D,RX,↓ KW,seval,h2]
    refine af (hC b) ?_
    try simp only [I,B,D,RX,↓ KW,seval]
    rw [hE,hx,h1]; simp only [h2,Bool.not_false,Bool.not_true,Bool.true_and,Bool.false_and,Bool.and_true,Bool.and_false,Bool.false_eq_true,if_true,if_false]
  ·try simp only [I,B,D,RX,↓ KW,seval,h1,qt]
   rw [hE,hx,h1]; rfl
 ·try simp only [I,B,D,RX,↓ KW,seval,hx]
  refine af (hC _) ?_
  try simp only [I,B,D,RX,↓ KW,seval,hw]
  refine af (hC _) ?_
  try simp only [I,B,D,RX,↓ KW,seval,hw]
  refine af (hC _) ?_
  try simp only [I,B,D,RX,↓ KW,seval,hw]
  rcases bc (decide (ck held > c9 a)) with h2|h2
  ·try simp only [I,B,D,RX,↓ KW,seval,h2]
   rcases bc out with h3|h3
   ·try simp only [I,B,D,RX,↓ KW,seval,h3]
    rw [hE,hx]; simp only [h2,h3,Bool.not_false,Bool.not_true,Bool.true_and,Bool.false_and,Bool.and_true,Bool.and_false,Bool.false_eq_true,if_true,if_false]
   ·try simp only [I,B,D,RX,↓ KW,seval,h3]
    rcases bc (decide (c9 tail > 0)) with h4|h4
    ·try simp only [I,B,D,RX,↓ KW,seval,h4]
     rw [hE,hx]; simp only [h2,h3,h4,Bool.not_false,Bool.not_true,Bool.true_and,Bool.false_and,Bool.and_true,Bool.and_false,Bool.false_eq_true,if_true,if_false]
    ·try simp only [I,B,D,RX,↓ KW,seval,h4,hw2]
     rw [hE,hx]; simp only [h2,h3,h4,Bool.not_false,Bool.not_true,Bool.true_and,Bool.false_and,Bool.and_true,Bool.and_false,Bool.false_eq_true,if_true,if_false]
  ·try simp only [I,B,D,RX,↓ KW,seval,h2]
   refine af (hC b) ?_
   try simp only [I,B,D,RX,↓ KW,seval]
   rw [hE,hx]; simp only [h2,Bool.not_false,Bool.not_true,Bool.true_and,Bool.false_and,Bool.and_true,Bool.and_false,Bool.false_eq_true,if_true,if_false]
theorem EC.ok (hc:aL P f=some gN):EC.Spec (Pure P) f:=by
 intro l k hl
 have hr:∀ x,mU x=[fv x]:=fun _=>rfl
 refine an hm hc (by show 3≤16; decide) (aj (keep:=[]) (i:=0) ?_)
 try simp only [I,B,D,RX,↓ KW,seval,gN,Z.H,Kt]
 rcases bc (decide ((k:Int) < ((l.getD []).length:Int))) with h|h
 ·have h1:(l.getD []).length≤k:=by have:=of_decide_eq_false h; omega
  have h2:Ey (l.getD []) k=none:=by simp [Ey,h1]
  try simp only [I,B,D,RX,↓ KW,seval,h]
  rw [h2]; rfl
 ·have h1:k < (l.getD []).length:=by have:=of_decide_eq_true h; omega
  obtain ⟨x,hx⟩:∃ x,(l.getD [])[k]? = some x:=⟨_,List.getElem?_eq_getElem h1⟩
  have h2:Ey (l.getD []) k=x:=by rw [Ey,List.getD_eq_getElem?_getD,hx]; rfl
  have hy:0≤(k:Int)∧(k:Int) < ((l.getD []).length:Int):=by omega
  try simp only [I,B,D,RX,↓ KW,seval,h,hx,hy,hr]
  rw [h2]
end
end Go.Eng
namespace Go.Eng
open Go
def Ae.Spec (C:bk) (f:Nat):Prop:=∀ (t:Tb) (l:Option (List Ch)) (x:Option (List (Option Nat))),t.Ok→t.Fw→(l.getD []).length≤1000000→(x.getD []).length≤1000000→C.c f [.agg t.cells,aE Ch.cells l,aE mU x] (aE Ch.cells (bW (ny t (l.getD []) (x.getD []) (t.aP.getD []).length))) none
section
variable {P:Program} (hm:P.follows .mixedOrders=true) {f:Nat}
include hm
theorem EA.ok (hc:aL P f=some eJ):EA.Spec (Pure P) f:=by
 intro l k hl
 have hz:(Ch.cells default).length=7:=rfl
 have hz2:aD (Ch.cells default) 0 (some 7)=some (.agg (Ch.cells default)):=rfl
 have hq:∀ x:Ch,x.cells.length=7∧aD x.cells 0 (some 7)=some (.agg x.cells)∧x.cells.take 7=x.cells:=fun _=>⟨rfl,rfl,rfl⟩
 refine an hm hc (by show 3≤16; decide) (aj (keep:=[]) (i:=0) ?_)
 try simp only [I,B,D,RX,↓ KW,seval,eJ,Z.H,hz,hz2]
 rcases bc (decide ((k:Int) < ((l.getD []).length:Int))) with h|h
 ·have h1:(l.getD []).length≤k:=by have:=of_decide_eq_false h; omega
  have h2:z8 (l.getD []) k=default:=by simp [z8,h1]
  try simp only [I,B,D,RX,↓ KW,seval,h,hz,hz2]
  rw [h2]
 ·have h1:k < (l.getD []).length:=by have:=of_decide_eq_true h; omega
  obtain ⟨x,hx⟩:∃ x,(l.getD [])[k]? = some x:=⟨_,List.getElem?_eq_getElem h1⟩
  have h2:z8 (l.getD []) k=x:=by rw [z8,List.getD_eq_getElem?_getD,hx]; rfl
  have hy:0≤(k:Int)∧(k:Int) < ((l.getD []).length:Int):=by omega
  try simp only [I,B,D,RX,↓ KW,seval,h,hx,hy,hq]
  rw [h2]
theorem Ae.ok {fA fN fF fL fS fG fT fY e:Nat} (hc:aL P f=some (mN fA fN fF fL fS fG fT fY e)) (hA:EA.Spec (Pure P) fA) (hN:Is.Spec (Pure P) fN) (hF:EC.Spec (Pure P) fF) (hL:z9.Spec (Pure P) fL) (hS:Aa.Spec (Pure P) fS) (hG:Ab.Spec (Pure P) fG) (hT:vD.Spec (Pure P) fT) (hY:Ad.Spec (Pure P) fY):Ae.Spec (Pure P) f:=by
 intro t l x ht hfw hll hxl
 have hl:=Tb.len ht
 have hd:=ht.ln.JQ
 have hdl:=ht.SD
 refine an hm hc (by show 3≤59; decide) (aj (keep:=[]) (i:=0) ?_)
 try simp only [I,B,D,RX,↓ KW,seval,mN,Z.H,hl,hd]
 refine aF (fun k:Nat=>(⟨[(16,.dat (I k) none),(15,.dat (I (t.aP.getD []).length) none),(14,.dat (aE uM.cells t.aP) none),(1,.dat (aE Ch.cells l) none),(2,.dat (aE mU x) none),(7,bA Ch.cells (ny t (l.getD []) (x.getD []) k) 0)],[],bF (ny t (l.getD []) (x.getD []) k) 0 e,400⟩:S)) (fun k=>(t.aP.getD []).length - k) (fun k=>k≤(t.aP.getD []).length) ?_ 0 (by omega) ?_
 ·intro k hk A back
  have hwr:=aB (k:=k) (by omega)
  have hn1:ny t (l.getD []) (x.getD []) (k + 1)=ny t (l.getD []) (x.getD []) k++[FH (D0 t k) (z8 (l.getD []) k) (Ey (x.getD []) k)]:=by simp [ny,List.range_succ]
  try simp only [I,B,D,RX,↓ KW,seval]
  rcases bc (decide ((k:Int) < ((t.aP.getD []).length:Int))) with h|h
  ·have hk':k=(t.aP.getD []).length:=by have:=of_decide_eq_false h; omega
   subst hk'
   by_cases hc0:ny t (l.getD []) (x.getD []) (t.aP.getD []).length=[]
   ·try simp only [I,B,D,RX,↓ KW,seval,h,bA,bF,hc0]
    rfl
   ·try simp only [I,B,D,RX,↓ KW,seval,h,bA,bF,hc0]
    simp [aE,bW,hc0]
  ·have h1:k < (t.aP.getD []).length:=by have:=of_decide_eq_true h; omega
   obtain ⟨d,hx⟩:∃ d,(t.aP.getD [])[k]? = some d:=⟨_,List.getElem?_eq_getElem h1⟩
   have hd2:D0 t k=d:=by rw [D0,List.getD_eq_getElem?_getD,hx]; rfl
   have hdw:d.Fw:=hfw d (List.mem_of_getElem? hx)
   have hy:0≤(k:Int)∧(k:Int) < ((t.aP.getD []).length:Int):=by omega
   have hq:d.cells.length=7∧aD d.cells 0 (some 7)=some (.agg d.cells)∧d.cells.take 7=d.cells∧d.cells[3]? = some (Fl d.delay)∧d.cells[4]? = some (Fl d.extend):=⟨rfl,rfl,rfl,rfl,rfl⟩
   have hz:∀ y:List AV,y.length=7→setCells [.int .i64 0,.float .f64 0,.float .f64 0,.float .f64 0,.float .f64 0,.int .i64 0,.int .i64 0] 0 y=y:=by intro y hy; exact ep (by rw [hy]; rfl)
   generalize hcs:ny t (l.getD []) (x.getD []) k=cs at *
   obtain ⟨c,hcc⟩:∃ c,z8 (l.getD []) k=c:=⟨_,rfl⟩
   obtain ⟨v,hv⟩:∃ v,Ey (x.getD []) k=v:=⟨_,rfl⟩
   have cA:=hA l k hll
   have cF:=hF x k hxl
   rw [hcc] at cA
   rw [hv] at cF
   rw [hd2,hcc,hv] at hn1
   by_cases hc0:cs=[]
   all_goals
    try simp only [I,B,D,RX,↓ KW,seval,bA,bF,hc0,h,hx,hy,hq]
    refine af cA ?_
    try simp only [I,B,D,RX,↓ KW,seval,Ch.cells,hq]
    refine af hN ?_
    try simp only [I,B,D,RX,↓ KW,seval,Ch.cells,hq]
    refine af cF ?_
    try simp only [I,B,D,RX,↓ KW,seval,Ch.cells,hq]
    refine af (hL d c.on c.dA v) ?_
    try simp only [I,B,D,RX,↓ KW,seval,Ch.cells,hq]
    refine af (hS _ _) ?_
    try simp only [I,B,D,RX,↓ KW,seval,Ch.cells,hq]
    refine af (hG _ _ _) ?_
    try simp only [I,B,D,RX,↓ KW,seval,Ch.cells,hq]
    refine af (hT d.delay (by obtain ⟨_,_,h,_⟩:=hdw; exact h)) ?_
    try simp only [I,B,D,RX,↓ KW,seval,Ch.cells,hq]
    refine af (hT d.extend (by obtain ⟨_,_,_,h⟩:=hdw; exact h)) ?_
    try simp only [I,B,D,RX,↓ KW,seval,Ch.cells,hq]
    refine af (hY _ _ _ _ _ _) ?_
    try simp only [I,B,D,RX,↓ KW,seval,Ch.cells,hq]
    first
     | refine back (k + 1) _ (by omega) (by omega) ?_
     |(have hcl:cs.length=k:=by { rw [← hcs]; simp [ny] }
       refine ⟨by omega,back (k + 1) _ (by omega) (by omega) ?_⟩)
    refine ai (by decide) ?_ ?_ ?_ ?_<;>simp [LX,I,B,D,hn1,hc0,hwr,bA,bF,FH,Ch.cells]
 ·refine ai (by decide) ?_ ?_ ?_ ?_<;>simp [LX,I,B,D,bA,bF,ny]
end
end Go.Eng
namespace Go.Eng
open Go
def Af (t:Tb) (l:List Ch):Nat:=min l.length (t.aP.getD []).length
def Ag.Spec (C:bk) (f:Nat):Prop:=∀ (t:Tb) (l:Option (List Ch)),t.Ok→(l.getD []).length≤1000000→C.c f [.agg t.cells,aE Ch.cells l] (I (jz t (l.getD []) (Af t (l.getD [])))) none
section
variable {P:Program} (hm:P.follows .mixedOrders=true) {f:Nat}
include hm
theorem Ag.ok {fF fS fW:Nat} (hc:aL P f=some (mO fF fS fW)) (hF:wJ.Spec (Pure P) fF) (hS:vC.Spec (Pure P) fS) (hW:gw.Spec (Pure P) fW):Ag.Spec (Pure P) f:=by
  intro t l ht hll
  have hl:=Tb.len ht
  have hd:=ht.ln.JQ
  have hdl:=ht.SD
  refine an hm hc (by show 2≤49; decide) (aj (keep:=[]) (i:=0) ?_)
  try simp only [I,B,D,RX,↓ KW,seval,mO,Z.H,hl,hd]
  refine aF (fun k:Nat=>(⟨[(11,.dat (I k) none),(10,.dat (I (l.getD []).length) none),(9,.dat (aE Ch.cells l) none),(2,.ptr 4 0),(5,.dat (I (jz t (l.getD []) k)) none)],[(4,⟨t.cells,[]⟩)],[],400⟩:S)) (fun k=>(l.getD []).length - k) (fun k=>k≤(l.getD []).length∧k≤(t.aP.getD []).length) ?_ 0 (by omega) ?_
  · rintro k ⟨hk,hkd⟩ A back
    have hwr:=aB (k:=k) (by omega)
    try simp only [I,B,D,RX,↓ KW,seval]
    rcases bc (decide ((k:Int) < ((l.getD []).length:Int))) with h|h
    · have hk':Af t (l.getD [])=k:=by have:=of_decide_eq_false h; unfold Af; omega
      try simp only [I,B,D,RX,↓ KW,seval,h]
      rw [hk']
    · have h1:k < (l.getD []).length:=by have:=of_decide_eq_true h; omega
      obtain ⟨c,hx⟩:∃ c,(l.getD [])[k]? = some c:=⟨_,List.getElem?_eq_getElem h1⟩
      have hcc:z8 (l.getD []) k=c:=by rw [z8,List.getD_eq_getElem?_getD,hx]; rfl
      have hy:0≤(k:Int)∧(k:Int) < ((l.getD []).length:Int):=by omega
      try simp only [I,B,D,RX,↓ KW,seval,h,hx,hy,hd,Ch.cells]
      rcases bc (decide (((t.aP.getD []).length:Int)≤(k:Int))) with h2|h2
      · have h3:k < (t.aP.getD []).length:=by have:=of_decide_eq_false h2; omega
        obtain ⟨d,hx2⟩:∃ d,(t.aP.getD [])[k]? = some d:=⟨_,List.getElem?_eq_getElem h3⟩
        have hd2:D0 t k=d:=by rw [D0,List.getD_eq_getElem?_getD,hx2]; rfl
        have hy2:0≤(k:Int)∧(k:Int) < ((t.aP.getD []).length:Int):=by omega
        have hq:d.cells.length=7∧aD d.cells 0 (some 7)=some (.agg d.cells)∧d.cells.take 7=d.cells∧d.cells[0]? = some (I d.phase)∧d.cells[5]? = some (I d.maxOn)∧d.cells[6]? = some (I d.qL):=⟨rfl,rfl,rfl,rfl,rfl,rfl⟩
        have hE:jz t (l.getD []) (k + 1)=if Br d c then cY (jz t (l.getD []) k) d.phase else jz t (l.getD []) k:=by rw [jz,hd2,hcc]
        try simp only [I,B,D,RX,↓ KW,seval,h2,hx2,hy2,hd,hq]
        rcases bc c.out with a1|a1
        · try simp only [I,B,D,RX,↓ KW,seval,a1,Ch.cells,hq]
          refine af (hF c.on c.dA) ?_
          try simp only [I,B,D,RX,↓ KW,seval,Ch.cells,hq]
          rcases bc (decide (c.dA ≥ 3)) with a2|a2
          · try simp only [I,B,D,RX,↓ KW,seval,a2,Ch.cells,hq]
            refine af (hS d.maxOn d.qL c.K3 c.AL) ?_
            try simp only [I,B,D,RX,↓ KW,seval,Ch.cells,hq]
            rcases bc (MU d.maxOn d.qL c.K3 c.AL) with a3|a3
            · try simp only [I,B,D,RX,↓ KW,seval,a3,Ch.cells,hq]
              have hE2:jz t (l.getD []) (k + 1)=jz t (l.getD []) k:=by rw [hE]; simp only [Br,a1,a2,a3,Bool.or_self,Bool.false_eq_true,if_false]
              refine back (k + 1) _ (by omega) (by omega) ?_
              refine ai (by decide) ?_ ?_ ?_ ?_<;>simp [LX,I,B,D,hwr,hE2]
            · try simp only [I,B,D,RX,↓ KW,seval,a3,Ch.cells,hq]
              have hE2:jz t (l.getD []) (k + 1)=cY (jz t (l.getD []) k) d.phase:=by rw [hE]; simp only [Br,a1,a2,a3,Bool.or_true,Bool.true_or,Bool.or_self,Bool.false_or,if_true]
              refine af (hW _ _) ?_
              try simp only [I,B,D,RX,↓ KW,seval]
              refine back (k + 1) _ (by omega) (by omega) ?_
              refine ai (by decide) ?_ ?_ ?_ ?_<;>simp [LX,I,B,D,hwr,hE2]
          · try simp only [I,B,D,RX,↓ KW,seval,a2,Ch.cells,hq]
            have hE2:jz t (l.getD []) (k + 1)=cY (jz t (l.getD []) k) d.phase:=by rw [hE]; simp only [Br,a1,a2,Bool.or_true,Bool.true_or,Bool.or_self,Bool.false_or,if_true]
            refine af (hW _ _) ?_
            try simp only [I,B,D,RX,↓ KW,seval]
            refine back (k + 1) _ (by omega) (by omega) ?_
            refine ai (by decide) ?_ ?_ ?_ ?_<;>simp [LX,I,B,D,hwr,hE2]
        · try simp only [I,B,D,RX,↓ KW,seval,a1,Ch.cells,hq]
          have hE2:jz t (l.getD []) (k + 1)=cY (jz t (l.getD []) k) d.phase:=by rw [hE]; simp only [Br,a1,Bool.or_true,Bool.true_or,Bool.or_self,Bool.false_or,if_true]
          refine af (hW _ _) ?_
          try simp only [I,B,D,RX,↓ KW,seval]
          refine back (k + 1) _ (by omega) (by omega) ?_
          refine ai (by decide) ?_ ?_ ?_ ?_<;>simp [LX,I,B,D,hwr,hE2]
      · have hk':Af t (l.getD [])=k:=by have:=of_decide_eq_true h2; unfold Af; omega
        try simp only [I,B,D,RX,↓ KW,seval,h2]
        rw [hk']
  · refine ai (by decide) ?_ ?_ ?_ ?_<;>simp [LX,I,B,D,jz]
end
end Go.Eng
namespace Go.Eng
open Go
def ND (t:Tb) (r:eH) (l:List Rn) (want:Int):eH :=
 if (List.range 8).all (fun p=>cn (aT l p)) then ⟨if Qx t r.group want ≥ 0 then Qx t r.group want else r.group,-1,-1,false⟩ else r
def vE.Spec (C:bk) (f:Nat):Prop:=∀ (t:Tb) (r:eH) (l:List Rn) (want:Int),t.Ok→l.length=8→C.c f [.agg t.cells,.agg r.cells,.agg (bZ l),I want] (.agg (ND t r l want).cells) none
section
variable {P:Program} (hm:P.follows .mixedOrders=true) {f:Nat}
include hm
theorem vE.ok {fR fF:Nat} (hc:aL P f=some (lA fR fF)) (hR:z7.Spec (Pure P) fR) (hF:Eu.Spec (Pure P) fF):vE.Spec (Pure P) f:=by
 intro t r l want ht hl
 have hw:=fk hl
 have hrl:=cB hl
 have htl:=Tb.len ht
 have hp:=Tb.whole ht
 have hr:r.cells.length=4∧aD r.cells 0 (some 4)=some (.agg r.cells)∧r.cells[0]? = some (I r.group):=⟨rfl,rfl,rfl⟩
 have hrs:∀ n:Int,setCells r.cells 0 [I n]=(⟨n,r.a0,r.a1,r.lI⟩:eH).cells:=fun _=>rfl
 have hr2:∀ n:Int,(⟨n,r.a0,r.a1,r.lI⟩:eH).cells[0]? = some (I n):=fun _=>rfl
 have ql:aQ.length=12:=rfl
 have hq4:∀ x:eH,x.cells.length=4∧aD x.cells 0 (some 4)=some (.agg x.cells):=fun _=>⟨rfl,rfl⟩
 have hz4:∀ x:eH,setCells [.int .i64 0,.int .i64 0,.int .i64 0,.bool false] 0 x.cells=x.cells:=fun _=>rfl
 refine an hm hc (by show 4≤34; decide) (aj (keep:=[]) (i:=0) ?_)
 try simp only [I,B,D,RY,↓ KW,seval,lA,Z.H,hw,hrl,htl,hp,hr,hrs,hr2,ql,hz4,hq4]
 refine aF (fun k:Nat=>(⟨[(13,.dat (I k) none),(12,.dat (.agg (bZ l)) none),(5,.ptr 5 0),(8,.ptr 7 0),(4,.ptr 4 0),(3,.dat (I want) none)],[(4,⟨t.cells,[]⟩),(5,⟨r.cells,[]⟩),(7,⟨[.int .i64 0,.int .i64 0,.int .i64 0,.bool false],[]⟩)],[],400⟩:S)) (fun k=>8 - k) (fun k=>k≤8∧∀ q,q < k→cn (aT l q)=true) ?_ 0 ⟨by omega,by omega⟩ ?_
 ·rintro k ⟨hk,hall⟩ A back
  have hwr:=aB (k:=k) (by omega)
  try simp only [I,B,D,RY,↓ KW,seval]
  rcases bc (decide ((k:Int) < 8)) with h|h
  ·have:k=8:=by have:=of_decide_eq_false h; omega
   subst this
   have ha:(List.range 8).all (fun p=>cn (aT l p))=true:=List.all_eq_true.2 fun q hq=>hall q (List.mem_range.1 hq)
   try simp only [I,B,D,RY,↓ KW,seval,h,hw,hrl,htl,hp,hr,hrs,hr2,ql,hz4,hq4]
   refine af (hF t r.group want ht) ?_
   try simp only [I,B,D,RY,↓ KW,seval,hw,hrl,htl,hp,hr,hrs,hr2,ql,hz4,hq4]
   have hz5:∀ n:Int,bE [.int .i64 0,.int .i64 0,.int .i64 0,.bool false] [(0,[I n]),(1,[I (-1),I (-1)])]=(⟨n,-1,-1,false⟩:eH).cells:=fun _=>rfl
   rcases bc (decide (0≤Qx t r.group want)) with h2|h2
   ·have h3:=of_decide_eq_false h2
    try simp only [I,B,D,RY,↓ KW,seval,h2,hw,hrl,htl,hp,hr,hrs,hr2,ql,hz4,hq4,hz5]
    simp [ND,ha,h3]
   ·have h3:=of_decide_eq_true h2
    try simp only [I,B,D,RY,↓ KW,seval,h2,hw,hrl,htl,hp,hr,hrs,hr2,ql,hz4,hq4,hz5]
    simp [ND,ha,h3]
  ·have h8:k < 8:=by have:=of_decide_eq_true h; omega
   have hat:aD (bZ l) (k * 12) (some 12)=some (.agg (aT l k).cells):=iP hl h8
   have hy:0≤(k:Int)∧(k:Int) < 8:=by omega
   have qz:setCells aQ 0 (aT l k).cells=(aT l k).cells:=rfl
   have qw:aD (aT l k).cells 0 (some 12)=some (.agg (aT l k).cells):=rfl
   try simp only [I,B,D,RY,↓ KW,seval,h,hy,hat,qz,qw,Rn.len,hw,hrl,htl,hp,hr,hrs,hr2,ql,hz4,hq4]
   refine af (hR (aT l k)) ?_
   try simp only [I,B,D,RY,↓ KW,seval,hw,hrl,htl,hp,hr,hrs,hr2,ql,hz4,hq4]
   rcases bc (cn (aT l k)) with h2|h2
   ·have ha:(List.range 8).all (fun p=>cn (aT l p))=false:=List.all_eq_false.2 ⟨k,List.mem_range.2 h8,by simp [h2]⟩
    try simp only [I,B,D,RY,↓ KW,seval,h2,hw,hrl,htl,hp,hr,hrs,hr2,ql,hz4,hq4,Bool.not_false]
    simp [ND,ha]
   ·try simp only [I,B,D,RY,↓ KW,seval,h2,hw,hrl,htl,hp,hr,hrs,hr2,ql,hz4,hq4,Bool.not_true]
    refine back (k + 1) _ ⟨by omega,fun q hq=>?_⟩ (by omega) ?_
    ·by_cases e:q=k
     ·rw [e]; exact h2
     ·exact hall q (by omega)
    ·refine ai (by decide) ?_ ?_ ?_ ?_<;>simp [LX,I,B,D,hwr]
 ·refine ai (by decide) ?_ ?_ ?_ ?_<;>simp [LX,I,B,D]
end
end Go.Eng
namespace Go.Eng
open Go
def vF (l:List Rn) (now next:Int) (mv:Bool):Bool:=decide (next < 0) && (!mv || (ew (aT l now.toNat) && (aT l now.toNat).done))
def Ah.Spec (C:bk) (f:Nat):Prop:=∀ (l:List Rn) (now next:Int) (mv:Bool),l.length=8→(mv=true→0≤now∧now < 8)→C.c f [.agg [I now,I next,B mv],.agg (bZ l)] (B (vF l now next mv)) none
section
variable {P:Program} (hm:P.follows .mixedOrders=true) {f:Nat}
include hm
theorem Ah.ok (hc:aL P f=some iC):Ah.Spec (Pure P) f:=by
 intro l now next mv hl hmv
 have hw:=fk hl
 have hrl:=cB hl
 refine an hm hc (by show 2≤28; decide) (aj (keep:=[]) (i:=0) ?_)
 try simp only [I,B,D,RY,↓ KW,seval,iC,Z.H,hw,hrl]
 rcases bc (decide (next < 0)) with h1|h1
 ·try simp only [I,B,D,RY,↓ KW,seval,h1,hw,hrl]
  simp only [vF,h1,Bool.false_and]
 ·try simp only [I,B,D,RY,↓ KW,seval,h1,hw,hrl]
  rcases bc mv with h2|h2
  ·try simp only [I,B,D,RY,↓ KW,seval,h2,hw,hrl,Bool.not_false]
   simp only [vF,h1,h2,Bool.not_false,Bool.true_or,Bool.and_self]
  ·obtain ⟨ha,hb⟩:=hmv h2
   obtain ⟨k,rfl⟩:∃ k:Nat,now=k:=⟨now.toNat,by omega⟩
   have h8:k < 8:=by omega
   have hat:aD (bZ l) (k * 12) (some 12)=some (.agg (aT l k).cells):=iP hl h8
   have hat0:(bZ l)[k * 12]? = some (I (aT l k).aC):=by have:=iO hat (j:=0) (by omega); rw [Nat.add_zero] at this; rw [this]; rfl
   have hat7:(bZ l)[k * 12 + 7]? = some (B (aT l k).done):=by rw [iO hat (by omega)]; rfl
   have hy:0≤(k:Int)∧(k:Int) < 8:=by omega
   have hg:((aT l k).aC == 1)=ew (aT l k):=rfl
   try simp only [I,B,D,RY,↓ KW,seval,h2,hw,hrl,Bool.not_true,hy,hat0,hat7]
   rw [hg]
   have hn:(k:Int).toNat=k:=rfl
   rcases bc (ew (aT l k)) with h3|h3
   ·try simp only [I,B,D,RY,↓ KW,seval,h3,hw,hrl,Bool.not_true]
    simp only [vF,h1,h2,hn,h3,Bool.not_true,Bool.false_or,Bool.false_and,Bool.and_false]
   ·try simp only [I,B,D,RY,↓ KW,seval,h3,hw,hrl,hy,hat7,Bool.not_true]
    simp only [vF,h1,h2,hn,h3,Bool.not_true,Bool.false_or,Bool.true_and]
end
end Go.Eng
namespace Go.Eng
open Go
def xZ (t:Tb) (r:eH) (l:List Rn) (k:Int):Bool:=decide (mV t r k ≥ 0) && !cn (aT l (mV t r k).toNat)
def ur (t:Tb) (r:eH) (want k:Int):Int:=Qu t r.group k (r.at k) want
def eH.put (r:eH) (k x:Int):eH:=if k=0 then { r with a0:=x } else { r with a1:=x }
def Bt (t:Tb) (r:eH) (l:List Rn) (want k:Int):Bool :=
 (aT l (mV t r k).toNat).aC == 1 && (((aT l (mV t r k).toNat).done && decide (ur t r want k ≥ 0)) || (FF (aO t (mV t r k)) (aT l (mV t r k).toNat) && !dR want (mV t r k)))
def qh (t:Tb) (r:eH) (l:List Rn) (want k:Int) (x:eH × Int × Int):eH × Int × Int :=
 if xZ t r l k then (if Bt t r l want k then (x.1,x.2.1,cY x.2.2 (mV t r k)) else x)
 else if ur t r want k ≥ 0 then (if iB t l (qg t r.group k (ur t r want k)).toNat then (x.1.put k (ur t r want k),cY x.2.1 (qg t r.group k (ur t r want k)),x.2.2) else x) else x
def jA (t:Tb) (r:eH) (l:List Rn) (want:Int):eH × Int × Int:=qh t r l want 1 (qh t r l want 0 (r,0,0))
def ED (t:Tb) (r:eH) (l:List Rn) (want:Int):Nat→eH × Int × Int
 | 0=>(r,0,0)
 | k + 1=>qh t r l want k (ED t r l want k)
def jH (l:List Rn):Int:=CU fun p=>ew (aT l p)
def xD (t:Tb) (r:eH) (l:List Rn) (want k:Int):Bool:=vF l (mV t r k) (ur t r want k) (xZ t r l k)
def MW (t:Tb) (r:eH) (l:List Rn) (want:Int) (x:eH × Int × Int):Bool :=
 xm .i64 x.2.1 x.2.2 == 0 && (xD t r l want 0 && (xD t r l want 1 && decide (vz (bf .i64 want (jH l)) ≥ 0)))
def EE (t:Tb) (r:eH) (l:List Rn) (want:Int):eH × Int × Int :=
 if r.lI then (ND t r l want,0,0)
 else if MW t r l want (jA t r l want) then ({ (jA t r l want).1 with lI:=true },(jA t r l want).2.1,jH l) else jA t r l want
theorem MX {s p:Int} (h:dR s p=true):0≤p∧p < 8:=by
 by_cases hc:p < 0∨8≤p
 ·have e1:oE p=0:=by simp only [oE]; rw [if_pos hc]
  have e3:dB .i64 s 0=0:=by
   have e:BitVec.ofInt IntKind.i64.bits 0=0#_:=rfl
   simp only [dB,e,BitVec.and_zero,BitVec.toNat_zero]; decide
  rw [dR,e1,e3] at h; cases h
 ·omega
theorem FI {t:Tb} {r:eH} {k:Int}:mV t r k < 8:=by
 unfold mV; split
 ·omega
 ·unfold qg; split
  ·omega
  ·split
   ·omega
   ·split<;>omega
theorem EF {t:Tb} {r:eH} {k want:Int} (h:ur t r want k ≥ 0) (hk:0≤k∧k < 2):0≤qg t r.group k (ur t r want k)∧qg t r.group k (ur t r want k) < 8:=by
 have e:ur t r want k=match (List.range ((iM t r.group k).getD []).length).find? (PW t r.group k (r.at k) want) with
  | some i=>(i:Int)
  | none=>-1:=rfl
 cases hf:(List.range ((iM t r.group k).getD []).length).find? (PW t r.group k (r.at k) want) with
 | none=>rw [hf] at e; simp only at e; omega
 | some i =>
  rw [hf] at e
  simp only at e
  have hi:=List.mem_range.1 (List.mem_of_find?_eq_some hf)
  have hp:=List.find?_some hf
  simp only [PW,Bool.and_eq_true] at hp
  have hh:=hp.2
  have hz:=MX hh
  have hr:¬ (r.group < 0∨((t.groups.getD []).length:Int)≤r.group∨k < 0∨1 < k):=fun hc=>by
   rw [iM,if_pos hc] at hi; simp at hi
  rw [e]
  unfold qg
  rw [if_neg hr,if_neg (by omega)]
  simp only [Int.toNat_natCast]
  rw [if_pos hz]
  exact hz
theorem FJ {t:Tb} {r:eH} {l:List Rn} {k:Int} (h:xZ t r l k=true):0≤mV t r k∧mV t r k < 8:=by
 simp only [xZ,Bool.and_eq_true] at h
 exact ⟨of_decide_eq_true h.1,FI⟩
theorem eH.Ku (x:eH) {k:Nat} (hk:k < 2) (n:Int):setCells x.cells (1 + k) [I n]=(x.put k n).cells:=by
 have:k=0∨k=1:=by omega
 rcases this with rfl|rfl<;>rfl
def kz (t:Tb) (r:eH) (l:List Rn) (want:Int) (n:Nat):List AV :=
 (if 0 < n then [I (mV t r 0),I (ur t r want 0),B (xZ t r l 0)] else [I 0,I 0,B false])++(if 1 < n then [I (mV t r 1),I (ur t r want 1),B (xZ t r l 1)] else [I 0,I 0,B false])
theorem Bu (t:Tb) (r:eH) (l:List Rn) (want:Int) (n:Nat):(kz t r l want n).length=6:=by
 unfold kz; split<;>split<;>rfl
theorem It (t:Tb) (r:eH) (l:List Rn) (want:Int) {k:Nat} (hk:k < 2):setCells (kz t r l want k) (k * 3) [I (mV t r k),I (ur t r want k),B (xZ t r l k)]=kz t r l want (k + 1):=by
 have:k=0∨k=1:=by omega
 rcases this with rfl|rfl<;>rfl
theorem Kv (t:Tb) (r:eH) (l:List Rn) (want:Int) {k:Nat} (hk:k < 2):aD (kz t r l want 2) (k * 3) (some 3)=some (.agg [I (mV t r k),I (ur t r want k),B (xZ t r l k)]):=by
 have:k=0∨k=1:=by omega
 rcases this with rfl|rfl<;>rfl
def Ai.Spec (C:bk) (f:Nat):Prop:=∀ (t:Tb) (r:eH) (l:List Rn) (want:Int),t.Ok→l.length=8→C.c f [.agg t.cells,.agg r.cells,.agg (bZ l),I want] (.cI [.agg (EE t r l want).1.cells,I (EE t r l want).2.1,I (EE t r l want).2.2]) none
section
variable {P:Program} (hm:P.follows .mixedOrders=true) {f:Nat}
include hm
theorem Ai.ok {fC fN fX fR fE fH fW fA fM fG fS fF:Nat} (hc:aL P f=some (pQ fC fN fX fR fE fH fW fA fM fG fS fF)) (hC:vE.Spec (Pure P) fC) (hN:Ev.Spec (Pure P) fN) (hX:z6.Spec (Pure P) fX) (hR:z7.Spec (Pure P) fR)
    (hE:vB.Spec (Pure P) fE) (hH:kN.Spec (Pure P) fH) (hW:gw.Spec (Pure P) fW) (hA:Ir.Spec (Pure P) fA) (hM:Ew.Spec (Pure P) fM) (hG:oS.Spec (Pure P) fG) (hS:Ah.Spec (Pure P) fS) (hF:sN.Spec (Pure P) fF):Ai.Spec (Pure P) f:=by
  intro t r l want ht hl
  have hw:=fk hl
  have hrl:=cB hl
  have htl:=Tb.len ht
  have hp:=Tb.whole ht
  have hr:r.cells.length=4∧aD r.cells 0 (some 4)=some (.agg r.cells)∧r.cells[0]? = some (I r.group)∧r.cells[3]? = some (B r.lI):=⟨rfl,rfl,rfl,rfl⟩
  have hz4:∀ x:eH,setCells [.int .i64 0,.int .i64 0,.int .i64 0,.bool false] 0 x.cells=x.cells:=fun _=>rfl
  have hss:∀ x y:eH,setCells x.cells 0 y.cells=y.cells:=fun _ _=>rfl
  have hx4:∀ x:eH,x.cells.length=4∧aD x.cells 0 (some 4)=some (.agg x.cells):=fun _=>⟨rfl,rfl⟩
  have hz3:∀ a b c d e g:AV,setCells [a,b,c] 0 [d,e,g]=[d,e,g]:=fun _ _ _ _ _ _=>rfl
  have hz2:∀ a b c d:AV,setCells [a,b,c] 2 [d]=[a,b,d]:=fun _ _ _ _=>rfl
  refine an hm hc (by show 4≤159; decide) (aj (keep:=[]) (i:=0) ?_)
  try simp only [I,B,D,RY,↓ KW,seval,pQ,Z.H,hw,hrl,htl,hp,hr,hz4,hx4,hz3,hz2,hss]
  rcases bc r.lI with hcr|hcr
  rotate_left
  · try simp only [I,B,D,RY,↓ KW,seval,hcr,hw,hrl,htl,hp,hr,hz4,hx4,hz3,hz2,hss]
    refine af (hC t r l want ht hl) ?_
    try simp only [I,B,D,RY,↓ KW,seval,hw,hrl,htl,hp,hr,hz4,hx4,hz3,hz2,hss]
    simp [EE,hcr]
  try simp only [I,B,D,RY,↓ KW,seval,hcr,hw,hrl,htl,hp,hr,hz4,hx4,hz3,hz2,hss]
  refine aF (fun k:Nat=>(⟨[(26,.dat (I k) none),(3,.dat (I want) none),(4,.ptr 4 0),(5,.ptr 5 0),(6,.ptr 6 0),(8,.ptr 7 0),(11,.ptr 12 0),(9,.dat (I 0) none),(10,.dat (I 0) none)],[(4,⟨t.cells,[]⟩),(5,⟨r.cells,[]⟩),(6,⟨bZ l,[]⟩),(7,⟨[.int .i64 0,.int .i64 0,.int .i64 0,.bool false],[]⟩),(12,⟨kz t r l want k,[]⟩)],[],400⟩:S)) (fun k=>2 - k) (fun k=>k≤2) ?_ 0 (by omega) ?_
  rotate_left
  · refine ai (by decide) ?_ ?_ ?_ ?_<;>simp [LX,I,B,D,kz]
  intro k hk A back
  have hwr:=aB (k:=k) (by omega)
  try simp only [I,B,D,RY,↓ KW,seval]
  rcases bc (decide ((k:Int) < 2)) with h|h
  rotate_left
  · have h2:k < 2:=by have:=of_decide_eq_true h; omega
    have hy:0≤(k:Int)∧(k:Int) < 2:=by omega
    have hr1:r.cells[1 + k]? = some (I (r.at k)):=by
      have:k=0∨k=1:=by omega
      rcases this with rfl|rfl<;>rfl
    have ol:=Bu t r l want k
    have os:=It t r l want h2
    try simp only [I,B,D,RY,↓ KW,seval,h,hr1,hy,ol,hw,hrl,htl,hp,hr,hz4,hx4,hz3,hz2,hss]
    refine af (hN t r k ht) ?_
    try simp only [I,B,D,RY,↓ KW,seval,hr1,hy,ol,hw,hrl,htl,hp,hr,hz4,hx4,hz3,hz2,hss]
    refine af (hX t r.group k (r.at k) want ht) ?_
    try simp only [I,B,D,RY,↓ KW,seval,hr1,hy,ol,hw,hrl,htl,hp,hr,hz4,hx4,hz3,hz2,hss]
    rcases bc (decide (mV t r k ≥ 0)) with h3|h3
    · have hb:xZ t r l k=false:=by rw [xZ,h3]; rfl
      rw [hb] at os
      have os2:setCells (kz t r l want k) (k * 3) [I (mV t r k),I (Qu t r.group k (r.at k) want),B false]=kz t r l want (k + 1):=os
      try simp only [I,B,D,RY,↓ KW,seval,h3,hr1,hy,ol,os2,hw,hrl,htl,hp,hr,hz4,hx4,hz3,hz2,hss]
      refine ⟨by omega,back (k + 1) _ (by omega) (by omega) ?_⟩
      refine ai (by decide) ?_ ?_ ?_ ?_<;>simp [LX,I,B,D,hwr,h3]
    · have h30:=of_decide_eq_true h3
      have h31:=FI (t:=t) (r:=r) (k:=k)
      obtain ⟨q,hq⟩:∃ q:Nat,mV t r k=q:=⟨(mV t r k).toNat,by omega⟩
      have hy2:0≤(q:Int)∧(q:Int) < 8:=by omega
      have hat:aD (bZ l) (q * 12) (some 12)=some (.agg (aT l q).cells):=iP hl (by omega)
      have hb:xZ t r l k=!cn (aT l q):=by rw [xZ,h3,hq]; rfl
      rw [hb] at os
      have os2:setCells (kz t r l want k) (k * 3) [I (mV t r k),I (Qu t r.group k (r.at k) want),B (!cn (aT l q))]=kz t r l want (k + 1):=os
      rw [hq] at *
      try simp only [I,B,D,RY,↓ KW,seval,h3,hr1,hy,hy2,hat,ol,hw,hrl,htl,hp,hr,hz4,hx4,hz3,hz2,hss]
      refine af (hR (aT l q)) ?_
      try simp only [I,B,D,RY,↓ KW,seval,h3,hr1,hy,ol,os2,hw,hrl,htl,hp,hr,hz4,hx4,hz3,hz2,hss]
      refine ⟨by omega,back (k + 1) _ (by omega) (by omega) ?_⟩
      refine ai (by decide) ?_ ?_ ?_ ?_<;>simp [LX,I,B,D,hwr]
  have hk2:k=2:=by have:=of_decide_eq_false h; omega
  subst hk2
  have ol:=Bu t r l want 2
  have ow:aD (kz t r l want 2) 0 (some 6)=some (.agg (kz t r l want 2)):=rfl
  try simp only [I,B,D,RY,↓ KW,seval,h,ol,ow,hw,hrl,htl,hp,hr,hz4,hx4,hz3,hz2,hss]
  clear back
  refine aF (fun k:Nat=>(⟨[(62,.dat (I k) none),(61,.dat (.agg (kz t r l want 2)) none),(3,.dat (I want) none),(4,.ptr 4 0),(5,.ptr 5 0),(6,.ptr 6 0),(8,.ptr 7 0),(11,.ptr 12 0),(9,.dat (I (ED t r l want k).2.1) none),(10,.dat (I (ED t r l want k).2.2) none)],[(4,⟨t.cells,[]⟩),(5,⟨r.cells,[]⟩),(6,⟨bZ l,[]⟩),(7,⟨(ED t r l want k).1.cells,[]⟩),(12,⟨kz t r l want 2,[]⟩)],[],400⟩:S)) (fun k=>2 - k) (fun k=>k≤2) ?_ 0 (by omega) ?_
  rotate_left
  · refine ai (by decide) ?_ ?_ ?_ ?_<;>simp [LX,I,B,D,ED]
  intro k hk A2 back
  have hwr:=aB (k:=k) (by omega)
  obtain ⟨x,hx⟩:∃ x,ED t r l want k=x:=⟨_,rfl⟩
  have hn:ED t r l want (k + 1)=qh t r l want k x:=by rw [ED,hx]
  rw [hx]
  try simp only [I,B,D,RY,↓ KW,seval]
  rcases bc (decide ((k:Int) < 2)) with h|h
  rotate_left
  · have h2:k < 2:=by have:=of_decide_eq_true h; omega
    have hy:0≤(k:Int)∧(k:Int) < 2:=by omega
    have oat:=Kv t r l want h2
    obtain ⟨b,hb⟩:∃ b,xZ t r l k=b:=⟨_,rfl⟩
    obtain ⟨n,hnx⟩:∃ n,ur t r want k=n:=⟨_,rfl⟩
    obtain ⟨w,hnw⟩:∃ w,mV t r k=w:=⟨_,rfl⟩
    have hone:qh t r l want k x=if b then (if Bt t r l want k then (x.1,x.2.1,cY x.2.2 w) else x)
      else if n ≥ 0 then (if iB t l (qg t r.group k n).toNat then (x.1.put k n,cY x.2.1 (qg t r.group k n),x.2.2) else x) else x:=by rw [qh,hb,hnx,hnw]
    rw [hb,hnx,hnw] at oat
    rcases b with _|_
    · rw [if_neg (by decide)] at hone
      try simp only [I,B,D,RY,↓ KW,seval,h,hy,oat,ol,hw,hrl,htl,hp,hr,hz4,hx4,hz3,hz2,hss]
      rcases bc (decide (n ≥ 0)) with h4|h4
      · rw [if_neg (of_decide_eq_false h4)] at hone
        try simp only [I,B,D,RY,↓ KW,seval,h4,hw,hrl,htl,hp,hr,hz4,hx4,hz3,hz2,hss]
        refine back (k + 1) _ (by omega) (by omega) ?_
        refine ai (by decide) ?_ ?_ ?_ ?_<;>simp [LX,I,B,D,hwr,hn,hone]
      · have h40:=of_decide_eq_true h4
        rw [if_pos h40] at hone
        have hq:=EF (t:=t) (r:=r) (k:=k) (want:=want) (by rw [hnx]; exact h40) (by omega)
        rw [hnx] at hq
        obtain ⟨q,hq1⟩:∃ q:Nat,qg t r.group k n=q:=⟨(qg t r.group k n).toNat,by omega⟩
        rw [hq1] at hone hq
        have hA1:=hA t r.group k n ht
        rw [hq1] at hA1
        try simp only [I,B,D,RY,↓ KW,seval,h4,hw,hrl,htl,hp,hr,hz4,hx4,hz3,hz2,hss]
        refine af hA1 ?_
        try simp only [I,B,D,RY,↓ KW,seval,hw,hrl,htl,hp,hr,hz4,hx4,hz3,hz2,hss]
        refine af (hM t l q ht hl (by omega)) ?_
        try simp only [I,B,D,RY,↓ KW,seval,hw,hrl,htl,hp,hr,hz4,hx4,hz3,hz2,hss]
        have hq2:(q:Int).toNat=q:=rfl
        rw [hq2] at hone
        rcases bc (iB t l q) with h5|h5
        · rw [if_neg (by rw [h5]; decide)] at hone
          try simp only [I,B,D,RY,↓ KW,seval,h5,hw,hrl,htl,hp,hr,hz4,hx4,hz3,hz2,hss]
          refine back (k + 1) _ (by omega) (by omega) ?_
          refine ai (by decide) ?_ ?_ ?_ ?_<;>simp [LX,I,B,D,hwr,hn,hone]
        · rw [if_pos h5] at hone
          have hps:=x.1.Ku h2 n
          try simp only [I,B,D,RY,↓ KW,seval,h5,hw,hrl,htl,hp,hr,hz4,hx4,hz3,hz2,hss]
          refine af (hW _ _) ?_
          try simp only [I,B,D,RY,↓ KW,seval,hy,hps,hw,hrl,htl,hp,hr,hz4,hx4,hz3,hz2,hss]
          refine ⟨by omega,back (k + 1) _ (by omega) (by omega) ?_⟩
          refine ai (by decide) ?_ ?_ ?_ ?_<;>simp [LX,I,B,D,hwr,hn,hone]
    · rw [if_pos rfl] at hone
      have hbt:=hb
      simp only [xZ,Bool.and_eq_true] at hbt
      have h30:=of_decide_eq_true hbt.1
      have h31:=FI (t:=t) (r:=r) (k:=k)
      rw [hnw] at h30 h31
      obtain ⟨q,hq⟩:∃ q:Nat,w=q:=⟨w.toNat,by omega⟩
      subst hq
      have hy2:0≤(q:Int)∧(q:Int) < 8:=by omega
      have hat:aD (bZ l) (q * 12) (some 12)=some (.agg (aT l q).cells):=iP hl (by omega)
      have qz:setCells aQ 0 (aT l q).cells=(aT l q).cells:=rfl
      have ql:aQ.length=12:=rfl
      have qr:(aT l q).cells[0]? = some (I (aT l q).aC)∧(aT l q).cells[7]? = some (B (aT l q).done)∧aD (aT l q).cells 0 (some 12)=some (.agg (aT l q).cells):=⟨rfl,rfl,rfl⟩
      have hph:=Tb.jM (ht.ln.wu (k:=q) (by omega))
      have he:Bt t r l want k=((aT l q).aC == 1 && (((aT l q).done && decide (n ≥ 0)) || (FF (aO t q) (aT l q) && !dR want q))):=by rw [Bt,hnw,hnx]; rfl
      try simp only [I,B,D,RY,↓ KW,seval,h,hy,oat,ol,hy2,hat,qz,ql,qr,Rn.len,hw,hrl,htl,hp,hr,hz4,hx4,hz3,hz2,hss]
      rw [he] at hone
      have hph0:t.cells.drop 0=t.cells:=rfl
      repeat' (first | ((first | refine af (hE (aO t q) (aT l q)) ?_ | refine af (hH want q) ?_ | refine af (hW _ _) ?_); try simp only [I,B,D,RY,↓ KW,seval,hy,hy2,hph,qr,hw,hrl,htl,hp,hr,hz4,hx4,hz3,hz2,hss]) | (((first | refine aV ?_ ?_ | refine ax ?_ ?_ | refine bq ?_ ?_)<;>intro h)<;>try simp only [I,B,D,RY,↓ KW,seval,hy,hy2,hph,qr,hw,hrl,htl,hp,hr,hz4,hx4,hz3,hz2,hss,h]))
      all_goals
        refine back (k + 1) _ (by omega) (by omega) ?_
        refine ai (by decide) ?_ ?_ ?_ ?_<;>simp [LX,I,B,D,hwr,hn,hone, *]
  have hk2:k=2:=by have:=of_decide_eq_false h; omega
  subst hk2
  try simp only [I,B,D,RY,↓ KW,seval,h,hw,hrl,htl,hp,hr,hz4,hx4,hz3,hz2,hss]
  refine af (hG l hl) ?_
  try simp only [I,B,D,RY,↓ KW,seval,hw,hrl,htl,hp,hr,hz4,hx4,hz3,hz2,hss]
  have hx2:jA t r l want=x:=hx
  have o0:aD (kz t r l want 2) 0 (some 3)=some (.agg [I (mV t r 0),I (ur t r want 0),B (xZ t r l 0)]):=rfl
  have o1:aD (kz t r l want 2) 3 (some 3)=some (.agg [I (mV t r 1),I (ur t r want 1),B (xZ t r l 1)]):=rfl
  have hc3:setCells x.1.cells 3 [B true]=({ x.1 with lI:=true }:eH).cells:=rfl
  have hg:(CU fun p=>ew (aT l p))=jH l:=rfl
  have hcs:MW t r l want x=(xm .i64 x.2.1 x.2.2 == 0 && (xD t r l want 0 && (xD t r l want 1 && decide (vz (bf .i64 want (jH l)) ≥ 0)))):=rfl
  have hr2:EE t r l want=if MW t r l want x then ({ x.1 with lI:=true },x.2.1,jH l) else x:=by rw [EE,if_neg (by rw [hcr]; decide),hx2]
  have hs0:=hS l (mV t r 0) (ur t r want 0) (xZ t r l 0) hl (FJ (t:=t) (r:=r) (l:=l))
  have hs1:=hS l (mV t r 1) (ur t r want 1) (xZ t r l 1) hl (FJ (t:=t) (r:=r) (l:=l))
  rw [show vF l (mV t r 0) (ur t r want 0) (xZ t r l 0)=xD t r l want 0 from rfl] at hs0
  rw [show vF l (mV t r 1) (ur t r want 1) (xZ t r l 1)=xD t r l want 1 from rfl] at hs1
  rw [hg]
  try simp only [I,B,D,RY,↓ KW,seval,o0,o1,hw,hrl,htl,hp,hr,hz4,hx4,hz3,hz2,hss]
  repeat' (first | ((first | refine af (hs0) ?_ | refine af (hs1) ?_ | refine af (hF _) ?_); try simp only [I,B,D,RY,↓ KW,seval,o0,o1,hc3,hw,hrl,htl,hp,hr,hz4,hx4,hz3,hz2,hss]) | (((first | refine aV ?_ ?_ | refine ax ?_ ?_ | refine bq ?_ ?_)<;>intro h)<;>try simp only [I,B,D,RY,↓ KW,seval,o0,o1,hc3,hw,hrl,htl,hp,hr,hz4,hx4,hz3,hz2,hss,h]))
  all_goals simp [hr2,hcs, *]
end
end Go.Eng
