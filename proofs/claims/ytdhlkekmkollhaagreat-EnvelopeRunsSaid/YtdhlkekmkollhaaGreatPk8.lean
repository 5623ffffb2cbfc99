/- The engine and the library,part 8 of 18: what the proofs of this seat need of them. -/
import Derived.Test.YtdhlkekmkollhaaGreatPk7
set_option linter.unnecessarySimpa false
set_option linter.unusedSimpArgs false
set_option linter.unusedVariables false
set_option linter.defProp false
set_option maxRecDepth 10000
set_option maxHeartbeats 4000000
namespace Go.Eng
open Go
theorem mK {cs mid:List AV} {off z:Nat} (h:aB cs off (some z)=some (.agg mid)) {j:Nat} (hj:j < z):cs[off + j]? = mid[j]?:=by
 simp only [aB] at h
 split at h
 ·simp only [Option.some.injEq,AV.agg.injEq] at h
  rw [← h,List.getElem?_take_of_lt hj,List.getElem?_drop]
 ·cases h
section
variable {t:Tb} (h:t.Ok)
include h
theorem Tb.mP:t.cells[104]? = some (aG Gr.cells t.groups):=by
 simp [Tb.cells,List.getElem?_append,aH Ph.len,h.phases]
theorem Tb.v7:t.cells[114]? = some (aG Rl.cells t.bA):=by
 simp [Tb.cells,List.getElem?_append,aH Ph.len,h.phases,h.conflict,h.dm,List.getElem?_cons]
theorem Tb.Fc:t.cells[115]? = some (aG Bs.cells t.lp):=by
 simp [Tb.cells,List.getElem?_append,aH Ph.len,h.phases,h.conflict,h.dm,List.getElem?_cons]
theorem Tb.tail_at (j:Nat) (hj:j < 5):t.cells[116 + j]? = [I t.extend,I t.gY,I t.start,I t.revert,I t.least][j]?:=by
 have:j=0∨j=1∨j=2∨j=3∨j=4:=by omega
 rcases this with rfl|rfl|rfl|rfl|rfl <;>
 simp [Tb.cells,List.getElem?_append,aH Ph.len,h.phases,h.conflict,h.dm,List.getElem?_cons]
theorem Tb.LM:t.cells[130]? = some (I t.share):=by
 simp [Tb.cells,List.getElem?_append,aH Ph.len,h.phases,h.conflict,h.dm,List.getElem?_cons]
omit h in
theorem Tb.Vr {i:Nat} {p:Ph} (hp:t.phases[i]? = some p) (j:Nat) (hj:j < 13):t.cells[i * 13 + j]? = p.cells[j]?:=mK (Tb.ku hp) hj
omit h in
theorem Tb.xT {i:Nat} {p:Ph} (hp:t.phases[i]? = some p):t.cells[i * 13]? = some (B p.on)∧t.cells[i * 13 + 1]? = some (I p.min)∧t.cells[i * 13 + 2]? = some (I p.Nk)∧t.cells[i * 13 + 3]? = some (I p.max)∧t.cells[i * 13 + 4]? = some (I p.top)∧t.cells[i * 13 + 5]? = some (I p.step)∧t.cells[i * 13 + 6]? = some (I p.cB)∧t.cells[i * 13 + 7]? = some (I p.red)∧t.cells[i * 13 + 8]? = some (I p.walk)∧t.cells[i * 13 + 9]? = some (I p.dG)∧t.cells[i * 13 + 10]? = some (I p.lJ)∧t.cells[i * 13 + 11]? = some (B p.lock)∧t.cells[i * 13 + 12]? = some (B p.rest) :=
 have hj:=fun j hj=>Tb.Vr hp j hj
 ⟨hj 0 (by omega),hj 1 (by omega),hj 2 (by omega),hj 3 (by omega),hj 4 (by omega),hj 5 (by omega),hj 6 (by omega),hj 7 (by omega),hj 8 (by omega),hj 9 (by omega),hj 10 (by omega),hj 11 (by omega),hj 12 (by omega)⟩
theorem Tb.ou {i:Nat} {c:Int} (hc:t.conflict[i]? = some c):t.cells[105 + i]? = some (I c):=by
 have hi:i < 8:=by have:=(List.getElem?_eq_some_iff.1 hc).1; rw [h.conflict] at this; exact this
 have e:(t.phases.flatMap Ph.cells).length=104:=by rw [aH Ph.len,h.phases]
 unfold Tb.cells
 rw [List.getElem?_append_right (by omega),e,show 105 + i - 104=i + 1 by omega,List.getElem?_cons_succ,List.getElem?_append_left (by simp [h.conflict,hi]),List.getElem?_map,hc]; rfl
end
structure Sp where
 group:Int
 ring:Int
 pos:Int
 p:Int
 deriving Inhabited,DecidableEq
def Sp.cells (s:Sp):List AV:=[I s.group,I s.ring,I s.pos,I s.p]
theorem Sp.len (s:Sp):s.cells.length=4:=rfl
theorem Gr.len (s:Gr):s.cells.length=2:=rfl
def Gr.row (g:Gr) (k:Nat):Option (List Int):=if k=0 then g.a else g.b
def bt (g k:Nat) (row:List Int):List Sp:=row.zipIdx.filterMap fun (p,i)=>if 0≤p∧p < 8 then some ⟨g,k,i,p⟩ else none
def cw (gr:Gr) (g k:Nat):List Sp:=(List.range k).flatMap fun k=>bt g k ((gr.row k).getD [])
def ck (l:List Gr) (n:Nat):List Sp:=(l.take n).zipIdx.flatMap fun (gr,g)=>cw gr g 2
def bu (t:Tb):List Sp:=ck (t.groups.getD []) (t.groups.getD []).length
theorem pV {α:Type} {row:α→List AV} {l:List α} {m:List (Nat × Nat)} {nx t t':Nat} (h:Ew m t'=t) (ht:t' < nx):Cj m nx (bB row l t) (bB row l t'):=by
 unfold bB; split
 ·exact rfl
 ·exact ⟨rfl,h.symm,ht⟩
theorem tX {α:Type} {l:List α} {m:List (Nat × Nat)} {nx t t' e:Nat} (h:Ew m t'=t) (ht:t' < nx):ji m nx (bG l t e) (bG l t' e):=by
 unfold bG; split
 ·trivial
 ·simp [ji,h,ht,vY]
theorem lq {α:Type} {l:List α} {m:List (Nat × Nat)} {t e:Nat}:cg m (bG l t e):=by
 unfold bG; split<;>simp [cg]
theorem jb {g k:Nat} {row:List Int} {i:Nat} {x:Int} (h:row[i]? = some x):(0≤x∧x < 8→bt g k (row.take (i + 1))=bt g k (row.take i)++[⟨g,k,i,x⟩])∧(¬ (0≤x∧x < 8)→bt g k (row.take (i + 1))=bt g k (row.take i)):=by
 have hl:(row.take i).length=i:=jK h
 unfold bt
 rw [iJ h,List.zipIdx_append,List.filterMap_append,hl]
 constructor<;>intro hx<;>simp [hx]
theorem qL (g k:Nat) (row:List Int):(bt g k row).length≤row.length:=by
 have:=List.length_filterMap_le (fun (p:Int × Nat)=>if 0≤p.1∧p.1 < 8 then some (⟨g,k,p.2,p.1⟩:Sp) else none) row.zipIdx
 simpa [bt] using this
theorem dS (gr:Gr) (g k:Nat):cw gr g (k + 1)=cw gr g k++bt g k ((gr.row k).getD []):=by
 simp [cw,List.range_succ]
theorem iK {l:List Gr} {g:Nat} {gr:Gr} (h:l[g]? = some gr):ck l (g + 1)=ck l g++cw gr g 2:=by
 have hl:(l.take g).length=g:=jK h
 unfold ck
 rw [iJ h,List.zipIdx_append,List.flatMap_append,hl]
 simp
theorem yY {gr:Gr} (hr:(gr.a.getD []).length≤1048576∧(gr.b.getD []).length≤1048576) (g k:Nat) (hk:k≤2):(cw gr g k).length≤k * 1048576:=by
 have h0:=qL g 0 (gr.a.getD [])
 have h1:=qL g 1 (gr.b.getD [])
 have:k=0∨k=1∨k=2:=by omega
 rcases this with rfl|rfl|rfl
 ·simp [cw]
 ·rw [dS,List.length_append]
  have:(cw gr g 0).length=0:=rfl
  have h0':(bt g 0 ((gr.row 0).getD [])).length≤(gr.a.getD []).length:=h0
  omega
 ·rw [dS,dS,List.length_append,List.length_append]
  have:(cw gr g 0).length=0:=rfl
  have h0':(bt g 0 ((gr.row 0).getD [])).length≤(gr.a.getD []).length:=h0
  have h1':(bt g 1 ((gr.row 1).getD [])).length≤(gr.b.getD []).length:=h1
  omega
theorem sI {t:Tb} (ht:t.Ok):∀ n,n≤(t.groups.getD []).length→(ck (t.groups.getD []) n).length≤n * 2097152
 | 0,_=>by simp [ck]
 | n + 1,h=>by
  obtain ⟨gr,hgr⟩:∃ x,(t.groups.getD [])[n]? = some x:=⟨_,List.getElem?_eq_getElem (by omega)⟩
  have:=sI ht n (by omega)
  have h2:=yY (ht.rows gr (List.mem_of_getElem? hgr)) n 2 (by omega)
  rw [iK hgr,List.length_append]
  omega
theorem CQ {t:Tb} (ht:t.Ok):(bu t).length≤2199023255552:=by
 have:=sI ht _ (Nat.le_refl _)
 have:=ht.groups
 simp only [bu]
 omega
theorem Hh {t:Tb} (ht:t.Ok) {g k i:Nat} {gr:Gr} (hg:(t.groups.getD [])[g]? = some gr) (hk:k < 2) (hi:i < ((gr.row k).getD []).length):((ck (t.groups.getD []) g++cw gr g k++bt g k (((gr.row k).getD []).take i)).length + 1) * 32≤140737488355328:=by
 have hlt:g < (t.groups.getD []).length:=(List.getElem?_eq_some_iff.1 hg).1
 have h1:=sI ht g (by omega)
 have hr:=ht.rows gr (List.mem_of_getElem? hg)
 have h2:=yY hr g k (by omega)
 have h3:=qL g k (((gr.row k).getD []).take i)
 have h4:(((gr.row k).getD []).take i).length≤1048576:=by
  have:k=0∨k=1:=by omega
  rcases this with rfl|rfl
  ·exact Nat.le_trans (List.length_take_le' _ _) hr.1
  ·exact Nat.le_trans (List.length_take_le' _ _) hr.2
 have:=ht.groups
 rw [List.length_append,List.length_append]
 omega
def bu.Spec (C:aZ) (f e:Nat):Prop:=∀ (t:Tb) (fr:Option Nat),t.Ok→(fr=none∨fr=some e∧bu t≠[])→C.c f [.agg t.cells] (aG Sp.cells (bX (bu t))) fr
section
variable {P:Program} (hm:P.follows .mixedOrders=true) {f:Nat}
include hm
theorem bu.ok {e:Nat} (hc:aE P f=some (nv e)):bu.Spec (Pure P) f e:=by
  intro t fr ht hfr
  have hg:=Tb.mP ht
  refine ak hm hc (by show 1≤56; decide) (aj (keep:=[]) (i:=0) ?_)
  try simp only [I,B,D,RX,↓ KW,seval,nv,Z.H]
  refine aF (fun g:Nat=>(⟨[(4,.dat (I g) none),(1,.ptr 4 0),(3,bB Sp.cells (ck (t.groups.getD []) g) 0)],[(4,⟨t.cells,[]⟩)],bG (ck (t.groups.getD []) g) 0 e,400⟩:S)) (fun g=>(t.groups.getD []).length - g) (fun g=>g≤(t.groups.getD []).length) ?_ 0 (by omega) ?_
  · intro g hg1 A back
    have hb:=ht.groups
    have hw:=aD (k:=g) (by omega)
    try simp only [I,B,D,RX,↓ KW,seval,xQ,hg]
    refine ay (fun h=>?_) (fun h=>?_)<;>try simp only [I,B,D,RX,↓ KW,seval,xQ,hg,h]
    · have hlt:g < (t.groups.getD []).length:=by have:=of_decide_eq_true h; omega
      obtain ⟨gr,hgr⟩:∃ x,(t.groups.getD [])[g]? = some x:=⟨_,List.getElem?_eq_getElem hlt⟩
      have hrs:=ht.rows gr (List.mem_of_getElem? hgr)
      refine aF (fun k:Nat=>(⟨[(5,.dat (I k) none),(4,.dat (I g) none),(1,.ptr 4 0),(3,bB Sp.cells (ck (t.groups.getD []) g++cw gr g k) 0)],[(4,⟨t.cells,[]⟩)],bG (ck (t.groups.getD []) g++cw gr g k) 0 e,400⟩:S)) (fun k=>2 - k) (fun k=>k≤2) ?_ 0 (by omega) ?_
      · intro k hk A1 back1
        have hw1:=aD (k:=k) (by omega)
        try simp only [I,B,D,RX,↓ KW,seval]
        refine ay (fun h1=>?_) (fun h1=>?_)<;>try simp only [I,B,D,RX,↓ KW,seval,h1]
        · have hk2:k < 2:=by have:=of_decide_eq_true h1; omega
          have hrow:(List.drop k gr.cells)[0]? = some (aG aC (gr.row k)):=by
            have:k=0∨k=1:=by omega
            rcases this with rfl|rfl<;>rfl
          have hrl:((gr.row k).getD []).length≤1048576:=by
            have:k=0∨k=1:=by omega
            rcases this with rfl|rfl
            exact hrs.1
            exact hrs.2
          refine aF (fun i:Nat=>(⟨[(6,.dat (I i) none),(5,.dat (I k) none),(4,.dat (I g) none),(1,.ptr 4 0),(3,bB Sp.cells (ck (t.groups.getD []) g++cw gr g k++bt g k (((gr.row k).getD []).take i)) 0)],[(4,⟨t.cells,[]⟩)],bG (ck (t.groups.getD []) g++cw gr g k++bt g k (((gr.row k).getD []).take i)) 0 e,400⟩:S)) (fun i=>((gr.row k).getD []).length - i) (fun i=>i≤((gr.row k).getD []).length) ?_ 0 (by omega) ?_
          · intro i hi A2 back2
            have hw2:=aD (k:=i) (by omega)
            try simp only [I,B,D,RX,↓ KW,seval,xQ,hg,hgr,Gr.len]
            refine ⟨by omega,by omega,?_⟩
            try simp only [I,B,D,RX,↓ KW,seval,hrow]
            refine ay (fun h2=>?_) (fun h2=>?_)<;>try simp only [I,B,D,RX,↓ KW,seval,xQ,hg,hgr,Gr.len,h2]
            · have hil:i < ((gr.row k).getD []).length:=by have:=of_decide_eq_true h2; omega
              obtain ⟨x,hx⟩:∃ x,((gr.row k).getD [])[i]? = some x:=⟨_,List.getElem?_eq_getElem hil⟩
              have hnx:=jb (g:=g) (k:=k) hx
              refine ⟨by omega,by omega,?_⟩
              try simp only [I,B,D,RX,↓ KW,seval,hrow]
              refine ⟨by omega,?_⟩
              try simp only [I,B,D,RX,↓ KW,seval,hx,aC,xQ]
              repeat' (((first | refine aR ?_ ?_ | refine ay ?_ ?_ | refine bk ?_ ?_)<;>intro h)<;>try simp only [I,B,D,RX,↓ KW,seval,h])
              · rename_i ha
                have hx8:0≤x∧x < 8:=⟨of_decide_eq_true ha,of_decide_eq_true h⟩
                have hnx:=hnx.1 hx8
                have hsz:=Hh ht hgr hk2 hil
                generalize ck (t.groups.getD []) g++cw gr g k=L at *
                by_cases hl:L++bt g k (((gr.row k).getD []).take i)=[]
                · try simp only [I,B,D,RX,↓ KW,seval,bB,bG,hl]
                  refine back2 (i + 1) _ (by omega) (by omega) (ai (by decide) ?_ ?_ ?_ ?_)<;>simp [LX,I,B,D,hnx,hw2,Sp.cells,← List.append_assoc,hl]
                · try simp only [I,B,D,RX,↓ KW,seval,bB,bG,hl,Sp.len]
                  refine ⟨hsz,?_⟩
                  refine back2 (i + 1) _ (by omega) (by omega) (ai (by decide) ?_ ?_ ?_ ?_)<;>simp [LX,I,B,D,hnx,hw2,Sp.cells,← List.append_assoc,hl]
              · have hnx:=hnx.2 (by have:=of_decide_eq_false h; omega)
                refine back2 (i + 1) _ (by omega) (by omega) (yX [(0,0)] (by decide) ?_ ?_ ?_ lq)<;>simp [pV,tX,f9,uW,uX,uY,AG,nB,iF,lH,ji,Ew,cg,E2,vY,yW,sC,I,B,D,aM,hnx,hw2,← List.append_assoc]
              · have hnx:=hnx.2 (by have:=of_decide_eq_false h; omega)
                refine back2 (i + 1) _ (by omega) (by omega) (yX [(0,0)] (by decide) ?_ ?_ ?_ lq)<;>simp [pV,tX,f9,uW,uX,uY,AG,nB,iF,lH,ji,Ew,cg,E2,vY,yW,sC,I,B,D,aM,hnx,hw2,← List.append_assoc]
            · have:i=((gr.row k).getD []).length:=by have:=of_decide_eq_false h2; omega
              subst this
              have hk1:=dS gr g k
              rw [List.take_length,List.append_assoc,← hk1]
              refine back1 (k + 1) _ (by omega) (by omega) (yX [(0,0)] (by decide) ?_ ?_ ?_ lq)<;>simp [pV,tX,f9,uW,uX,uY,AG,nB,iF,lH,ji,Ew,cg,E2,vY,yW,sC,I,B,D,aM,hw1]
          · simp [bt]
            refine yX [(0,0)] (by decide) ?_ ?_ ?_ lq<;>simp [pV,tX,lq,f9,uW,uX,uY,AG,nB,iF,lH,ji,Ew,cg,E2,vY,yW,sC,I,B,D,aM]
        · have:k=2:=by have:=of_decide_eq_false h1; omega
          subst this
          have hg1:=iK hgr
          rw [← hg1]
          refine back (g + 1) _ (by omega) (by omega) (yX [(0,0)] (by decide) ?_ ?_ ?_ lq)<;>simp [pV,tX,f9,uW,uX,uY,AG,nB,iF,lH,ji,Ew,cg,E2,vY,yW,sC,I,B,D,aM,hw]
      · simp [cw]
        refine yX [(0,0)] (by decide) ?_ ?_ ?_ lq<;>simp [pV,tX,lq,f9,uW,uX,uY,AG,nB,iF,lH,ji,Ew,cg,E2,vY,yW,sC,I,B,D,aM]
    · have:g=(t.groups.getD []).length:=by have:=of_decide_eq_false h; omega
      subst this
      have hs:bu t=ck (t.groups.getD []) (t.groups.getD []).length:=rfl
      rw [hs] at hfr ⊢
      generalize ck (t.groups.getD []) (t.groups.getD []).length=L at *
      by_cases hl:L=[]
      · rcases hfr with rfl | ⟨rfl,hne⟩
        · try simp only [I,B,D,RX,↓ KW,seval,bB,bG,bX,aG,hl]
        · exact absurd hl hne
      · rcases hfr with rfl | ⟨rfl,hne⟩
        · try simp only [I,B,D,RX,↓ KW,seval,bB,bG,bX,aG,hl]
        · try simp only [I,B,D,RX,↓ KW,seval,bB,bG,bX,aG,hl]
  · simp [ck]
    refine ai (by decide) ?_ ?_ ?_ ?_<;>simp [LX,I,B,D]
end
end Go.Eng
namespace Go.Eng
open Go
def jN (l:List Int):Int:=l.foldl DM 0
def f7 (l:List Int):Int:=l.foldl (fun n x=>if x > n then x else n) 0
theorem mQ {α β:Type} {f:β→α→β} {b:β} {l:List α} {i:Nat} {x:α} (h:l[i]? = some x):(l.take (i + 1)).foldl f b=f ((l.take i).foldl f b) x:=by
 rw [iJ h,List.foldl_append]; rfl
def v8.Spec (C:aZ) (f:Nat):Prop:=∀ l:Option (List Int),(l.getD []).length≤140737488355328→C.c f [aG aC l] (I (jN (l.getD []))) none
def most.Spec (C:aZ) (f:Nat):Prop:=∀ l:Option (List Int),(l.getD []).length≤140737488355328→C.c f [aG aC l] (I (f7 (l.getD []))) none
def az (t:Tb) (p:Int):Sp × Bool:=match (bu t).find? (fun x=>x.p == p) with
 | some x=>(x,true)
 | none=>(⟨0,0,0,0⟩,false)
def where.Spec (C:aZ) (f:Nat):Prop:=∀ (t:Tb) (p:Int),t.Ok→C.c f [.agg t.cells,I p] (.cQ [.agg (az t p).1.cells,B (az t p).2]) none
def cK (t:Tb) (p q:Int):Bool:=(az t p).2 && (az t q).2 && (az t p).1.group == (az t q).1.group && (az t p).1.ring != (az t q).1.ring
def beside.Spec (C:aZ) (f:Nat):Prop:=∀ (t:Tb) (p q:Int),t.Ok→C.c f [.agg t.cells,I p,I q] (B (cK t p q)) none
def aO (t:Tb) (p:Int):Ph:=t.phases.getD p.toNat default
def v9 (t:Tb) (k:Nat):List Int:=((List.range k).map fun (k:Nat)=>(k:Int)).filter fun p=>(aO t p).on
def vF (t:Tb):Int:=P4 (v9 t 8)
def on.Spec (C:aZ) (f:Nat):Prop:=∀ (t:Tb),t.Ok→C.c f [.agg t.cells] (I (vF t)) none
theorem JN (t:Tb) (k:Nat):v9 t (k + 1)=if (aO t k).on then v9 t k++[(k:Int)] else v9 t k:=by
 simp only [v9,List.range_succ,List.map_append,List.filter_append,List.map_cons,List.map_nil,List.filter_cons,List.filter_nil]
 split<;>simp
theorem sJ {t:Tb} (h:t.Ok) {k:Nat} (hk:k < 8):t.phases[k]? = some (aO t k):=by
 have:k < t.phases.length:=by rw [h.phases]; exact hk
 simp [aO,this]
theorem Tb.DN {t:Tb} (ht:t.Ok) {x:Int} (h0:0≤x) (h8:x < 8):t.cells[x.toNat * 13]? = some (B (aO t x).on)∧t.cells[x.toNat * 13 + 1]? = some (I (aO t x).min)∧t.cells[x.toNat * 13 + 2]? = some (I (aO t x).Nk)∧t.cells[x.toNat * 13 + 3]? = some (I (aO t x).max)∧t.cells[x.toNat * 13 + 4]? = some (I (aO t x).top)∧t.cells[x.toNat * 13 + 5]? = some (I (aO t x).step)∧t.cells[x.toNat * 13 + 6]? = some (I (aO t x).cB)∧t.cells[x.toNat * 13 + 7]? = some (I (aO t x).red)∧t.cells[x.toNat * 13 + 8]? = some (I (aO t x).walk)∧t.cells[x.toNat * 13 + 9]? = some (I (aO t x).dG)∧t.cells[x.toNat * 13 + 10]? = some (I (aO t x).lJ)∧t.cells[x.toNat * 13 + 11]? = some (B (aO t x).lock)∧t.cells[x.toNat * 13 + 12]? = some (B (aO t x).rest):=by
 have:=Tb.xT (sJ ht (k:=x.toNat) (by omega))
 rw [Int.toNat_of_nonneg h0] at this
 exact this
theorem Tb.LN {t:Tb} (ht:t.Ok) {x:Int} (h0:0≤x) (h8:x < 8):aB t.cells (x.toNat * 13) (some 13)=some (.agg (aO t x).cells):=by
 have:=Tb.ku (sJ ht (k:=x.toNat) (by omega))
 rw [Int.toNat_of_nonneg h0] at this
 exact this
theorem tY {α:Type} {p:α→Bool} {l:List α} {i:Nat} {x:α} (h:l[i]? = some x) (hp:p x=true) (hn:∀ y∈l.take i,p y=false):l.find? p=some x:=by
 rw [DI h,List.find?_append]
 have:(l.take i).find? p=none:=by rw [List.find?_eq_none]; intro y hy; simp [hn y hy]
 simp [this,hp]
section
variable {P:Program} (hm:P.follows .mixedOrders=true) {f:Nat}
include hm
theorem Sum.ok {fA:Nat} (hc:aE P f=some (qG fA)) (hA:Add.Spec (Pure P) fA):v8.Spec (Pure P) f:=by
 intro l hlen
 refine ak hm hc (by show 1≤18; decide) (aj (keep:=[]) (i:=0) ?_)
 try simp only [I,B,D,RX,↓ KW,seval,qG,Z.H]
 refine aF (fun i:Nat=>(⟨[(4,.dat (I i) none),(0,.dat (aG aC l) none),(3,.dat (I (jN ((l.getD []).take i))) none)],[],[],400⟩:S)) (fun i=>(l.getD []).length - i) (fun i=>i≤(l.getD []).length) ?_ 0 (by omega) ?_
 ·intro i hi A back
  have hw:=aD (k:=i) (by omega)
  try simp only [I,B,D,RX,↓ KW,seval]
  refine ay (fun h=>?_) (fun h=>?_)<;>try simp only [I,B,D,RX,↓ KW,seval,h]
  ·have hlt:i < (l.getD []).length:=by have:=of_decide_eq_true h; omega
   obtain ⟨x,hx⟩:∃ x,(l.getD [])[i]? = some x:=⟨_,List.getElem?_eq_getElem hlt⟩
   have hn:jN ((l.getD []).take (i + 1))=DM (jN ((l.getD []).take i)) x:=mQ hx
   refine ⟨by omega,?_⟩
   try simp only [I,B,D,RX,↓ KW,seval,hx,aC]
   refine af (hA _ _) ?_
   try simp only [I,B,D,RX,↓ KW,seval]
   refine back (i + 1) _ (by omega) (by omega) (ai (by decide) ?_ ?_ ?_ ?_)<;>simp [LX,I,B,D,hw,hn]
  ·have:i=(l.getD []).length:=by have:=of_decide_eq_false h; omega
   subst this
   simp
 ·refine ai (by decide) ?_ ?_ ?_ ?_<;>simp [LX,I,B,D,jN]
theorem v8.ok {fS:Nat} (hc:aE P f=some (qE fS)) (hS:v8.Spec (Pure P) fS):v8.Spec (Pure P) f:=by
 intro l hlen
 refine ak hm hc (by show 1≤5; decide) (aj (keep:=[]) (i:=0) ?_)
 try simp only [I,B,D,RX,↓ KW,seval,qE,Z.H]
 refine af (hS l hlen) ?_
 try simp only [I,B,D,RX,↓ KW,seval]
theorem most.ok (hc:aE P f=some oY):most.Spec (Pure P) f:=by
 intro l hlen
 refine ak hm hc (by show 1≤18; decide) (aj (keep:=[]) (i:=0) ?_)
 try simp only [I,B,D,RX,↓ KW,seval,oY,Z.H]
 refine aF (fun i:Nat=>(⟨[(4,.dat (I i) none),(0,.dat (aG aC l) none),(3,.dat (I (f7 ((l.getD []).take i))) none)],[],[],400⟩:S)) (fun i=>(l.getD []).length - i) (fun i=>i≤(l.getD []).length) ?_ 0 (by omega) ?_
 ·intro i hi A back
  have hw:=aD (k:=i) (by omega)
  try simp only [I,B,D,RX,↓ KW,seval]
  refine ay (fun h=>?_) (fun h=>?_)<;>try simp only [I,B,D,RX,↓ KW,seval,h]
  ·have hlt:i < (l.getD []).length:=by have:=of_decide_eq_true h; omega
   obtain ⟨x,hx⟩:∃ x,(l.getD [])[i]? = some x:=⟨_,List.getElem?_eq_getElem hlt⟩
   have hn:f7 ((l.getD []).take (i + 1))=(if x > f7 ((l.getD []).take i) then x else f7 ((l.getD []).take i)):=mQ hx
   refine ⟨by omega,?_⟩
   try simp only [I,B,D,RX,↓ KW,seval,hx,aC]
   refine back (i + 1) _ (by omega) (by omega) (ai (by decide) ?_ ?_ ?_ ?_)<;>simp [LX,I,B,D,hw,hn]
  ·have:i=(l.getD []).length:=by have:=of_decide_eq_false h; omega
   subst this
   simp
 ·refine ai (by decide) ?_ ?_ ?_ ?_<;>simp [LX,I,B,D,f7]
theorem where.ok {fS e:Nat} (hc:aE P f=some (nu fS)) (hS:bu.Spec (Pure P) fS e):where.Spec (Pure P) f:=by
 intro t p ht
 have hl:=Tb.len ht
 have hp:=Tb.whole ht
 have hsz:=CQ ht
 refine ak hm hc (by show 2≤28; decide) (aj (keep:=[]) (i:=0) ?_)
 try simp only [I,B,D,RX,↓ KW,seval,nu,Z.H,hp]
 refine af (hS t none ht (.inl rfl)) ?_
 try simp only [I,B,D,RX,↓ KW,seval]
 refine aF (fun i:Nat=>(⟨[(7,.dat (I i) none),(6,.dat (aG Sp.cells (bX (bu t))) none),(1,.dat (I p) none),(4,.ptr 5 0)],[(5,⟨[I 0,I 0,I 0,I 0],[]⟩)],[],400⟩:S)) (fun i=>(bu t).length - i) (fun i=>i≤(bu t).length∧∀ x∈(bu t).take i,x.p≠p) ?_ 0 (by simp) ?_
 ·intro i ⟨hi,hnot⟩ A back
  have hw:=aD (k:=i) (by omega)
  have hmk:(bX (bu t)).getD []=bu t:=by unfold bX; split<;>simp_all
  try simp only [I,B,D,RX,↓ KW,seval,hmk]
  refine ay (fun h=>?_) (fun h=>?_)<;>try simp only [I,B,D,RX,↓ KW,seval,hmk,h]
  ·have hlt:i < (bu t).length:=by have:=of_decide_eq_true h; omega
   obtain ⟨x,hx⟩:∃ x,(bu t)[i]? = some x:=⟨_,List.getElem?_eq_getElem hlt⟩
   have htk:=iJ hx
   refine ⟨by omega,?_⟩
   try simp only [I,B,D,RX,↓ KW,seval,hx,Sp.len,Sp.cells]
   refine ay (fun h2=>?_) (fun h2=>?_)<;>try simp only [I,B,D,RX,↓ KW,seval,hx,Sp.len,Sp.cells,hmk,h2]
   ·have hw2:az t p=(x,true):=by
     have:(bu t).find? (fun x=>x.p == p)=some x:=tY hx (by simpa using h2) (fun y hy=>by simpa using hnot y hy)
     simp [az,this]
    exact ⟨by omega,by simp [hw2]⟩
   ·refine back (i + 1) _ ⟨by omega,?_⟩ (by omega) ?_
    ·rw [htk]; simp only [List.mem_append,List.mem_singleton]; rintro y (hy | rfl); exact hnot y hy; simpa using h2
    ·refine ai (by decide) ?_ ?_ ?_ ?_<;>simp [LX,I,B,D,hw]
  ·have:i=(bu t).length:=by have:=of_decide_eq_false h; omega
   subst this
   have hw2:az t p=(⟨0,0,0,0⟩,false):=by
    have:(bu t).find? (fun x=>x.p == p)=none:=by
     rw [List.find?_eq_none]; intro x hx; simpa using hnot x (by simpa using hx)
    simp [az,this]
   try simp only [I,B,D,RX,↓ KW,seval,hw2,Sp.cells]
 ·refine ai (by decide) ?_ ?_ ?_ ?_<;>simp [LX,I,B,D]
theorem beside.ok {fW:Nat} (hc:aE P f=some (lK fW)) (hW:where.Spec (Pure P) fW):beside.Spec (Pure P) f:=by
 intro t p q ht
 have hl:=Tb.len ht
 have hp:=Tb.whole ht
 refine ak hm hc (by show 3≤41; decide) (aj (keep:=[]) (i:=0) ?_)
 try simp only [I,B,D,RX,↓ KW,seval,lK,Z.H,hp,hl]
 repeat' (first | (refine af (hW t _ ht) ?_; try simp only [I,B,D,RX,↓ KW,seval,hp,Sp.cells]) | (((first | refine aR ?_ ?_ | refine ay ?_ ?_ | refine bk ?_ ?_)<;>intro h)<;>try simp only [I,B,D,RX,↓ KW,seval,hp,Sp.cells,h]))
 all_goals simp_all [cK]
theorem on.ok {e fO:Nat} (hc:aE P f=some (sE e fO)) (hO:AH.Spec (Pure P) fO):on.Spec (Pure P) f:=by
 intro t ht
 have hl:=Tb.len ht
 have hp:=Tb.whole ht
 refine ak hm hc (by show 1≤20; decide) (aj (keep:=[]) (i:=0) ?_)
 try simp only [I,B,D,RX,↓ KW,seval,sE,Z.H,hp,hl]
 refine aF (fun k:Nat=>(⟨[(4,.dat (I k) none),(1,.ptr 4 0),(3,bB aC (v9 t k) 0)],[(4,⟨t.cells,[]⟩)],bG (v9 t k) 0 e,400⟩:S)) (fun k=>8 - k) (fun k=>k≤8) ?_ 0 (by omega) ?_
 ·intro k hk A back
  have hw:=aD (k:=k) (by omega)
  have hn:=JN t k
  have hlen:(v9 t k).length≤k:=by
   have:=List.length_filter_le (fun p=>(aO t p).on) ((List.range k).map fun (k:Nat)=>(k:Int))
   simpa [v9] using this
  by_cases hl:v9 t k=[]
  ·try simp only [I,B,D,RX,↓ KW,seval,bB,bG,hl]
   refine ay (fun h=>?_) (fun h=>?_)<;>try simp only [I,B,D,RX,↓ KW,seval,h]
   ·have h8:=of_decide_eq_true h
    have hph:=Tb.xT (sJ ht (k:=k) (by omega))
    refine ⟨by omega,?_⟩
    try simp only [I,B,D,RX,↓ KW,seval,hph]
    refine ay (fun h2=>?_) (fun h2=>?_)<;>try simp only [I,B,D,RX,↓ KW,seval,h2]
    ·refine back (k + 1) _ (by omega) (by omega) (ai (by decide) ?_ ?_ ?_ ?_)<;>simp [LX,I,B,D,hn,hl,h2,hw]
    ·refine back (k + 1) _ (by omega) (by omega) (ai (by decide) ?_ ?_ ?_ ?_)<;>simp [LX,I,B,D,hn,hl,h2,hw]
   ·have:k=8:=by have:=of_decide_eq_false h; omega
    subst this
    try simp only [I,B,D,RX,↓ KW,seval]
    refine af (hO none (by simp)) ?_
    try simp only [I,B,D,RX,↓ KW,seval]
    simp [vF,hl]
  ·try simp only [I,B,D,RX,↓ KW,seval,bB,bG,hl]
   refine ay (fun h=>?_) (fun h=>?_)<;>try simp only [I,B,D,RX,↓ KW,seval,h]
   ·have h8:=of_decide_eq_true h
    have hph:=Tb.xT (sJ ht (k:=k) (by omega))
    refine ⟨by omega,?_⟩
    try simp only [I,B,D,RX,↓ KW,seval,hph]
    refine ay (fun h2=>?_) (fun h2=>?_)<;>try simp only [I,B,D,RX,↓ KW,seval,h2]
    ·refine ⟨by omega,?_⟩
     refine back (k + 1) _ (by omega) (by omega) (ai (by decide) ?_ ?_ ?_ ?_)<;>simp [LX,I,B,D,hn,hl,h2,hw]
    ·refine back (k + 1) _ (by omega) (by omega) (ai (by decide) ?_ ?_ ?_ ?_)<;>simp [LX,I,B,D,hn,hl,h2,hw]
   ·have:k=8:=by have:=of_decide_eq_false h; omega
    subst this
    try simp only [I,B,D,RX,↓ KW,seval]
    refine af (hO (some (v9 t 8)) (by simp; omega)) ?_
    try simp only [I,B,D,RX,↓ KW,seval]
    simp [vF]
 ·refine ai (by decide) ?_ ?_ ?_ ?_<;>simp [LX,I,B,D,v9]
end
end Go.Eng
namespace Go.Eng
open Go
def lR (t:Tb):Int:=f7 ((ja (vF t)).map fun p=>jN [(aO t p).cB,(aO t p).red])
def clear.Spec (C:aZ) (f:Nat):Prop:=∀ (t:Tb),t.Ok→C.c f [.agg t.cells] (I (lR t)) none
def kB (t:Tb) (p:Int):Int:=if rQ (vF t) p then jN [f7 [i9 (aO t p).min,jN [(aO t p).walk,(aO t p).dG],i9 (aO t p).top],t.extend,(aO t p).cB,(aO t p).red,t.revert,8] else 0
def serve.Spec (C:aZ) (f:Nat):Prop:=∀ (t:Tb) (p:Int),t.Ok→C.c f [.agg t.cells,I p] (I (kB t p)) none
def gh (t:Tb) (g:Int) (n:Nat):List Int:=8 :: (((bu t).take n).filter (fun x=>x.group == g)).map (fun x=>kB t x.p)
def ov (t:Tb) (g:Int):Int:=if g < 0∨((t.groups.getD []).length:Int)≤g then 0 else jN (gh t g (bu t).length)
def pass.Spec (C:aZ) (f:Nat):Prop:=∀ (t:Tb) (g:Int),t.Ok→C.c f [.agg t.cells,I g] (I (ov t g)) none
def pW (t:Tb) (p:Int):Int:=if (az t p).2 && rQ (vF t) p then jN (ov t (az t p).1.group :: (List.range (t.groups.getD []).length).map fun (g:Nat)=>ov t g) else 0
def free.Spec (C:aZ) (f:Nat):Prop:=∀ (t:Tb) (p:Int),t.Ok→C.c f [.agg t.cells,I p] (I (pW t p)) none
def u5 (t:Tb) (k:Int):Rl:=(t.bA.getD []).getD k.toNat default
def qM (t:Tb) (k:Int):Int:=if k < 0∨((t.bA.getD []).length:Int)≤k then 0 else
 jN [(u5 t k).delay,(u5 t k).hold,(u5 t k).green,(u5 t k).green,(u5 t k).dR,(u5 t k).dR,(u5 t k).dR,lR t,lR t,lR t,lR t,lR t,t.revert,t.revert,t.revert,60]
def entry.Spec (C:aZ) (f:Nat):Prop:=∀ (t:Tb) (k:Int),t.Ok→C.c f [.agg t.cells,I k] (I (qM t k)) none
theorem AI {s p:Int} (h:rQ s p=true):0≤p∧p < 8:=by
 simp only [rQ,Bool.and_eq_true,decide_eq_true_eq] at h; exact h.1
theorem yZ {s p:Int} (h:p∈ja s):0≤p∧p < 8:=AI (List.mem_filter.1 h).2
theorem CR (s:Int):(ja s).length≤8:=by
 have:=List.length_filter_le (rQ s) ((List.range 8).map fun (k:Nat)=>(k:Int))
 simpa [ja] using this
theorem bU {α:Type} (l:List α):(bX l).getD []=l:=by unfold bX; split<;>simp_all
theorem uF {α β:Type} {f:α→β} {l:List α} {i:Nat} {x:α} (h:l[i]? = some x):(l.take (i + 1)).map f=(l.take i).map f++[f x]:=by rw [iJ h]; simp
theorem Fe {t:Tb} {g:Int} {k:Nat} {x:Sp} (h:(bu t)[k]? = some x):gh t g (k + 1)=if x.group == g then gh t g k++[kB t x.p] else gh t g k:=by
 unfold gh
 rw [iJ h,List.filter_append,List.map_append]
 by_cases hx:x.group == g<;>simp [hx]
theorem AJ (t:Tb) (g:Int) (k:Nat):(gh t g k).length≤k + 1:=by
 have:=List.length_filter_le (fun x:Sp=>x.group == g) ((bu t).take k)
 have h2:((bu t).take k).length≤k:=List.length_take_le _ _
 simp only [gh,List.length_cons,List.length_map]
 omega
section
variable {P:Program} (hm:P.follows .mixedOrders=true) {f:Nat}
include hm
theorem clear.ok {fO fL e fS fM:Nat} (hc:aE P f=some (ny fO fL e fS fM)) (hO:on.Spec (Pure P) fO) (hL:qK.Spec (Pure P) fL e) (hS:v8.Spec (Pure P) fS) (hM:most.Spec (Pure P) fM):clear.Spec (Pure P) f:=by
 intro t ht
 have hl:=Tb.len ht
 have hp:=Tb.whole ht
 refine ak hm hc (by show 1≤32; decide) (aj (keep:=[]) (i:=0) ?_)
 try simp only [I,B,D,RX,↓ KW,seval,ny,Z.H,hp,hl]
 refine af (hO t ht) ?_
 try simp only [I,B,D,RX,↓ KW,seval]
 refine af (hL _ none (.inl rfl)) ?_
 try simp only [I,B,D,RX,↓ KW,seval]
 have hlen:=CR (vF t)
 have hrg:=@yZ (vF t)
 have hmost:∀ G,G=(ja (vF t)).map (fun p=>jN [(aO t p).cB,(aO t p).red])→lR t=f7 G:=fun G h=>by rw [h]; rfl
 generalize ja (vF t)=L at *
 generalize hF:(fun p=>jN [(aO t p).cB,(aO t p).red])=F at *
 have hF':∀ p,F p=jN [(aO t p).cB,(aO t p).red]:=fun p=>by rw [← hF]
 have hmk:=bU L
 refine aF (fun k:Nat=>(⟨[(10,.dat (I k) none),(9,.dat (I L.length) none),(8,.dat (aG aC (bX L)) none),(1,.ptr 4 0),(3,bB aC ((L.take k).map F) 0)],[(4,⟨t.cells,[]⟩)],bG ((L.take k).map F) 0 e,400⟩:S)) (fun k=>L.length - k) (fun k=>k≤L.length) ?_ 0 (by omega) ?_
 ·intro k hk A back
  have hw:=aD (k:=k) (by omega)
  by_cases hl:(L.take k).map F=[]
  all_goals
   try simp only [I,B,D,RX,↓ KW,seval,bB,bG,hl]
   refine ay (fun h=>?_) (fun h=>?_)<;>try simp only [I,B,D,RX,↓ KW,seval,hmk,h]
  ·have hlt:k < L.length:=by have:=of_decide_eq_true h; omega
   obtain ⟨x,hx⟩:∃ x,L[k]? = some x:=⟨_,List.getElem?_eq_getElem hlt⟩
   have hn:=uF (f:=F) hx
   have hx8:=hrg (List.mem_of_getElem? hx)
   have hph:=Tb.DN ht hx8.1 hx8.2
   refine ⟨by omega,?_⟩
   try simp only [I,B,D,RX,↓ KW,seval,hx,aC]
   refine ⟨by omega,?_⟩
   try simp only [I,B,D,RX,↓ KW,seval,hph]
   refine ⟨by omega,?_⟩
   try simp only [I,B,D,RX,↓ KW,seval,hph]
   refine af (hS (some [(aO t x).cB,(aO t x).red]) (by simp)) ?_
   try simp only [I,B,D,RX,↓ KW,seval]
   refine back (k + 1) _ (by omega) (by omega) (ai (by decide) ?_ ?_ ?_ ?_)<;>simp [LX,I,B,D,hn,hl,hw,hF']
  ·have:k=L.length:=by have:=of_decide_eq_false h; omega
   subst this
   try simp only [I,B,D,RX,↓ KW,seval]
   rw [List.take_length] at hl
   refine af (hM none (by simp)) ?_
   try simp only [I,B,D,RX,↓ KW,seval]
   simp [hmost _ rfl,hl]
  ·have hlt:k < L.length:=by have:=of_decide_eq_true h; omega
   obtain ⟨x,hx⟩:∃ x,L[k]? = some x:=⟨_,List.getElem?_eq_getElem hlt⟩
   have hn:=uF (f:=F) hx
   have hx8:=hrg (List.mem_of_getElem? hx)
   have hph:=Tb.DN ht hx8.1 hx8.2
   refine ⟨by omega,?_⟩
   try simp only [I,B,D,RX,↓ KW,seval,hx,aC]
   refine ⟨by omega,?_⟩
   try simp only [I,B,D,RX,↓ KW,seval,hph]
   refine ⟨by omega,?_⟩
   try simp only [I,B,D,RX,↓ KW,seval,hph]
   refine af (hS (some [(aO t x).cB,(aO t x).red]) (by simp)) ?_
   try simp only [I,B,D,RX,↓ KW,seval]
   refine ⟨by simp; omega,?_⟩
   refine back (k + 1) _ (by omega) (by omega) (ai (by decide) ?_ ?_ ?_ ?_)<;>simp [LX,I,B,D,hn,hl,hw,hF']
  ·have:k=L.length:=by have:=of_decide_eq_false h; omega
   subst this
   rw [List.take_length] at *
   try simp only [I,B,D,RX,↓ KW,seval]
   refine af (hM (some (L.map F)) (by simp; omega)) ?_
   try simp only [I,B,D,RX,↓ KW,seval]
   simp [hmost _ rfl]
 ·refine ai (by decide) ?_ ?_ ?_ ?_<;>simp [LX,I,B,D,hmk]
theorem serve.ok {fO fH fC e fS fM:Nat} (hc:aE P f=some (nA fO fH fC e fS fM)) (hO:on.Spec (Pure P) fO) (hH:uV.Spec (Pure P) fH) (hC:Cap.Spec (Pure P) fC) (hS:v8.Spec (Pure P) fS) (hM:most.Spec (Pure P) fM):serve.Spec (Pure P) f:=by
 intro t p ht
 have hl:=Tb.len ht
 have hp:=Tb.whole ht
 have htl:=Tb.tail_at ht
 have h116:=htl 0 (by omega)
 have h119:=htl 3 (by omega)
 refine ak hm hc (by show 2≤39; decide) (aj (keep:=[]) (i:=0) ?_)
 try simp only [I,B,D,RX,↓ KW,seval,nA,Z.H,hp,hl]
 refine af (hO t ht) ?_
 try simp only [I,B,D,RX,↓ KW,seval]
 refine af (hH _ _) ?_
 try simp only [I,B,D,RX,↓ KW,seval]
 by_cases h:rQ (vF t) p=true
 ·have hr:=AI h
  have hph:=Tb.LN ht hr.1 hr.2
  have hx:kB t p=jN [f7 [i9 (aO t p).min,jN [(aO t p).walk,(aO t p).dG],i9 (aO t p).top],t.extend,(aO t p).cB,(aO t p).red,t.revert,8]:=if_pos h
  generalize aO t p=x at *
  try simp only [I,B,D,RX,↓ KW,seval,h]
  refine ⟨by omega,?_⟩
  try simp only [I,B,D,RX,↓ KW,seval,hph,Ph.cells,cE]
  refine af (hC _) ?_
  try simp only [I,B,D,RX,↓ KW,seval]
  refine af (hS (some [x.walk,x.dG]) (by simp)) ?_
  try simp only [I,B,D,RX,↓ KW,seval]
  refine af (hC _) ?_
  try simp only [I,B,D,RX,↓ KW,seval]
  refine af (hM (some [_,_,_]) (by simp)) ?_
  try simp only [I,B,D,RX,↓ KW,seval,h116,h119]
  refine af (hS (some [_,_,_,_,_,_]) (by simp)) ?_
  try simp only [I,B,D,RX,↓ KW,seval,hx]
  rfl
 ·have hx:kB t p=0:=if_neg h
  simp only [Bool.not_eq_true] at h
  try simp only [I,B,D,RX,↓ KW,seval,h,hx]
theorem pass.ok {e fS fV fs e':Nat} (hc:aE P f=some (oX e fS fV fs)) (hS:bu.Spec (Pure P) fS e') (hV:serve.Spec (Pure P) fV) (hs:v8.Spec (Pure P) fs):pass.Spec (Pure P) f:=by
 intro t g ht
 have hl:=Tb.len ht
 have hp:=Tb.whole ht
 have hg:=Tb.mP ht
 refine ak hm hc (by show 2≤39; decide) (aj (keep:=[]) (i:=0) ?_)
 try simp only [I,B,D,RX,↓ KW,seval,oX,Z.H,hp,hl]
 by_cases h0:g < 0∨((t.groups.getD []).length:Int)≤g
 ·have hx:ov t g=0:=if_pos h0
  repeat' (((first | refine aR ?_ ?_ | refine ay ?_ ?_ | refine bk ?_ ?_)<;>intro h)<;>try simp only [I,B,D,RX,↓ KW,seval,hg,hx,h])
  simp_all
  omega
 ·have hx:ov t g=jN (gh t g (bu t).length):=if_neg h0
  have h1:decide (g < 0)=false:=by simp; omega
  have h2:decide (((t.groups.getD []).length:Int)≤g)=false:=by simp; omega
  try simp only [I,B,D,RX,↓ KW,seval,h1,hg,h2,hp]
  refine af (hS t none ht (.inl rfl)) ?_
  have hsz:=CQ ht
  have hmk:=bU (bu t)
  try simp only [I,B,D,RX,↓ KW,seval,hmk]
  generalize hS':bu t=Z at *
  refine aF (fun k:Nat=>(⟨[(21,.dat (I k) none),(20,.dat (I Z.length) none),(19,.dat (aG Sp.cells (bX Z)) none),(1,.dat (I g) none),(2,.ptr 4 0),(5,bB aC (gh t g k) 0)],[(4,⟨t.cells,[]⟩)],bG (gh t g k) 0 e,400⟩:S)) (fun k=>Z.length - k) (fun k=>k≤Z.length) ?_ 0 (by omega) ?_
  ·intro k hk A back
   have hw:=aD (k:=k) (by omega)
   have hne:gh t g k≠[]:=by simp [gh]
   try simp only [I,B,D,RX,↓ KW,seval,bB,bG,hne]
   refine ay (fun h=>?_) (fun h=>?_)<;>try simp only [I,B,D,RX,↓ KW,seval,hmk,hp,h]
   ·have hlt:k < Z.length:=by have:=of_decide_eq_true h; omega
    obtain ⟨x,hx⟩:∃ x,Z[k]? = some x:=⟨_,List.getElem?_eq_getElem hlt⟩
    have hn:gh t g (k + 1)=if x.group == g then gh t g k++[kB t x.p] else gh t g k:=Fe (by rw [hS']; exact hx)
    have hlen:=AJ t g k
    refine ⟨by omega,?_⟩
    try simp only [I,B,D,RX,↓ KW,seval,hx,Sp.len,Sp.cells]
    refine ay (fun h2=>?_) (fun h2=>?_)<;>try simp only [I,B,D,RX,↓ KW,seval,hp,h2]
    ·refine af (hV t _ ht) ?_
     try simp only [I,B,D,RX,↓ KW,seval]
     refine ⟨by omega,?_⟩
     refine back (k + 1) _ (by omega) (by omega) (ai (by decide) ?_ ?_ ?_ ?_)<;>simp [LX,I,B,D,hn,hw,h2,hne]
    ·refine back (k + 1) _ (by omega) (by omega) (ai (by decide) ?_ ?_ ?_ ?_)<;>simp [LX,I,B,D,hn,hw,h2,hne]
   ·have:k=Z.length:=by have:=of_decide_eq_false h; omega
    subst this
    have hlen:=AJ t g Z.length
    try simp only [I,B,D,RX,↓ KW,seval]
    refine af (hs (some (gh t g Z.length)) (by simp; omega)) ?_
    try simp only [I,B,D,RX,↓ KW,seval,hx]
    rfl
  ·refine ai (by decide) ?_ ?_ ?_ ?_<;>simp [LX,I,B,D,gh,hmk,kB]
end
end Go.Eng
namespace Go.Eng
open Go
def lS (t:Tb) (p:Int) (n:Nat):List Int:=ov t (az t p).1.group :: (List.range n).map fun (g:Nat)=>ov t g
theorem Ff (t:Tb) (p:Int) (n:Nat):lS t p (n + 1)=lS t p n++[ov t n]:=by simp [lS,List.range_succ]
def jm (t:Tb) (n:Nat):List Int:=(List.range n).map fun (k:Nat)=>jN [qM t k,(u5 t k).stay]
theorem Fg (t:Tb) (n:Nat):jm t (n + 1)=jm t n++[jN [qM t n,(u5 t n).stay]]:=by simp [jm,List.range_succ]
def nC (t:Tb) (l:List Int):List Int:=l.flatMap fun p=>[i9 (aO t p).min,jN [(aO t p).walk,(aO t p).dG]]
theorem y6 {t:Tb} {l:List Int} {i:Nat} {x:Int} (h:l[i]? = some x):nC t (l.take (i + 1))=nC t (l.take i)++[i9 (aO t x).min,jN [(aO t x).walk,(aO t x).dG]]:=by rw [iJ h]; simp [nC]
theorem Hi (t:Tb) (l:List Int):(nC t l).length=l.length * 2:=by
 induction l with
 | nil=>rfl
 | cons x l ih=>simp only [nC,List.flatMap_cons,List.length_append,List.length_cons,List.length_nil] at ih ⊢; omega
def Ir (t:Tb):Int:=if (t.bA.getD []).length=0 then 0 else jN [f7 (jm t (t.bA.getD []).length),f7 (nC t (ja (vF t))),lR t,t.revert,30]
def xU.Spec (C:aZ) (f:Nat):Prop:=∀ (t:Tb),t.Ok→C.c f [.agg t.cells] (I (Ir t)) none
def pX (t:Tb) (p:Int):Int:=if pW t p=0∨(t.bA.getD []).length=0 then pW t p else jN [Vq (jN [t.share,1]) (jN [Ir t,pW t p,2]),t.share]
def wait.Spec (C:aZ) (f:Nat):Prop:=∀ (t:Tb) (p:Int),t.Ok→C.c f [.agg t.cells,I p] (I (pX t p)) none
theorem Rl.len (r:Rl):r.cells.length=11:=rfl
theorem AK {t:Tb} {k:Int} (h0:0≤k) (h1:k < ((t.bA.getD []).length:Int)):(t.bA.getD [])[k.toNat]? = some (u5 t k):=by
 have:k.toNat < (t.bA.getD []).length:=by omega
 simp [u5,this]
section
variable {P:Program} (hm:P.follows .mixedOrders=true) {f:Nat}
include hm
theorem free.ok {fW fO fH fP e fs:Nat} (hc:aE P f=some (oV fW fO fH fP e fs)) (hW:where.Spec (Pure P) fW) (hO:on.Spec (Pure P) fO) (hH:uV.Spec (Pure P) fH) (hP:pass.Spec (Pure P) fP) (hs:v8.Spec (Pure P) fs):free.Spec (Pure P) f:=by
 intro t p ht
 have hl:=Tb.len ht
 have hp:=Tb.whole ht
 have hg:=Tb.mP ht
 have hb:=ht.groups
 refine ak hm hc (by show 2≤44; decide) (aj (keep:=[]) (i:=0) ?_)
 try simp only [I,B,D,RX,↓ KW,seval,oV,Z.H,hp,hl]
 refine af (hW t _ ht) ?_
 try simp only [I,B,D,RX,↓ KW,seval,hp,Sp.cells]
 by_cases h0:((az t p).2 && rQ (vF t) p)=true
 ·have hx:pW t p=jN (lS t p (t.groups.getD []).length):=if_pos h0
  simp only [Bool.and_eq_true] at h0
  try simp only [I,B,D,RX,↓ KW,seval,h0,hp]
  refine af (hO t ht) ?_
  try simp only [I,B,D,RX,↓ KW,seval]
  refine af (hH _ _) ?_
  try simp only [I,B,D,RX,↓ KW,seval,h0,hp]
  refine af (hP t _ ht) ?_
  try simp only [I,B,D,RX,↓ KW,seval]
  refine aF (fun k:Nat=>(⟨[(8,.dat (I k) none),(2,.ptr 4 0),(7,bB aC (lS t p k) 0)],[(4,⟨t.cells,[]⟩)],bG (lS t p k) 0 e,400⟩:S)) (fun k=>(t.groups.getD []).length - k) (fun k=>k≤(t.groups.getD []).length) ?_ 0 (by omega) ?_
  ·intro k hk A back
   have hw:=aD (k:=k) (by omega)
   have hne:lS t p k≠[]:=by simp [lS]
   have hn:=Ff t p k
   have hlen:(lS t p k).length=k + 1:=by simp [lS]
   try simp only [I,B,D,RX,↓ KW,seval,bB,bG,hne,hg]
   refine ay (fun h=>?_) (fun h=>?_)<;>try simp only [I,B,D,RX,↓ KW,seval,hp,h]
   ·have:k < (t.groups.getD []).length:=by have:=of_decide_eq_true h; omega
    refine af (hP t _ ht) ?_
    try simp only [I,B,D,RX,↓ KW,seval]
    refine ⟨by omega,?_⟩
    refine back (k + 1) _ (by omega) (by omega) (ai (by decide) ?_ ?_ ?_ ?_)<;>simp [LX,I,B,D,hn,hw,hne]
   ·have:k=(t.groups.getD []).length:=by have:=of_decide_eq_false h; omega
    subst this
    try simp only [I,B,D,RX,↓ KW,seval]
    refine af (hs (some (lS t p (t.groups.getD []).length)) (by simp; omega)) ?_
    try simp only [I,B,D,RX,↓ KW,seval,hx]
    rfl
  ·refine ai (by decide) ?_ ?_ ?_ ?_<;>simp [LX,I,B,D,lS]
 ·have hx:pW t p=0:=if_neg h0
  repeat' (first | ((first | refine af (hO t ht) ?_ | refine af (hH _ _) ?_); try simp only [I,B,D,RX,↓ KW,seval,hp,hx]) | (((first | refine aR ?_ ?_ | refine ay ?_ ?_ | refine bk ?_ ?_)<;>intro h)<;>try simp only [I,B,D,RX,↓ KW,seval,hp,hx,h]))
  all_goals simp_all
theorem entry.ok {fC e fs:Nat} (hc:aE P f=some (nw fC e fs)) (hC:clear.Spec (Pure P) fC) (hs:v8.Spec (Pure P) fs):entry.Spec (Pure P) f:=by
 intro t k ht
 have hl:=Tb.len ht
 have hp:=Tb.whole ht
 have hg:=Tb.v7 ht
 have h119:=Tb.tail_at ht 3 (by omega)
 refine ak hm hc (by show 2≤50; decide) (aj (keep:=[]) (i:=0) ?_)
 try simp only [I,B,D,RX,↓ KW,seval,nw,Z.H,hp,hl]
 by_cases h0:k < 0∨((t.bA.getD []).length:Int)≤k
 ·have hx:qM t k=0:=if_pos h0
  repeat' (((first | refine aR ?_ ?_ | refine ay ?_ ?_ | refine bk ?_ ?_)<;>intro h)<;>try simp only [I,B,D,RX,↓ KW,seval,hg,hx,h])
  simp_all
  omega
 ·have hx:=show qM t k=_ from if_neg h0
  have h1:decide (k < 0)=false:=by simp; omega
  have h2:decide (((t.bA.getD []).length:Int)≤k)=false:=by simp; omega
  have hr:=AK (t:=t) (k:=k) (by omega) (by omega)
  try simp only [I,B,D,RX,↓ KW,seval,h1,h2,hg]
  refine ⟨by omega,?_⟩
  try simp only [I,B,D,RX,↓ KW,seval,hr,Rl.len,Rl.cells,bL,hp]
  refine af (hC t ht) ?_
  try simp only [I,B,D,RX,↓ KW,seval,h119]
  refine af (hs (some [_,_,_,_,_,_,_,_,_,_,_,_,_,_,_,_]) (by simp)) ?_
  try simp only [I,B,D,RX,↓ KW,seval,hx]
  rfl
theorem wait.ok {fF e fs fO fM:Nat} (hc:aE P f=some (oS fF e fs fO fM)) (hF:free.Spec (Pure P) fF) (hs:v8.Spec (Pure P) fs) (hO:xU.Spec (Pure P) fO) (hM:Mul.Spec (Pure P) fM):wait.Spec (Pure P) f:=by
 intro t p ht
 have hl:=Tb.len ht
 have hp:=Tb.whole ht
 have hg:=Tb.v7 ht
 have h130:=Tb.LM ht
 refine ak hm hc (by show 2≤32; decide) (aj (keep:=[]) (i:=0) ?_)
 try simp only [I,B,D,RX,↓ KW,seval,oS,Z.H,hp,hl]
 refine af (hF t _ ht) ?_
 try simp only [I,B,D,RX,↓ KW,seval,hg]
 by_cases h0:pW t p=0∨(t.bA.getD []).length=0
 ·have hx:pX t p=pW t p:=if_pos h0
  repeat' (((first | refine aR ?_ ?_ | refine ay ?_ ?_ | refine bk ?_ ?_)<;>intro h)<;>try simp only [I,B,D,RX,↓ KW,seval,hg,hx,h])
  simp_all
 ·have hx:=show pX t p=_ from if_neg h0
  have h1:(pW t p == 0)=false:=by simp; omega
  have h2:(((t.bA.getD []).length:Int) == 0)=false:=beq_false_of_ne (by omega)
  try simp only [I,B,D,RX,↓ KW,seval,h1,h2,hg,h130]
  refine af (hs (some [_,_]) (by simp)) ?_
  try simp only [I,B,D,RX,↓ KW,seval,hp]
  refine af (hO t ht) ?_
  try simp only [I,B,D,RX,↓ KW,seval]
  refine af (hs (some [_,_,_]) (by simp)) ?_
  try simp only [I,B,D,RX,↓ KW,seval,hp]
  refine af (hM _ _) ?_
  try simp only [I,B,D,RX,↓ KW,seval,h130]
  refine af (hs (some [_,_]) (by simp)) ?_
  try simp only [I,B,D,RX,↓ KW,seval,hx]
  rfl
theorem xU.ok {fE e fs fO fL fC fM fcl:Nat} (hc:aE P f=some (oW fE e fs fO fL fC fM fcl)) (hE:entry.Spec (Pure P) fE) (hs:v8.Spec (Pure P) fs) (hO:on.Spec (Pure P) fO) (hL:qK.Spec (Pure P) fL e) (hC:Cap.Spec (Pure P) fC) (hM:most.Spec (Pure P) fM) (hcl:clear.Spec (Pure P) fcl):xU.Spec (Pure P) f:=by
 intro t ht
 have hl:=Tb.len ht
 have hp:=Tb.whole ht
 have hg:=Tb.v7 ht
 have hb:=ht.bA
 have h119:=Tb.tail_at ht 3 (by omega)
 refine ak hm hc (by show 1≤73; decide) (aj (keep:=[]) (i:=0) ?_)
 try simp only [I,B,D,RX,↓ KW,seval,oW,Z.H,hp,hl,hg]
 by_cases h0:(t.bA.getD []).length=0
 ·have hx:Ir t=0:=if_pos h0
  repeat' (((first | refine aR ?_ ?_ | refine ay ?_ ?_ | refine bk ?_ ?_)<;>intro h)<;>try simp only [I,B,D,RX,↓ KW,seval,hg,hx,h])
  simp_all
 ·have hx:=show Ir t=_ from if_neg h0
  have h2:(((t.bA.getD []).length:Int) == 0)=false:=beq_false_of_ne (by omega)
  try simp only [I,B,D,RX,↓ KW,seval,h2]
  refine aF (fun k:Nat=>(⟨[(5,.dat (I k) none),(1,.ptr 4 0),(4,.dat (.bl) none),(3,bB aC (jm t k) 0)],[(4,⟨t.cells,[]⟩)],bG (jm t k) 0 e,400⟩:S)) (fun k=>(t.bA.getD []).length - k) (fun k=>k≤(t.bA.getD []).length) ?_ 0 (by omega) ?_
  ·intro k hk A back
   have hw:=aD (k:=k) (by omega)
   have hn:=Fg t k
   have hlen:(jm t k).length=k:=by simp [jm]
   by_cases hl:jm t k=[]
   all_goals
    try simp only [I,B,D,RX,↓ KW,seval,bB,bG,hl,hg]
    refine ay (fun h=>?_) (fun h=>?_)<;>try simp only [I,B,D,RX,↓ KW,seval,hp,h]
   ·have:k < (t.bA.getD []).length:=by have:=of_decide_eq_true h; omega
    have hr:=AK (t:=t) (k:=k) (by omega) (by omega)
    rw [Int.toNat_natCast] at hr
    refine af (hE t _ ht) ?_
    try simp only [I,B,D,RX,↓ KW,seval,hg]
    refine ⟨by omega,?_⟩
    try simp only [I,B,D,RX,↓ KW,seval,hr,Rl.len,Rl.cells]
    refine af (hs (some [_,_]) (by simp)) ?_
    try simp only [I,B,D,RX,↓ KW,seval]
    refine back (k + 1) _ (by omega) (by omega) (ai (by decide) ?_ ?_ ?_ ?_)<;>simp [LX,I,B,D,hn,hw,hl]
   ·exfalso
    have:=of_decide_eq_false h
    rw [hl] at hlen; simp at hlen; omega
   ·have:k < (t.bA.getD []).length:=by have:=of_decide_eq_true h; omega
    have hr:=AK (t:=t) (k:=k) (by omega) (by omega)
    rw [Int.toNat_natCast] at hr
    refine af (hE t _ ht) ?_
    try simp only [I,B,D,RX,↓ KW,seval,hg]
    refine ⟨by omega,?_⟩
    try simp only [I,B,D,RX,↓ KW,seval,hr,Rl.len,Rl.cells]
    refine af (hs (some [_,_]) (by simp)) ?_
    try simp only [I,B,D,RX,↓ KW,seval]
    refine ⟨by omega,?_⟩
    refine back (k + 1) _ (by omega) (by omega) (ai (by decide) ?_ ?_ ?_ ?_)<;>simp [LX,I,B,D,hn,hw,hl]
   ·have:k=(t.bA.getD []).length:=by have:=of_decide_eq_false h; omega
    subst this
    try simp only [I,B,D,RX,↓ KW,seval,hp]
    refine af (hO t ht) ?_
    try simp only [I,B,D,RX,↓ KW,seval]
    refine af (hL _ none (.inl rfl)) ?_
    try simp only [I,B,D,RX,↓ KW,seval]
    have hlen:=CR (vF t)
    have hrg:=@yZ (vF t)
    have hmk:=bU (ja (vF t))
    generalize ja (vF t)=L at *
    have hmst:f7 (jm t (t.bA.getD []).length)=f7 (jm t (t.bA.getD []).length):=rfl
    refine aF (fun k:Nat=>(⟨[(37,.dat (I k) none),(36,.dat (I L.length) none),(35,.dat (aG aC (bX L)) none),(1,.ptr 4 0),(3,.dat (.sl ((jm t (t.bA.getD []).length).map aC)) none),(4,bB aC (nC t (L.take k)) 0)],[(4,⟨t.cells,[]⟩)],bG (nC t (L.take k)) 0 e,400⟩:S)) (fun k=>L.length - k) (fun k=>k≤L.length) ?_ 0 (by omega) ?_
    ·intro k hk A back
     have hw:=aD (k:=k) (by omega)
     have hln:(nC t (L.take k)).length≤16:=by rw [Hi]; have:=List.length_take_le k L; omega
     by_cases hl:nC t (L.take k)=[]
     all_goals
      try simp only [I,B,D,RX,↓ KW,seval,bB,bG,hl]
      refine ay (fun h=>?_) (fun h=>?_)<;>try simp only [I,B,D,RX,↓ KW,seval,hmk,h]
     ·have hlt:k < L.length:=by have:=of_decide_eq_true h; omega
      obtain ⟨x,hx2⟩:∃ x,L[k]? = some x:=⟨_,List.getElem?_eq_getElem hlt⟩
      have hx8:=hrg (List.mem_of_getElem? hx2)
      have hph:=Tb.DN ht hx8.1 hx8.2
      have hn:=y6 (t:=t) hx2
      refine ⟨by omega,?_⟩
      try simp only [I,B,D,RX,↓ KW,seval,hx2,aC]
      refine ⟨by omega,?_⟩
      try simp only [I,B,D,RX,↓ KW,seval,hph]
      refine af (hC _) ?_
      try simp only [I,B,D,RX,↓ KW,seval,hph]
      refine ⟨by omega,?_⟩
      try simp only [I,B,D,RX,↓ KW,seval,hph]
      refine ⟨by omega,?_⟩
      try simp only [I,B,D,RX,↓ KW,seval,hph]
      refine af (hs (some [_,_]) (by simp)) ?_
      try simp only [I,B,D,RX,↓ KW,seval]
      refine back (k + 1) _ (by omega) (by omega) (ai (by decide) ?_ ?_ ?_ ?_)<;>simp [LX,I,B,D,hn,hw,hl]
     ·have:k=L.length:=by have:=of_decide_eq_false h; omega
      subst this
      rw [List.take_length] at hl hln
      try simp only [I,B,D,RX,↓ KW,seval]
      refine af (hM (some _) (by simp [jm]; omega)) ?_
      try simp only [I,B,D,RX,↓ KW,seval]
      refine af (hM none (by simp)) ?_
      try simp only [I,B,D,RX,↓ KW,seval,hp]
      refine af (hcl t ht) ?_
      try simp only [I,B,D,RX,↓ KW,seval,h119]
      refine af (hs (some [_,_,_,_,_]) (by simp)) ?_
      try simp only [I,B,D,RX,↓ KW,seval,hx,hl]
      rfl
     ·have hlt:k < L.length:=by have:=of_decide_eq_true h; omega
      obtain ⟨x,hx2⟩:∃ x,L[k]? = some x:=⟨_,List.getElem?_eq_getElem hlt⟩
      have hx8:=hrg (List.mem_of_getElem? hx2)
      have hph:=Tb.DN ht hx8.1 hx8.2
      have hn:=y6 (t:=t) hx2
      refine ⟨by omega,?_⟩
      try simp only [I,B,D,RX,↓ KW,seval,hx2,aC]
      refine ⟨by omega,?_⟩
      try simp only [I,B,D,RX,↓ KW,seval,hph]
      refine af (hC _) ?_
      try simp only [I,B,D,RX,↓ KW,seval,hph]
      refine ⟨by omega,?_⟩
      try simp only [I,B,D,RX,↓ KW,seval,hph]
      refine ⟨by omega,?_⟩
      try simp only [I,B,D,RX,↓ KW,seval,hph]
      refine af (hs (some [_,_]) (by simp)) ?_
      try simp only [I,B,D,RX,↓ KW,seval]
      refine ⟨by omega,?_⟩
      refine back (k + 1) _ (by omega) (by omega) (ai (by decide) ?_ ?_ ?_ ?_)<;>simp [LX,I,B,D,hn,hw,hl]
     ·have:k=L.length:=by have:=of_decide_eq_false h; omega
      subst this
      rw [List.take_length] at *
      try simp only [I,B,D,RX,↓ KW,seval]
      refine af (hM (some _) (by simp [jm]; omega)) ?_
      try simp only [I,B,D,RX,↓ KW,seval]
      refine af (hM (some _) (by simp; omega)) ?_
      try simp only [I,B,D,RX,↓ KW,seval,hp]
      refine af (hcl t ht) ?_
      try simp only [I,B,D,RX,↓ KW,seval,h119]
      refine af (hs (some [_,_,_,_,_]) (by simp)) ?_
      try simp only [I,B,D,RX,↓ KW,seval,hx,hl]
      rfl
    ·refine ai (by decide) ?_ ?_ ?_ ?_<;>simp [LX,I,B,D,hmk,nC]
  ·refine ai (by decide) ?_ ?_ ?_ ?_<;>simp [LX,I,B,D,jm]
end
end Go.Eng
namespace Go.Eng
open Go
def mF (t:Tb) (p q:Int):Int:=if cK t p q then gR (P4 [p]) q else P4 [p]
def with.Spec (C:aZ) (f:Nat):Prop:=∀ (t:Tb) (p q:Int),t.Ok→C.c f [.agg t.cells,I p,I q] (I (mF t p q)) none
theorem Sk (k:FloatKind) (x y:Nat):dI .mul (.float k x) (.float k y)=GJ k (k.format.mul x y):=by simp [dI,zV]
theorem LO (k:FloatKind) (x y:Nat):dI .quo (.float k x) (.float k y)=GJ k (k.format.div x y):=by simp [dI,zV]
theorem Sl (k:FloatKind) (r:Nat):GJ k (some r)=some (.float k r):=by cases k<;>rfl
theorem P5 (k:FloatKind) (k':IntKind) (n:Int):zW k (.int k' n)=some (.float k (k.nearest n)):=rfl
theorem aK (l:Option (List Int)) (i:Int) {n:Int} (h:0 < n) (hn:n≤4294967296):0≤bR l i n∧bR l i n < n:=by
 simp only [bR,place]
 have h1:=Int.tmod_lt_of_pos (Si l i) h
 have h2:=Int.lt_tmod_of_pos (Si l i) h
 split
 ·rw [bK,aV (by omega) (by omega)]; omega
 ·omega
def we (n:Int):Nat:=(FloatKind.f64.format.div (FloatKind.f64.nearest n) 4621819117588971520).getD 0
theorem AL:∀ n:Nat,n < 6→FloatKind.f64.format.div (FloatKind.f64.nearest (n:Int)) 4621819117588971520=some (we n):=by decide +kernel
def uG (k:Int):Nat:=[4617315517961601024,4621819117588971520,4607182418800017408,4602678819172646912].getD k.toNat 0
def AM (k:Int):Nat:=[4602678819172646912,4607182418800017408,4598175219545276416].getD k.toNat 0
def sK (j k:Int):Nat:=(FloatKind.f64.format.mul (uG j) (AM k)).getD 0
theorem Fh:∀ j:Nat,j < 4→∀ k:Nat,k < 3→FloatKind.f64.format.mul (uG j) (AM k)=some (sK j k):=by decide +kernel
def gZ (l:Option (List Int)) (i n:Int):vZ where
 phase:=bR l i n
 on:=uG (bR l (bK (i + 1)) 4)
 off:=sK (bR l (bK (i + 1)) 4) (bR l (bK (i + 2)) 3)
 delay:=we (bR l (bK (i + 3)) 4)
 extend:=we (bR l (bK (i + 4)) 6)
 maxOn:=if bR l (bK (i + 5)) 3 == 1 then bK (20 + bR l (bK (i + 6)) 60) else 0
 sD:=if bR l (bK (i + 5)) 9 == 2 then bK (60 + bR l (bK (i + 7)) 300) else 0
def sL.Spec (C:aZ) (f:Nat):Prop:=∀ (l:Option (List Int)) (i n:Int),0 < n→C.c f [aG aC l,I i,I n] (.agg (gZ l i n).cells) none
section
variable {P:Program} (hm:P.follows .mixedOrders=true) {f:Nat}
include hm
theorem with.ok {e fO fB fW:Nat} (hc:aE P f=some (oU e fO fB fW)) (hO:AH.Spec (Pure P) fO) (hB:beside.Spec (Pure P) fB) (hW:tW.Spec (Pure P) fW):with.Spec (Pure P) f:=by
 intro t p q ht
 have hl:=Tb.len ht
 have hp:=Tb.whole ht
 refine ak hm hc (by show 3≤19; decide) (aj (keep:=[]) (i:=0) ?_)
 try simp only [I,B,D,RX,↓ KW,seval,oU,Z.H,hp,hl]
 refine af (hO (some [_]) (by simp)) ?_
 try simp only [I,B,D,RX,↓ KW,seval,hp]
 refine af (hB t _ _ ht) ?_
 try simp only [I,B,D,RX,↓ KW,seval]
 repeat' (first | (refine af (hW _ _) ?_; try simp only [I,B,D,RX,↓ KW,seval]) | (((first | refine aR ?_ ?_ | refine ay ?_ ?_ | refine bk ?_ ?_)<;>intro h)<;>try simp only [I,B,D,RX,↓ KW,seval,h]))
 all_goals simp_all [mF]
theorem sL.ok {fF:Nat} (hc:aE P f=some (jL fF)) (hF:from.Spec (Pure P) fF):sL.Spec (Pure P) f:=by
 intro l i n hn
 refine ak hm hc (by show 3≤66; decide) (aj (keep:=[]) (i:=0) ?_)
 try simp only [I,B,D,RX,↓ KW,seval,jL,Z.H]
 refine af (hF _ _ _ hn) ?_
 try simp only [I,B,D,RX,↓ KW,seval]
 refine af (hF _ _ _ (by decide)) ?_
 try simp only [I,B,D,RX,↓ KW,seval]
 have h1:=aK l (bK (i + 1)) (n:=4) (by decide) (by decide)
 have h2:=aK l (bK (i + 2)) (n:=3) (by decide) (by decide)
 have h3:=aK l (bK (i + 3)) (n:=4) (by decide) (by decide)
 have h4:=aK l (bK (i + 4)) (n:=6) (by decide) (by decide)
 have e1:[AV.float FloatKind.f64 4617315517961601024,AV.float FloatKind.f64 4621819117588971520,AV.float FloatKind.f64 4607182418800017408,AV.float FloatKind.f64 4602678819172646912][(bR l (bK (i + 1)) 4).toNat]? = some (.float .f64 (uG (bR l (bK (i + 1)) 4))):=by
  generalize bR l (bK (i + 1)) 4=j at *
  have:j=0∨j=1∨j=2∨j=3:=by omega
  rcases this with rfl|rfl|rfl|rfl<;>rfl
 have e2:[AV.float FloatKind.f64 4602678819172646912,AV.float FloatKind.f64 4607182418800017408,AV.float FloatKind.f64 4598175219545276416][(bR l (bK (i + 2)) 3).toNat]? = some (.float .f64 (AM (bR l (bK (i + 2)) 3))):=by
  generalize bR l (bK (i + 2)) 3=j at *
  have:j=0∨j=1∨j=2:=by omega
  rcases this with rfl|rfl|rfl<;>rfl
 have e3:=Fh (bR l (bK (i + 1)) 4).toNat (by omega) (bR l (bK (i + 2)) 3).toNat (by omega)
 have e4:=AL (bR l (bK (i + 3)) 4).toNat (by omega)
 have e5:=AL (bR l (bK (i + 4)) 6).toNat (by omega)
 simp only [Int.toNat_of_nonneg h1.1,Int.toNat_of_nonneg h2.1] at e3
 simp only [Int.toNat_of_nonneg h3.1] at e4
 simp only [Int.toNat_of_nonneg h4.1] at e5
 simp only [bK] at e1 e2 e3 e4 e5 h1 h2 h3 h4
 refine ⟨by omega,?_⟩
 try simp only [I,B,D,RX,↓ KW,seval,e1]
 refine af (hF l _ 3 (by decide)) ?_
 try simp only [I,B,D,RX,↓ KW,seval]
 refine ⟨by omega,?_⟩
 try simp only [I,B,D,RX,↓ KW,seval,e2,Sl,Sk,e3]
 refine af (hF _ _ _ (by decide)) ?_
 try simp only [I,B,D,RX,↓ KW,seval,P5,Sl,LO,e4]
 refine af (hF _ _ _ (by decide)) ?_
 try simp only [I,B,D,RX,↓ KW,seval,P5,Sl,LO,e5]
 repeat' (first | (refine af (hF _ _ _ (by decide)) ?_; try simp only [I,B,D,RX,↓ KW,seval]) | (((first | refine aR ?_ ?_ | refine ay ?_ ?_ | refine bk ?_ ?_)<;>intro h)<;>try simp only [I,B,D,RX,↓ KW,seval,h]))
 all_goals simp_all [gZ,vZ.cells,bK]
def oZ (t:Tb) (l:Option (List Int)) (i n:Int):Rl :=
  let p:=bR l (bK (i + 4)) (bK (n + 1))
  let gX:=mF t (bR l i n) (bR l (bK (i + 1)) n)
  let stay:=bK (1 + bR l (bK (i + 11)) 15)
  let delay:=bR l (bK (i + 8)) 4
  { bars:=cJ .i64 (cn .i64 (bR l (bK (i + 7)) 256) (bK (bK (1 * 2 ^ min (IntKind.u64.wrap n).toNat 64) - 1))) gX
    clear:=if p < n then mF t p (bR l (bK (i + 5)) n) else 0
    gX:=gX
    exit:=mF t (bR l (bK (i + 2)) n) (bR l (bK (i + 3)) n)
    delay:=delay
    green:=bK (1 + bR l (bK (i + 9)) 6)
    dR:=bR l (bK (i + 10)) 6
    hold:=if p < n then bK (1 + bR l (bK (i + 6)) 10) else 0
    stay:=stay
    most:=if bR l (bK (i + 12)) 3 == 1 then bK (stay + bR l (bK (i + 13)) 30) else 0
    limit:=bK (bK (delay + 1) + [10000,400,20].getD (bR l (bK (i + 14)) 3).toNat 0) }
def LP.Spec (C:aZ) (f:Nat):Prop:=∀ (t:Tb) (l:Option (List Int)) (i n:Int),t.Ok→0 < n→n≤8→C.c f [.agg t.cells,aG aC l,I i,I n] (.agg (oZ t l i n).cells) none
theorem LP.ok {fF fW:Nat} (hc:aE P f=some (oR fF fW)) (hF:from.Spec (Pure P) fF) (hW:with.Spec (Pure P) fW):LP.Spec (Pure P) f:=by
 intro t l i n ht hn hn8
 have hl:=Tb.len ht
 have hp:=Tb.whole ht
 have hn1:IntKind.i64.wrap (n + 1)=n + 1:=aV (by omega) (by omega)
 refine ak hm hc (by show 4≤119; decide) (aj (keep:=[]) (i:=0) ?_)
 try simp only [I,B,D,RX,↓ KW,seval,oR,Z.H,hp,hl,bL]
 refine af (hF _ _ _ hn) ?_
 try simp only [I,B,D,RX,↓ KW,seval,hp]
 refine af (hF _ _ _ hn) ?_
 try simp only [I,B,D,RX,↓ KW,seval,hp]
 refine af (hW t _ _ ht) ?_
 try simp only [I,B,D,RX,↓ KW,seval,hp]
 refine af (hF _ _ _ hn) ?_
 try simp only [I,B,D,RX,↓ KW,seval,hp]
 refine af (hF _ _ _ hn) ?_
 try simp only [I,B,D,RX,↓ KW,seval,hp]
 refine af (hW t _ _ ht) ?_
 try simp only [I,B,D,RX,↓ KW,seval,hp]
 refine af (hF _ _ _ (by omega)) ?_
 try simp only [I,B,D,RX,↓ KW,seval,hp]
 have h14:=aK l (bK (i + 14)) (n:=3) (by decide) (by decide)
 have e14:[AV.int .i64 10000,AV.int .i64 400,AV.int .i64 20][(bR l (bK (i + 14)) 3).toNat]? = some (.int .i64 ([10000,400,20].getD (bR l (bK (i + 14)) 3).toNat 0)):=by
  generalize bR l (bK (i + 14)) 3=j at *
  have:j=0∨j=1∨j=2:=by omega
  rcases this with rfl|rfl|rfl<;>rfl
 have hu:0≤IntKind.u64.wrap n:=by rw [IntKind.wrap]; simp [IntKind.signed]; omega
 simp only [bK] at e14 h14
 refine ay (fun h=>?_) (fun h=>?_)<;>try simp only [I,B,D,RX,↓ KW,seval,hp,h]
 ·repeat' (first | ((first | refine af (hF _ _ _ hn) ?_ | refine af (hF _ _ _ (by decide)) ?_ | refine af (hW t _ _ ht) ?_); try simp only [I,B,D,RX,↓ KW,seval,hp]) | (((first | refine aR ?_ ?_ | refine ay ?_ ?_ | refine bk ?_ ?_)<;>intro h)<;>try simp only [I,B,D,RX,↓ KW,seval,hp,h]))
  refine ⟨hu,?_⟩
  repeat' (first | ((first | refine af (hF _ _ _ hn) ?_ | refine af (hF _ _ _ (by decide)) ?_ | refine af (hW t _ _ ht) ?_); try simp only [I,B,D,RX,↓ KW,seval,hp]) | (((first | refine aR ?_ ?_ | refine ay ?_ ?_ | refine bk ?_ ?_)<;>intro h)<;>try simp only [I,B,D,RX,↓ KW,seval,hp,h]))
  all_goals refine ⟨by omega,?_⟩
  all_goals try simp only [I,B,D,RX,↓ KW,seval,e14,hp]
  all_goals simp_all [oZ,Rl.cells,bK,IntKind.bits]
 ·repeat' (first | ((first | refine af (hF _ _ _ hn) ?_ | refine af (hF _ _ _ (by decide)) ?_ | refine af (hW t _ _ ht) ?_); try simp only [I,B,D,RX,↓ KW,seval,hp]) | (((first | refine aR ?_ ?_ | refine ay ?_ ?_ | refine bk ?_ ?_)<;>intro h)<;>try simp only [I,B,D,RX,↓ KW,seval,hp,h]))
  refine ⟨hu,?_⟩
  repeat' (first | ((first | refine af (hF _ _ _ hn) ?_ | refine af (hF _ _ _ (by decide)) ?_ | refine af (hW t _ _ ht) ?_); try simp only [I,B,D,RX,↓ KW,seval,hp]) | (((first | refine aR ?_ ?_ | refine ay ?_ ?_ | refine bk ?_ ?_)<;>intro h)<;>try simp only [I,B,D,RX,↓ KW,seval,hp,h]))
  all_goals refine ⟨by omega,?_⟩
  all_goals try simp only [I,B,D,RX,↓ KW,seval,e14,hp]
  all_goals simp_all [oZ,Rl.cells,bK,IntKind.bits]
  all_goals exact ⟨fun _=>by omega,fun _=>by omega⟩
end
end Go.Eng
