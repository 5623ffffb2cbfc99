/- The engine and the library,part 8 of 16: what the proofs of this seat need of them. -/
import Derived.Test.YtdfplndcbbofjaaGreatPk7
set_option linter.unnecessarySimpa false
set_option linter.unusedSimpArgs false
set_option linter.unusedVariables false
set_option linter.defProp false
set_option maxRecDepth 10000
set_option maxHeartbeats 4000000
namespace Go.Eng
open Go
theorem iO {cs mid:List AV} {off z:Nat} (h:aD cs off (some z)=some (.agg mid)) {j:Nat} (hj:j < z):cs[off + j]? = mid[j]?:=by
 simp only [aD] at h
 split at h
 ·simp only [Option.some.injEq,AV.agg.injEq] at h
  rw [← h,List.getElem?_take_of_lt hj,List.getElem?_drop]
 ·cases h
section
variable {t:Tb} (h:t.Ok)
include h
theorem Tb.lR:t.cells[104]? = some (aE Gr.cells t.groups):=by
 simp [Tb.cells,List.getElem?_append,aK Ph.len,h.phases]
theorem Tb.uO:t.cells[114]? = some (aE Rl.cells t.bz):=by
 simp [Tb.cells,List.getElem?_append,aK Ph.len,h.phases,h.conflict,h.cV,List.getElem?_cons]
theorem Tb.Dx:t.cells[115]? = some (aE Bs.cells t.ki):=by
 simp [Tb.cells,List.getElem?_append,aK Ph.len,h.phases,h.conflict,h.cV,List.getElem?_cons]
theorem Tb.tail_at (j:Nat) (hj:j < 5):t.cells[116 + j]? = [I t.extend,I t.gE,I t.start,I t.revert,I t.least][j]?:=by
 have:j=0∨j=1∨j=2∨j=3∨j=4:=by omega
 rcases this with rfl|rfl|rfl|rfl|rfl <;>
 simp [Tb.cells,List.getElem?_append,aK Ph.len,h.phases,h.conflict,h.cV,List.getElem?_cons]
theorem Tb.JM:t.cells[130]? = some (I t.share):=by
 simp [Tb.cells,List.getElem?_append,aK Ph.len,h.phases,h.conflict,h.cV,List.getElem?_cons]
omit h in
theorem Tb.SF {i:Nat} {p:Ph} (hp:t.phases[i]? = some p) (j:Nat) (hj:j < 13):t.cells[i * 13 + j]? = p.cells[j]?:=iO (Tb.jM hp) hj
omit h in
theorem Tb.B6 {i:Nat} {p:Ph} (hp:t.phases[i]? = some p):t.cells[i * 13]? = some (B p.on)∧t.cells[i * 13 + 1]? = some (I p.min)∧t.cells[i * 13 + 2]? = some (I p.KZ)∧t.cells[i * 13 + 3]? = some (I p.max)∧t.cells[i * 13 + 4]? = some (I p.top)∧t.cells[i * 13 + 5]? = some (I p.step)∧t.cells[i * 13 + 6]? = some (I p.dP)∧t.cells[i * 13 + 7]? = some (I p.red)∧t.cells[i * 13 + 8]? = some (I p.walk)∧t.cells[i * 13 + 9]? = some (I p.dQ)∧t.cells[i * 13 + 10]? = some (I p.kH)∧t.cells[i * 13 + 11]? = some (B p.lock)∧t.cells[i * 13 + 12]? = some (B p.rest) :=
 have hj:=fun j hj=>Tb.SF hp j hj
 ⟨hj 0 (by omega),hj 1 (by omega),hj 2 (by omega),hj 3 (by omega),hj 4 (by omega),hj 5 (by omega),hj 6 (by omega),hj 7 (by omega),hj 8 (by omega),hj 9 (by omega),hj 10 (by omega),hj 11 (by omega),hj 12 (by omega)⟩
theorem Tb.nj {i:Nat} {c:Int} (hc:t.conflict[i]? = some c):t.cells[105 + i]? = some (I c):=by
 have hi:i < 8:=by have:=(List.getElem?_eq_some_iff.1 hc).1; rw [h.conflict] at this; exact this
 have e:(t.phases.flatMap Ph.cells).length=104:=by rw [aK Ph.len,h.phases]
 unfold Tb.cells
 rw [List.getElem?_append_right (by omega),e,show 105 + i - 104=i + 1 by omega,List.getElem?_cons_succ,List.getElem?_append_left (by simp [h.conflict,hi]),List.getElem?_map,hc]; rfl
end
structure Sp where
 group:Int
 ring:Int
 pos:Int
 p:Int
 deriving Inhabited,DecidableEq
def Sp.cells (s:Sp):List AV:=[I s.group,I s.ring,I s.pos,I s.p]
theorem Sp.len (s:Sp):s.cells.length=4:=rfl
theorem Gr.len (s:Gr):s.cells.length=2:=rfl
def Gr.row (g:Gr) (k:Nat):Option (List Int):=if k=0 then g.a else g.b
def br (g k:Nat) (row:List Int):List Sp:=row.zipIdx.filterMap fun (p,i)=>if 0≤p∧p < 8 then some ⟨g,k,i,p⟩ else none
def cm (gr:Gr) (g k:Nat):List Sp:=(List.range k).flatMap fun k=>br g k ((gr.row k).getD [])
def cg (l:List Gr) (n:Nat):List Sp:=(l.take n).zipIdx.flatMap fun (gr,g)=>cm gr g 2
def bt (t:Tb):List Sp:=cg (t.groups.getD []) (t.groups.getD []).length
theorem oF {α:Type} {row:α→List AV} {l:List α} {m:List (Nat × Nat)} {nx t t':Nat} (h:CS m t'=t) (ht:t' < nx):AE m nx (bA row l t) (bA row l t'):=by
 unfold bA; split
 ·exact rfl
 ·exact ⟨rfl,h.symm,ht⟩
theorem sA {α:Type} {l:List α} {m:List (Nat × Nat)} {nx t t' e:Nat} (h:CS m t'=t) (ht:t' < nx):iR m nx (bF l t e) (bF l t' e):=by
 unfold bF; split
 ·trivial
 ·simp [iR,h,ht,uL]
theorem ko {α:Type} {l:List α} {m:List (Nat × Nat)} {t e:Nat}:b9 m (bF l t e):=by
 unfold bF; split<;>simp [b9]
theorem iH {g k:Nat} {row:List Int} {i:Nat} {x:Int} (h:row[i]? = some x):(0≤x∧x < 8→br g k (row.take (i + 1))=br g k (row.take i)++[⟨g,k,i,x⟩])∧(¬ (0≤x∧x < 8)→br g k (row.take (i + 1))=br g k (row.take i)):=by
 have hl:(row.take i).length=i:=kj h
 unfold br
 rw [gW h,List.zipIdx_append,List.filterMap_append,hl]
 constructor<;>intro hx<;>simp [hx]
theorem pG (g k:Nat) (row:List Int):(br g k row).length≤row.length:=by
 have:=List.length_filterMap_le (fun (p:Int × Nat)=>if 0≤p.1∧p.1 < 8 then some (⟨g,k,p.2,p.1⟩:Sp) else none) row.zipIdx
 simpa [br] using this
theorem dN (gr:Gr) (g k:Nat):cm gr g (k + 1)=cm gr g k++br g k ((gr.row k).getD []):=by
 simp [cm,List.range_succ]
theorem gX {l:List Gr} {g:Nat} {gr:Gr} (h:l[g]? = some gr):cg l (g + 1)=cg l g++cm gr g 2:=by
 have hl:(l.take g).length=g:=kj h
 unfold cg
 rw [gW h,List.zipIdx_append,List.flatMap_append,hl]
 simp
theorem xq {gr:Gr} (hr:(gr.a.getD []).length≤1048576∧(gr.b.getD []).length≤1048576) (g k:Nat) (hk:k≤2):(cm gr g k).length≤k * 1048576:=by
 have h0:=pG g 0 (gr.a.getD [])
 have h1:=pG g 1 (gr.b.getD [])
 have:k=0∨k=1∨k=2:=by omega
 rcases this with rfl|rfl|rfl
 ·simp [cm]
 ·rw [dN,List.length_append]
  have:(cm gr g 0).length=0:=rfl
  have h0':(br g 0 ((gr.row 0).getD [])).length≤(gr.a.getD []).length:=h0
  omega
 ·rw [dN,dN,List.length_append,List.length_append]
  have:(cm gr g 0).length=0:=rfl
  have h0':(br g 0 ((gr.row 0).getD [])).length≤(gr.a.getD []).length:=h0
  have h1':(br g 1 ((gr.row 1).getD [])).length≤(gr.b.getD []).length:=h1
  omega
theorem qS {t:Tb} (ht:t.Ok):∀ n,n≤(t.groups.getD []).length→(cg (t.groups.getD []) n).length≤n * 2097152
 | 0,_=>by simp [cg]
 | n + 1,h=>by
  obtain ⟨gr,hgr⟩:∃ x,(t.groups.getD [])[n]? = some x:=⟨_,List.getElem?_eq_getElem (by omega)⟩
  have:=qS ht n (by omega)
  have h2:=xq (ht.rows gr (List.mem_of_getElem? hgr)) n 2 (by omega)
  rw [gX hgr,List.length_append]
  omega
theorem Bb {t:Tb} (ht:t.Ok):(bt t).length≤2199023255552:=by
 have:=qS ht _ (Nat.le_refl _)
 have:=ht.groups
 simp only [bt]
 omega
theorem Fo {t:Tb} (ht:t.Ok) {g k i:Nat} {gr:Gr} (hg:(t.groups.getD [])[g]? = some gr) (hk:k < 2) (hi:i < ((gr.row k).getD []).length):((cg (t.groups.getD []) g++cm gr g k++br g k (((gr.row k).getD []).take i)).length + 1) * 32≤140737488355328:=by
 have hlt:g < (t.groups.getD []).length:=(List.getElem?_eq_some_iff.1 hg).1
 have h1:=qS ht g (by omega)
 have hr:=ht.rows gr (List.mem_of_getElem? hg)
 have h2:=xq hr g k (by omega)
 have h3:=pG g k (((gr.row k).getD []).take i)
 have h4:(((gr.row k).getD []).take i).length≤1048576:=by
  have:k=0∨k=1:=by omega
  rcases this with rfl|rfl
  ·exact Nat.le_trans (List.length_take_le' _ _) hr.1
  ·exact Nat.le_trans (List.length_take_le' _ _) hr.2
 have:=ht.groups
 rw [List.length_append,List.length_append]
 omega
def bt.Spec (C:bk) (f e:Nat):Prop:=∀ (t:Tb) (fr:Option Nat),t.Ok→(fr=none∨fr=some e∧bt t≠[])→C.c f [.agg t.cells] (aE Sp.cells (bW (bt t))) fr
section
variable {P:Program} (hm:P.follows .mixedOrders=true) {f:Nat}
include hm
theorem bt.ok {e:Nat} (hc:aL P f=some (mq e)):bt.Spec (Pure P) f e:=by
  intro t fr ht hfr
  have hg:=Tb.lR ht
  refine an hm hc (by show 1≤56; decide) (aj (keep:=[]) (i:=0) ?_)
  try simp only [I,B,D,RX,↓ KW,seval,mq,Z.H]
  refine aF (fun g:Nat=>(⟨[(4,.dat (I g) none),(1,.ptr 4 0),(3,bA Sp.cells (cg (t.groups.getD []) g) 0)],[(4,⟨t.cells,[]⟩)],bF (cg (t.groups.getD []) g) 0 e,400⟩:S)) (fun g=>(t.groups.getD []).length - g) (fun g=>g≤(t.groups.getD []).length) ?_ 0 (by omega) ?_
  · intro g hg1 A back
    have hb:=ht.groups
    have hw:=aB (k:=g) (by omega)
    try simp only [I,B,D,RX,↓ KW,seval,vZ,hg]
    refine ax (fun h=>?_) (fun h=>?_)<;>try simp only [I,B,D,RX,↓ KW,seval,vZ,hg,h]
    · have hlt:g < (t.groups.getD []).length:=by have:=of_decide_eq_true h; omega
      obtain ⟨gr,hgr⟩:∃ x,(t.groups.getD [])[g]? = some x:=⟨_,List.getElem?_eq_getElem hlt⟩
      have hrs:=ht.rows gr (List.mem_of_getElem? hgr)
      refine aF (fun k:Nat=>(⟨[(5,.dat (I k) none),(4,.dat (I g) none),(1,.ptr 4 0),(3,bA Sp.cells (cg (t.groups.getD []) g++cm gr g k) 0)],[(4,⟨t.cells,[]⟩)],bF (cg (t.groups.getD []) g++cm gr g k) 0 e,400⟩:S)) (fun k=>2 - k) (fun k=>k≤2) ?_ 0 (by omega) ?_
      · intro k hk A1 back1
        have hw1:=aB (k:=k) (by omega)
        try simp only [I,B,D,RX,↓ KW,seval]
        refine ax (fun h1=>?_) (fun h1=>?_)<;>try simp only [I,B,D,RX,↓ KW,seval,h1]
        · have hk2:k < 2:=by have:=of_decide_eq_true h1; omega
          have hrow:(List.drop k gr.cells)[0]? = some (aE az (gr.row k)):=by
            have:k=0∨k=1:=by omega
            rcases this with rfl|rfl<;>rfl
          have hrl:((gr.row k).getD []).length≤1048576:=by
            have:k=0∨k=1:=by omega
            rcases this with rfl|rfl
            exact hrs.1
            exact hrs.2
          refine aF (fun i:Nat=>(⟨[(6,.dat (I i) none),(5,.dat (I k) none),(4,.dat (I g) none),(1,.ptr 4 0),(3,bA Sp.cells (cg (t.groups.getD []) g++cm gr g k++br g k (((gr.row k).getD []).take i)) 0)],[(4,⟨t.cells,[]⟩)],bF (cg (t.groups.getD []) g++cm gr g k++br g k (((gr.row k).getD []).take i)) 0 e,400⟩:S)) (fun i=>((gr.row k).getD []).length - i) (fun i=>i≤((gr.row k).getD []).length) ?_ 0 (by omega) ?_
          · intro i hi A2 back2
            have hw2:=aB (k:=i) (by omega)
            try simp only [I,B,D,RX,↓ KW,seval,vZ,hg,hgr,Gr.len]
            refine ⟨by omega,by omega,?_⟩
            try simp only [I,B,D,RX,↓ KW,seval,hrow]
            refine ax (fun h2=>?_) (fun h2=>?_)<;>try simp only [I,B,D,RX,↓ KW,seval,vZ,hg,hgr,Gr.len,h2]
            · have hil:i < ((gr.row k).getD []).length:=by have:=of_decide_eq_true h2; omega
              obtain ⟨x,hx⟩:∃ x,((gr.row k).getD [])[i]? = some x:=⟨_,List.getElem?_eq_getElem hil⟩
              have hnx:=iH (g:=g) (k:=k) hx
              refine ⟨by omega,by omega,?_⟩
              try simp only [I,B,D,RX,↓ KW,seval,hrow]
              refine ⟨by omega,?_⟩
              try simp only [I,B,D,RX,↓ KW,seval,hx,az,vZ]
              repeat' (((first | refine aV ?_ ?_ | refine ax ?_ ?_ | refine bq ?_ ?_)<;>intro h)<;>try simp only [I,B,D,RX,↓ KW,seval,h])
              · rename_i ha
                have hx8:0≤x∧x < 8:=⟨of_decide_eq_true ha,of_decide_eq_true h⟩
                have hnx:=hnx.1 hx8
                have hsz:=Fo ht hgr hk2 hil
                generalize cg (t.groups.getD []) g++cm gr g k=L at *
                by_cases hl:L++br g k (((gr.row k).getD []).take i)=[]
                · try simp only [I,B,D,RX,↓ KW,seval,bA,bF,hl]
                  refine back2 (i + 1) _ (by omega) (by omega) (ai (by decide) ?_ ?_ ?_ ?_)<;>simp [LX,I,B,D,hnx,hw2,Sp.cells,← List.append_assoc,hl]
                · try simp only [I,B,D,RX,↓ KW,seval,bA,bF,hl,Sp.len]
                  refine ⟨hsz,?_⟩
                  refine back2 (i + 1) _ (by omega) (by omega) (ai (by decide) ?_ ?_ ?_ ?_)<;>simp [LX,I,B,D,hnx,hw2,Sp.cells,← List.append_assoc,hl]
              · have hnx:=hnx.2 (by have:=of_decide_eq_false h; omega)
                refine back2 (i + 1) _ (by omega) (by omega) (xp [(0,0)] (by decide) ?_ ?_ ?_ ko)<;>simp [oF,sA,fc,tK,tL,tM,y8,mA,gS,kF,iR,CS,b9,Dl,uL,xl,qK,I,B,D,aM,hnx,hw2,← List.append_assoc]
              · have hnx:=hnx.2 (by have:=of_decide_eq_false h; omega)
                refine back2 (i + 1) _ (by omega) (by omega) (xp [(0,0)] (by decide) ?_ ?_ ?_ ko)<;>simp [oF,sA,fc,tK,tL,tM,y8,mA,gS,kF,iR,CS,b9,Dl,uL,xl,qK,I,B,D,aM,hnx,hw2,← List.append_assoc]
            · have:i=((gr.row k).getD []).length:=by have:=of_decide_eq_false h2; omega
              subst this
              have hk1:=dN gr g k
              rw [List.take_length,List.append_assoc,← hk1]
              refine back1 (k + 1) _ (by omega) (by omega) (xp [(0,0)] (by decide) ?_ ?_ ?_ ko)<;>simp [oF,sA,fc,tK,tL,tM,y8,mA,gS,kF,iR,CS,b9,Dl,uL,xl,qK,I,B,D,aM,hw1]
          · simp [br]
            refine xp [(0,0)] (by decide) ?_ ?_ ?_ ko<;>simp [oF,sA,ko,fc,tK,tL,tM,y8,mA,gS,kF,iR,CS,b9,Dl,uL,xl,qK,I,B,D,aM]
        · have:k=2:=by have:=of_decide_eq_false h1; omega
          subst this
          have hg1:=gX hgr
          rw [← hg1]
          refine back (g + 1) _ (by omega) (by omega) (xp [(0,0)] (by decide) ?_ ?_ ?_ ko)<;>simp [oF,sA,fc,tK,tL,tM,y8,mA,gS,kF,iR,CS,b9,Dl,uL,xl,qK,I,B,D,aM,hw]
      · simp [cm]
        refine xp [(0,0)] (by decide) ?_ ?_ ?_ ko<;>simp [oF,sA,ko,fc,tK,tL,tM,y8,mA,gS,kF,iR,CS,b9,Dl,uL,xl,qK,I,B,D,aM]
    · have:g=(t.groups.getD []).length:=by have:=of_decide_eq_false h; omega
      subst this
      have hs:bt t=cg (t.groups.getD []) (t.groups.getD []).length:=rfl
      rw [hs] at hfr ⊢
      generalize cg (t.groups.getD []) (t.groups.getD []).length=L at *
      by_cases hl:L=[]
      · rcases hfr with rfl | ⟨rfl,hne⟩
        · try simp only [I,B,D,RX,↓ KW,seval,bA,bF,bW,aE,hl]
        · exact absurd hl hne
      · rcases hfr with rfl | ⟨rfl,hne⟩
        · try simp only [I,B,D,RX,↓ KW,seval,bA,bF,bW,aE,hl]
        · try simp only [I,B,D,RX,↓ KW,seval,bA,bF,bW,aE,hl]
  · simp [cg]
    refine ai (by decide) ?_ ?_ ?_ ?_<;>simp [LX,I,B,D]
end
end Go.Eng
namespace Go.Eng
open Go
def jn (l:List Int):Int:=l.foldl B5 0
def eY (l:List Int):Int:=l.foldl (fun n x=>if x > n then x else n) 0
theorem lS {α β:Type} {f:β→α→β} {b:β} {l:List α} {i:Nat} {x:α} (h:l[i]? = some x):(l.take (i + 1)).foldl f b=f ((l.take i).foldl f b) x:=by
 rw [gW h,List.foldl_append]; rfl
def uP.Spec (C:bk) (f:Nat):Prop:=∀ l:Option (List Int),(l.getD []).length≤140737488355328→C.c f [aE az l] (I (jn (l.getD []))) none
def most.Spec (C:bk) (f:Nat):Prop:=∀ l:Option (List Int),(l.getD []).length≤140737488355328→C.c f [aE az l] (I (eY (l.getD []))) none
def ay (t:Tb) (p:Int):Sp × Bool:=match (bt t).find? (fun x=>x.p == p) with
 | some x=>(x,true)
 | none=>(⟨0,0,0,0⟩,false)
def where.Spec (C:bk) (f:Nat):Prop:=∀ (t:Tb) (p:Int),t.Ok→C.c f [.agg t.cells,I p] (.cI [.agg (ay t p).1.cells,B (ay t p).2]) none
def cz (t:Tb) (p q:Int):Bool:=(ay t p).2 && (ay t q).2 && (ay t p).1.group == (ay t q).1.group && (ay t p).1.ring != (ay t q).1.ring
def beside.Spec (C:bk) (f:Nat):Prop:=∀ (t:Tb) (p q:Int),t.Ok→C.c f [.agg t.cells,I p,I q] (B (cz t p q)) none
def aO (t:Tb) (p:Int):Ph:=t.phases.getD p.toNat default
def sV (t:Tb) (k:Nat):List Int:=((List.range k).map fun (k:Nat)=>(k:Int)).filter fun p=>(aO t p).on
def sB (t:Tb):Int:=Nu (sV t 8)
def on.Spec (C:bk) (f:Nat):Prop:=∀ (t:Tb),t.Ok→C.c f [.agg t.cells] (I (sB t)) none
theorem HS (t:Tb) (k:Nat):sV t (k + 1)=if (aO t k).on then sV t k++[(k:Int)] else sV t k:=by
 simp only [sV,List.range_succ,List.map_append,List.filter_append,List.map_cons,List.map_nil,List.filter_cons,List.filter_nil]
 split<;>simp
theorem qT {t:Tb} (h:t.Ok) {k:Nat} (hk:k < 8):t.phases[k]? = some (aO t k):=by
 have:k < t.phases.length:=by rw [h.phases]; exact hk
 simp [aO,this]
theorem Tb.B7 {t:Tb} (ht:t.Ok) {x:Int} (h0:0≤x) (h8:x < 8):t.cells[x.toNat * 13]? = some (B (aO t x).on)∧t.cells[x.toNat * 13 + 1]? = some (I (aO t x).min)∧t.cells[x.toNat * 13 + 2]? = some (I (aO t x).KZ)∧t.cells[x.toNat * 13 + 3]? = some (I (aO t x).max)∧t.cells[x.toNat * 13 + 4]? = some (I (aO t x).top)∧t.cells[x.toNat * 13 + 5]? = some (I (aO t x).step)∧t.cells[x.toNat * 13 + 6]? = some (I (aO t x).dP)∧t.cells[x.toNat * 13 + 7]? = some (I (aO t x).red)∧t.cells[x.toNat * 13 + 8]? = some (I (aO t x).walk)∧t.cells[x.toNat * 13 + 9]? = some (I (aO t x).dQ)∧t.cells[x.toNat * 13 + 10]? = some (I (aO t x).kH)∧t.cells[x.toNat * 13 + 11]? = some (B (aO t x).lock)∧t.cells[x.toNat * 13 + 12]? = some (B (aO t x).rest):=by
 have:=Tb.B6 (qT ht (k:=x.toNat) (by omega))
 rw [Int.toNat_of_nonneg h0] at this
 exact this
theorem Tb.JN {t:Tb} (ht:t.Ok) {x:Int} (h0:0≤x) (h8:x < 8):aD t.cells (x.toNat * 13) (some 13)=some (.agg (aO t x).cells):=by
 have:=Tb.jM (qT ht (k:=x.toNat) (by omega))
 rw [Int.toNat_of_nonneg h0] at this
 exact this
theorem sC {α:Type} {p:α→Bool} {l:List α} {i:Nat} {x:α} (h:l[i]? = some x) (hp:p x=true) (hn:∀ y∈l.take i,p y=false):l.find? p=some x:=by
 rw [B3 h,List.find?_append]
 have:(l.take i).find? p=none:=by rw [List.find?_eq_none]; intro y hy; simp [hn y hy]
 simp [this,hp]
section
variable {P:Program} (hm:P.follows .mixedOrders=true) {f:Nat}
include hm
theorem Sum.ok {fA:Nat} (hc:aL P f=some (o9 fA)) (hA:Add.Spec (Pure P) fA):uP.Spec (Pure P) f:=by
 intro l hlen
 refine an hm hc (by show 1≤18; decide) (aj (keep:=[]) (i:=0) ?_)
 try simp only [I,B,D,RX,↓ KW,seval,o9,Z.H]
 refine aF (fun i:Nat=>(⟨[(4,.dat (I i) none),(0,.dat (aE az l) none),(3,.dat (I (jn ((l.getD []).take i))) none)],[],[],400⟩:S)) (fun i=>(l.getD []).length - i) (fun i=>i≤(l.getD []).length) ?_ 0 (by omega) ?_
 ·intro i hi A back
  have hw:=aB (k:=i) (by omega)
  try simp only [I,B,D,RX,↓ KW,seval]
  refine ax (fun h=>?_) (fun h=>?_)<;>try simp only [I,B,D,RX,↓ KW,seval,h]
  ·have hlt:i < (l.getD []).length:=by have:=of_decide_eq_true h; omega
   obtain ⟨x,hx⟩:∃ x,(l.getD [])[i]? = some x:=⟨_,List.getElem?_eq_getElem hlt⟩
   have hn:jn ((l.getD []).take (i + 1))=B5 (jn ((l.getD []).take i)) x:=lS hx
   refine ⟨by omega,?_⟩
   try simp only [I,B,D,RX,↓ KW,seval,hx,az]
   refine af (hA _ _) ?_
   try simp only [I,B,D,RX,↓ KW,seval]
   refine back (i + 1) _ (by omega) (by omega) (ai (by decide) ?_ ?_ ?_ ?_)<;>simp [LX,I,B,D,hw,hn]
  ·have:i=(l.getD []).length:=by have:=of_decide_eq_false h; omega
   subst this
   simp
 ·refine ai (by decide) ?_ ?_ ?_ ?_<;>simp [LX,I,B,D,jn]
theorem uP.ok {fS:Nat} (hc:aL P f=some (o7 fS)) (hS:uP.Spec (Pure P) fS):uP.Spec (Pure P) f:=by
 intro l hlen
 refine an hm hc (by show 1≤5; decide) (aj (keep:=[]) (i:=0) ?_)
 try simp only [I,B,D,RX,↓ KW,seval,o7,Z.H]
 refine af (hS l hlen) ?_
 try simp only [I,B,D,RX,↓ KW,seval]
theorem most.ok (hc:aL P f=some nV):most.Spec (Pure P) f:=by
 intro l hlen
 refine an hm hc (by show 1≤18; decide) (aj (keep:=[]) (i:=0) ?_)
 try simp only [I,B,D,RX,↓ KW,seval,nV,Z.H]
 refine aF (fun i:Nat=>(⟨[(4,.dat (I i) none),(0,.dat (aE az l) none),(3,.dat (I (eY ((l.getD []).take i))) none)],[],[],400⟩:S)) (fun i=>(l.getD []).length - i) (fun i=>i≤(l.getD []).length) ?_ 0 (by omega) ?_
 ·intro i hi A back
  have hw:=aB (k:=i) (by omega)
  try simp only [I,B,D,RX,↓ KW,seval]
  refine ax (fun h=>?_) (fun h=>?_)<;>try simp only [I,B,D,RX,↓ KW,seval,h]
  ·have hlt:i < (l.getD []).length:=by have:=of_decide_eq_true h; omega
   obtain ⟨x,hx⟩:∃ x,(l.getD [])[i]? = some x:=⟨_,List.getElem?_eq_getElem hlt⟩
   have hn:eY ((l.getD []).take (i + 1))=(if x > eY ((l.getD []).take i) then x else eY ((l.getD []).take i)):=lS hx
   refine ⟨by omega,?_⟩
   try simp only [I,B,D,RX,↓ KW,seval,hx,az]
   refine back (i + 1) _ (by omega) (by omega) (ai (by decide) ?_ ?_ ?_ ?_)<;>simp [LX,I,B,D,hw,hn]
  ·have:i=(l.getD []).length:=by have:=of_decide_eq_false h; omega
   subst this
   simp
 ·refine ai (by decide) ?_ ?_ ?_ ?_<;>simp [LX,I,B,D,eY]
theorem where.ok {fS e:Nat} (hc:aL P f=some (mo fS)) (hS:bt.Spec (Pure P) fS e):where.Spec (Pure P) f:=by
 intro t p ht
 have hl:=Tb.len ht
 have hp:=Tb.whole ht
 have hsz:=Bb ht
 refine an hm hc (by show 2≤28; decide) (aj (keep:=[]) (i:=0) ?_)
 try simp only [I,B,D,RX,↓ KW,seval,mo,Z.H,hp]
 refine af (hS t none ht (.inl rfl)) ?_
 try simp only [I,B,D,RX,↓ KW,seval]
 refine aF (fun i:Nat=>(⟨[(7,.dat (I i) none),(6,.dat (aE Sp.cells (bW (bt t))) none),(1,.dat (I p) none),(4,.ptr 5 0)],[(5,⟨[I 0,I 0,I 0,I 0],[]⟩)],[],400⟩:S)) (fun i=>(bt t).length - i) (fun i=>i≤(bt t).length∧∀ x∈(bt t).take i,x.p≠p) ?_ 0 (by simp) ?_
 ·intro i ⟨hi,hnot⟩ A back
  have hw:=aB (k:=i) (by omega)
  have hmk:(bW (bt t)).getD []=bt t:=by unfold bW; split<;>simp_all
  try simp only [I,B,D,RX,↓ KW,seval,hmk]
  refine ax (fun h=>?_) (fun h=>?_)<;>try simp only [I,B,D,RX,↓ KW,seval,hmk,h]
  ·have hlt:i < (bt t).length:=by have:=of_decide_eq_true h; omega
   obtain ⟨x,hx⟩:∃ x,(bt t)[i]? = some x:=⟨_,List.getElem?_eq_getElem hlt⟩
   have htk:=gW hx
   refine ⟨by omega,?_⟩
   try simp only [I,B,D,RX,↓ KW,seval,hx,Sp.len,Sp.cells]
   refine ax (fun h2=>?_) (fun h2=>?_)<;>try simp only [I,B,D,RX,↓ KW,seval,hx,Sp.len,Sp.cells,hmk,h2]
   ·have hw2:ay t p=(x,true):=by
     have:(bt t).find? (fun x=>x.p == p)=some x:=sC hx (by simpa using h2) (fun y hy=>by simpa using hnot y hy)
     simp [ay,this]
    exact ⟨by omega,by simp [hw2]⟩
   ·refine back (i + 1) _ ⟨by omega,?_⟩ (by omega) ?_
    ·rw [htk]; simp only [List.mem_append,List.mem_singleton]; rintro y (hy | rfl); exact hnot y hy; simpa using h2
    ·refine ai (by decide) ?_ ?_ ?_ ?_<;>simp [LX,I,B,D,hw]
  ·have:i=(bt t).length:=by have:=of_decide_eq_false h; omega
   subst this
   have hw2:ay t p=(⟨0,0,0,0⟩,false):=by
    have:(bt t).find? (fun x=>x.p == p)=none:=by
     rw [List.find?_eq_none]; intro x hx; simpa using hnot x (by simpa using hx)
    simp [ay,this]
   try simp only [I,B,D,RX,↓ KW,seval,hw2,Sp.cells]
 ·refine ai (by decide) ?_ ?_ ?_ ?_<;>simp [LX,I,B,D]
theorem beside.ok {fW:Nat} (hc:aL P f=some (kI fW)) (hW:where.Spec (Pure P) fW):beside.Spec (Pure P) f:=by
 intro t p q ht
 have hl:=Tb.len ht
 have hp:=Tb.whole ht
 refine an hm hc (by show 3≤41; decide) (aj (keep:=[]) (i:=0) ?_)
 try simp only [I,B,D,RX,↓ KW,seval,kI,Z.H,hp,hl]
 repeat' (first | (refine af (hW t _ ht) ?_; try simp only [I,B,D,RX,↓ KW,seval,hp,Sp.cells]) | (((first | refine aV ?_ ?_ | refine ax ?_ ?_ | refine bq ?_ ?_)<;>intro h)<;>try simp only [I,B,D,RX,↓ KW,seval,hp,Sp.cells,h]))
 all_goals simp_all [cz]
theorem on.ok {e fO:Nat} (hc:aL P f=some (qM e fO)) (hO:y9.Spec (Pure P) fO):on.Spec (Pure P) f:=by
 intro t ht
 have hl:=Tb.len ht
 have hp:=Tb.whole ht
 refine an hm hc (by show 1≤20; decide) (aj (keep:=[]) (i:=0) ?_)
 try simp only [I,B,D,RX,↓ KW,seval,qM,Z.H,hp,hl]
 refine aF (fun k:Nat=>(⟨[(4,.dat (I k) none),(1,.ptr 4 0),(3,bA az (sV t k) 0)],[(4,⟨t.cells,[]⟩)],bF (sV t k) 0 e,400⟩:S)) (fun k=>8 - k) (fun k=>k≤8) ?_ 0 (by omega) ?_
 ·intro k hk A back
  have hw:=aB (k:=k) (by omega)
  have hn:=HS t k
  have hlen:(sV t k).length≤k:=by
   have:=List.length_filter_le (fun p=>(aO t p).on) ((List.range k).map fun (k:Nat)=>(k:Int))
   simpa [sV] using this
  by_cases hl:sV t k=[]
  ·try simp only [I,B,D,RX,↓ KW,seval,bA,bF,hl]
   refine ax (fun h=>?_) (fun h=>?_)<;>try simp only [I,B,D,RX,↓ KW,seval,h]
   ·have h8:=of_decide_eq_true h
    have hph:=Tb.B6 (qT ht (k:=k) (by omega))
    refine ⟨by omega,?_⟩
    try simp only [I,B,D,RX,↓ KW,seval,hph]
    refine ax (fun h2=>?_) (fun h2=>?_)<;>try simp only [I,B,D,RX,↓ KW,seval,h2]
    ·refine back (k + 1) _ (by omega) (by omega) (ai (by decide) ?_ ?_ ?_ ?_)<;>simp [LX,I,B,D,hn,hl,h2,hw]
    ·refine back (k + 1) _ (by omega) (by omega) (ai (by decide) ?_ ?_ ?_ ?_)<;>simp [LX,I,B,D,hn,hl,h2,hw]
   ·have:k=8:=by have:=of_decide_eq_false h; omega
    subst this
    try simp only [I,B,D,RX,↓ KW,seval]
    refine af (hO none (by simp)) ?_
    try simp only [I,B,D,RX,↓ KW,seval]
    simp [sB,hl]
  ·try simp only [I,B,D,RX,↓ KW,seval,bA,bF,hl]
   refine ax (fun h=>?_) (fun h=>?_)<;>try simp only [I,B,D,RX,↓ KW,seval,h]
   ·have h8:=of_decide_eq_true h
    have hph:=Tb.B6 (qT ht (k:=k) (by omega))
    refine ⟨by omega,?_⟩
    try simp only [I,B,D,RX,↓ KW,seval,hph]
    refine ax (fun h2=>?_) (fun h2=>?_)<;>try simp only [I,B,D,RX,↓ KW,seval,h2]
    ·refine ⟨by omega,?_⟩
     refine back (k + 1) _ (by omega) (by omega) (ai (by decide) ?_ ?_ ?_ ?_)<;>simp [LX,I,B,D,hn,hl,h2,hw]
    ·refine back (k + 1) _ (by omega) (by omega) (ai (by decide) ?_ ?_ ?_ ?_)<;>simp [LX,I,B,D,hn,hl,h2,hw]
   ·have:k=8:=by have:=of_decide_eq_false h; omega
    subst this
    try simp only [I,B,D,RX,↓ KW,seval]
    refine af (hO (some (sV t 8)) (by simp; omega)) ?_
    try simp only [I,B,D,RX,↓ KW,seval]
    simp [sB]
 ·refine ai (by decide) ?_ ?_ ?_ ?_<;>simp [LX,I,B,D,sV]
end
end Go.Eng
namespace Go.Eng
open Go
def kO (t:Tb):Int:=eY ((f8 (sB t)).map fun p=>jn [(aO t p).dP,(aO t p).red])
def clear.Spec (C:bk) (f:Nat):Prop:=∀ (t:Tb),t.Ok→C.c f [.agg t.cells] (I (kO t)) none
def jN (t:Tb) (p:Int):Int:=if kn (sB t) p then jn [eY [iG (aO t p).min,jn [(aO t p).walk,(aO t p).dQ],iG (aO t p).top],t.extend,(aO t p).dP,(aO t p).red,t.revert,8] else 0
def serve.Spec (C:bk) (f:Nat):Prop:=∀ (t:Tb) (p:Int),t.Ok→C.c f [.agg t.cells,I p] (I (jN t p)) none
def fj (t:Tb) (g:Int) (n:Nat):List Int:=8 :: (((bt t).take n).filter (fun x=>x.group == g)).map (fun x=>jN t x.p)
def nk (t:Tb) (g:Int):Int:=if g < 0∨((t.groups.getD []).length:Int)≤g then 0 else jn (fj t g (bt t).length)
def pass.Spec (C:bk) (f:Nat):Prop:=∀ (t:Tb) (g:Int),t.Ok→C.c f [.agg t.cells,I g] (I (nk t g)) none
def oG (t:Tb) (p:Int):Int:=if (ay t p).2 && kn (sB t) p then jn (nk t (ay t p).1.group :: (List.range (t.groups.getD []).length).map fun (g:Nat)=>nk t g) else 0
def free.Spec (C:bk) (f:Nat):Prop:=∀ (t:Tb) (p:Int),t.Ok→C.c f [.agg t.cells,I p] (I (oG t p)) none
def tO (t:Tb) (k:Int):Rl:=(t.bz.getD []).getD k.toNat default
def pH (t:Tb) (k:Int):Int:=if k < 0∨((t.bz.getD []).length:Int)≤k then 0 else
 jn [(tO t k).delay,(tO t k).hold,(tO t k).green,(tO t k).green,(tO t k).dc,(tO t k).dc,(tO t k).dc,kO t,kO t,kO t,kO t,kO t,t.revert,t.revert,t.revert,60]
def entry.Spec (C:bk) (f:Nat):Prop:=∀ (t:Tb) (k:Int),t.Ok→C.c f [.agg t.cells,I k] (I (pH t k)) none
theorem zb {s p:Int} (h:kn s p=true):0≤p∧p < 8:=by
 simp only [kn,Bool.and_eq_true,decide_eq_true_eq] at h; exact h.1
theorem xu {s p:Int} (h:p∈f8 s):0≤p∧p < 8:=zb (List.mem_filter.1 h).2
theorem Bc (s:Int):(f8 s).length≤8:=by
 have:=List.length_filter_le (kn s) ((List.range 8).map fun (k:Nat)=>(k:Int))
 simpa [f8] using this
theorem bN {α:Type} (l:List α):(bW l).getD []=l:=by unfold bW; split<;>simp_all
theorem tc {α β:Type} {f:α→β} {l:List α} {i:Nat} {x:α} (h:l[i]? = some x):(l.take (i + 1)).map f=(l.take i).map f++[f x]:=by rw [gW h]; simp
theorem Dy {t:Tb} {g:Int} {k:Nat} {x:Sp} (h:(bt t)[k]? = some x):fj t g (k + 1)=if x.group == g then fj t g k++[jN t x.p] else fj t g k:=by
 unfold fj
 rw [gW h,List.filter_append,List.map_append]
 by_cases hx:x.group == g<;>simp [hx]
theorem zc (t:Tb) (g:Int) (k:Nat):(fj t g k).length≤k + 1:=by
 have:=List.length_filter_le (fun x:Sp=>x.group == g) ((bt t).take k)
 have h2:((bt t).take k).length≤k:=List.length_take_le _ _
 simp only [fj,List.length_cons,List.length_map]
 omega
section
variable {P:Program} (hm:P.follows .mixedOrders=true) {f:Nat}
include hm
theorem clear.ok {fO fL e fS fM:Nat} (hc:aL P f=some (mw fO fL e fS fM)) (hO:on.Spec (Pure P) fO) (hL:ni.Spec (Pure P) fL e) (hS:uP.Spec (Pure P) fS) (hM:most.Spec (Pure P) fM):clear.Spec (Pure P) f:=by
 intro t ht
 have hl:=Tb.len ht
 have hp:=Tb.whole ht
 refine an hm hc (by show 1≤32; decide) (aj (keep:=[]) (i:=0) ?_)
 try simp only [I,B,D,RX,↓ KW,seval,mw,Z.H,hp,hl]
 refine af (hO t ht) ?_
 try simp only [I,B,D,RX,↓ KW,seval]
 refine af (hL _ none (.inl rfl)) ?_
 try simp only [I,B,D,RX,↓ KW,seval]
 have hlen:=Bc (sB t)
 have hrg:=@xu (sB t)
 have hmost:∀ G,G=(f8 (sB t)).map (fun p=>jn [(aO t p).dP,(aO t p).red])→kO t=eY G:=fun G h=>by rw [h]; rfl
 generalize f8 (sB t)=L at *
 generalize hF:(fun p=>jn [(aO t p).dP,(aO t p).red])=F at *
 have hF':∀ p,F p=jn [(aO t p).dP,(aO t p).red]:=fun p=>by rw [← hF]
 have hmk:=bN L
 refine aF (fun k:Nat=>(⟨[(10,.dat (I k) none),(9,.dat (I L.length) none),(8,.dat (aE az (bW L)) none),(1,.ptr 4 0),(3,bA az ((L.take k).map F) 0)],[(4,⟨t.cells,[]⟩)],bF ((L.take k).map F) 0 e,400⟩:S)) (fun k=>L.length - k) (fun k=>k≤L.length) ?_ 0 (by omega) ?_
 ·intro k hk A back
  have hw:=aB (k:=k) (by omega)
  by_cases hl:(L.take k).map F=[]
  all_goals
   try simp only [I,B,D,RX,↓ KW,seval,bA,bF,hl]
   refine ax (fun h=>?_) (fun h=>?_)<;>try simp only [I,B,D,RX,↓ KW,seval,hmk,h]
  ·have hlt:k < L.length:=by have:=of_decide_eq_true h; omega
   obtain ⟨x,hx⟩:∃ x,L[k]? = some x:=⟨_,List.getElem?_eq_getElem hlt⟩
   have hn:=tc (f:=F) hx
   have hx8:=hrg (List.mem_of_getElem? hx)
   have hph:=Tb.B7 ht hx8.1 hx8.2
   refine ⟨by omega,?_⟩
   try simp only [I,B,D,RX,↓ KW,seval,hx,az]
   refine ⟨by omega,?_⟩
   try simp only [I,B,D,RX,↓ KW,seval,hph]
   refine ⟨by omega,?_⟩
   try simp only [I,B,D,RX,↓ KW,seval,hph]
   refine af (hS (some [(aO t x).dP,(aO t x).red]) (by simp)) ?_
   try simp only [I,B,D,RX,↓ KW,seval]
   refine back (k + 1) _ (by omega) (by omega) (ai (by decide) ?_ ?_ ?_ ?_)<;>simp [LX,I,B,D,hn,hl,hw,hF']
  ·have:k=L.length:=by have:=of_decide_eq_false h; omega
   subst this
   try simp only [I,B,D,RX,↓ KW,seval]
   rw [List.take_length] at hl
   refine af (hM none (by simp)) ?_
   try simp only [I,B,D,RX,↓ KW,seval]
   simp [hmost _ rfl,hl]
  ·have hlt:k < L.length:=by have:=of_decide_eq_true h; omega
   obtain ⟨x,hx⟩:∃ x,L[k]? = some x:=⟨_,List.getElem?_eq_getElem hlt⟩
   have hn:=tc (f:=F) hx
   have hx8:=hrg (List.mem_of_getElem? hx)
   have hph:=Tb.B7 ht hx8.1 hx8.2
   refine ⟨by omega,?_⟩
   try simp only [I,B,D,RX,↓ KW,seval,hx,az]
   refine ⟨by omega,?_⟩
   try simp only [I,B,D,RX,↓ KW,seval,hph]
   refine ⟨by omega,?_⟩
   try simp only [I,B,D,RX,↓ KW,seval,hph]
   refine af (hS (some [(aO t x).dP,(aO t x).red]) (by simp)) ?_
   try simp only [I,B,D,RX,↓ KW,seval]
   refine ⟨by simp; omega,?_⟩
   refine back (k + 1) _ (by omega) (by omega) (ai (by decide) ?_ ?_ ?_ ?_)<;>simp [LX,I,B,D,hn,hl,hw,hF']
  ·have:k=L.length:=by have:=of_decide_eq_false h; omega
   subst this
   rw [List.take_length] at *
   try simp only [I,B,D,RX,↓ KW,seval]
   refine af (hM (some (L.map F)) (by simp; omega)) ?_
   try simp only [I,B,D,RX,↓ KW,seval]
   simp [hmost _ rfl]
 ·refine ai (by decide) ?_ ?_ ?_ ?_<;>simp [LX,I,B,D,hmk]
theorem serve.ok {fO fH fC e fS fM:Nat} (hc:aL P f=some (mz fO fH fC e fS fM)) (hO:on.Spec (Pure P) fO) (hH:pE.Spec (Pure P) fH) (hC:Cap.Spec (Pure P) fC) (hS:uP.Spec (Pure P) fS) (hM:most.Spec (Pure P) fM):serve.Spec (Pure P) f:=by
 intro t p ht
 have hl:=Tb.len ht
 have hp:=Tb.whole ht
 have htl:=Tb.tail_at ht
 have h116:=htl 0 (by omega)
 have h119:=htl 3 (by omega)
 refine an hm hc (by show 2≤39; decide) (aj (keep:=[]) (i:=0) ?_)
 try simp only [I,B,D,RX,↓ KW,seval,mz,Z.H,hp,hl]
 refine af (hO t ht) ?_
 try simp only [I,B,D,RX,↓ KW,seval]
 refine af (hH _ _) ?_
 try simp only [I,B,D,RX,↓ KW,seval]
 by_cases h:kn (sB t) p=true
 ·have hr:=zb h
  have hph:=Tb.JN ht hr.1 hr.2
  have hx:jN t p=jn [eY [iG (aO t p).min,jn [(aO t p).walk,(aO t p).dQ],iG (aO t p).top],t.extend,(aO t p).dP,(aO t p).red,t.revert,8]:=if_pos h
  generalize aO t p=x at *
  try simp only [I,B,D,RX,↓ KW,seval,h]
  refine ⟨by omega,?_⟩
  try simp only [I,B,D,RX,↓ KW,seval,hph,Ph.cells,de]
  refine af (hC _) ?_
  try simp only [I,B,D,RX,↓ KW,seval]
  refine af (hS (some [x.walk,x.dQ]) (by simp)) ?_
  try simp only [I,B,D,RX,↓ KW,seval]
  refine af (hC _) ?_
  try simp only [I,B,D,RX,↓ KW,seval]
  refine af (hM (some [_,_,_]) (by simp)) ?_
  try simp only [I,B,D,RX,↓ KW,seval,h116,h119]
  refine af (hS (some [_,_,_,_,_,_]) (by simp)) ?_
  try simp only [I,B,D,RX,↓ KW,seval,hx]
  rfl
 ·have hx:jN t p=0:=if_neg h
  simp only [Bool.not_eq_true] at h
  try simp only [I,B,D,RX,↓ KW,seval,h,hx]
theorem pass.ok {e fS fV fs e':Nat} (hc:aL P f=some (nU e fS fV fs)) (hS:bt.Spec (Pure P) fS e') (hV:serve.Spec (Pure P) fV) (hs:uP.Spec (Pure P) fs):pass.Spec (Pure P) f:=by
 intro t g ht
 have hl:=Tb.len ht
 have hp:=Tb.whole ht
 have hg:=Tb.lR ht
 refine an hm hc (by show 2≤39; decide) (aj (keep:=[]) (i:=0) ?_)
 try simp only [I,B,D,RX,↓ KW,seval,nU,Z.H,hp,hl]
 by_cases h0:g < 0∨((t.groups.getD []).length:Int)≤g
 ·have hx:nk t g=0:=if_pos h0
  repeat' (((first | refine aV ?_ ?_ | refine ax ?_ ?_ | refine bq ?_ ?_)<;>intro h)<;>try simp only [I,B,D,RX,↓ KW,seval,hg,hx,h])
  simp_all
  omega
 ·have hx:nk t g=jn (fj t g (bt t).length):=if_neg h0
  have h1:decide (g < 0)=false:=by simp; omega
  have h2:decide (((t.groups.getD []).length:Int)≤g)=false:=by simp; omega
  try simp only [I,B,D,RX,↓ KW,seval,h1,hg,h2,hp]
  refine af (hS t none ht (.inl rfl)) ?_
  have hsz:=Bb ht
  have hmk:=bN (bt t)
  try simp only [I,B,D,RX,↓ KW,seval,hmk]
  generalize hS':bt t=Z at *
  refine aF (fun k:Nat=>(⟨[(21,.dat (I k) none),(20,.dat (I Z.length) none),(19,.dat (aE Sp.cells (bW Z)) none),(1,.dat (I g) none),(2,.ptr 4 0),(5,bA az (fj t g k) 0)],[(4,⟨t.cells,[]⟩)],bF (fj t g k) 0 e,400⟩:S)) (fun k=>Z.length - k) (fun k=>k≤Z.length) ?_ 0 (by omega) ?_
  ·intro k hk A back
   have hw:=aB (k:=k) (by omega)
   have hne:fj t g k≠[]:=by simp [fj]
   try simp only [I,B,D,RX,↓ KW,seval,bA,bF,hne]
   refine ax (fun h=>?_) (fun h=>?_)<;>try simp only [I,B,D,RX,↓ KW,seval,hmk,hp,h]
   ·have hlt:k < Z.length:=by have:=of_decide_eq_true h; omega
    obtain ⟨x,hx⟩:∃ x,Z[k]? = some x:=⟨_,List.getElem?_eq_getElem hlt⟩
    have hn:fj t g (k + 1)=if x.group == g then fj t g k++[jN t x.p] else fj t g k:=Dy (by rw [hS']; exact hx)
    have hlen:=zc t g k
    refine ⟨by omega,?_⟩
    try simp only [I,B,D,RX,↓ KW,seval,hx,Sp.len,Sp.cells]
    refine ax (fun h2=>?_) (fun h2=>?_)<;>try simp only [I,B,D,RX,↓ KW,seval,hp,h2]
    ·refine af (hV t _ ht) ?_
     try simp only [I,B,D,RX,↓ KW,seval]
     refine ⟨by omega,?_⟩
     refine back (k + 1) _ (by omega) (by omega) (ai (by decide) ?_ ?_ ?_ ?_)<;>simp [LX,I,B,D,hn,hw,h2,hne]
    ·refine back (k + 1) _ (by omega) (by omega) (ai (by decide) ?_ ?_ ?_ ?_)<;>simp [LX,I,B,D,hn,hw,h2,hne]
   ·have:k=Z.length:=by have:=of_decide_eq_false h; omega
    subst this
    have hlen:=zc t g Z.length
    try simp only [I,B,D,RX,↓ KW,seval]
    refine af (hs (some (fj t g Z.length)) (by simp; omega)) ?_
    try simp only [I,B,D,RX,↓ KW,seval,hx]
    rfl
  ·refine ai (by decide) ?_ ?_ ?_ ?_<;>simp [LX,I,B,D,fj,hmk,jN]
end
end Go.Eng
namespace Go.Eng
open Go
def kP (t:Tb) (p:Int) (n:Nat):List Int:=nk t (ay t p).1.group :: (List.range n).map fun (g:Nat)=>nk t g
theorem Dz (t:Tb) (p:Int) (n:Nat):kP t p (n + 1)=kP t p n++[nk t n]:=by simp [kP,List.range_succ]
def iU (t:Tb) (n:Nat):List Int:=(List.range n).map fun (k:Nat)=>jn [pH t k,(tO t k).stay]
theorem DA (t:Tb) (n:Nat):iU t (n + 1)=iU t n++[jn [pH t n,(tO t n).stay]]:=by simp [iU,List.range_succ]
def mB (t:Tb) (l:List Int):List Int:=l.flatMap fun p=>[iG (aO t p).min,jn [(aO t p).walk,(aO t p).dQ]]
theorem xw {t:Tb} {l:List Int} {i:Nat} {x:Int} (h:l[i]? = some x):mB t (l.take (i + 1))=mB t (l.take i)++[iG (aO t x).min,jn [(aO t x).walk,(aO t x).dQ]]:=by rw [gW h]; simp [mB]
theorem Fp (t:Tb) (l:List Int):(mB t l).length=l.length * 2:=by
 induction l with
 | nil=>rfl
 | cons x l ih=>simp only [mB,List.flatMap_cons,List.length_append,List.length_cons,List.length_nil] at ih ⊢; omega
def Gs (t:Tb):Int:=if (t.bz.getD []).length=0 then 0 else jn [eY (iU t (t.bz.getD []).length),eY (mB t (f8 (sB t))),kO t,t.revert,30]
def v9.Spec (C:bk) (f:Nat):Prop:=∀ (t:Tb),t.Ok→C.c f [.agg t.cells] (I (Gs t)) none
def oH (t:Tb) (p:Int):Int:=if oG t p=0∨(t.bz.getD []).length=0 then oG t p else jn [SE (jn [t.share,1]) (jn [Gs t,oG t p,2]),t.share]
def wait.Spec (C:bk) (f:Nat):Prop:=∀ (t:Tb) (p:Int),t.Ok→C.c f [.agg t.cells,I p] (I (oH t p)) none
theorem Rl.len (r:Rl):r.cells.length=11:=rfl
theorem zf {t:Tb} {k:Int} (h0:0≤k) (h1:k < ((t.bz.getD []).length:Int)):(t.bz.getD [])[k.toNat]? = some (tO t k):=by
 have:k.toNat < (t.bz.getD []).length:=by omega
 simp [tO,this]
section
variable {P:Program} (hm:P.follows .mixedOrders=true) {f:Nat}
include hm
theorem free.ok {fW fO fH fP e fs:Nat} (hc:aL P f=some (nQ fW fO fH fP e fs)) (hW:where.Spec (Pure P) fW) (hO:on.Spec (Pure P) fO) (hH:pE.Spec (Pure P) fH) (hP:pass.Spec (Pure P) fP) (hs:uP.Spec (Pure P) fs):free.Spec (Pure P) f:=by
 intro t p ht
 have hl:=Tb.len ht
 have hp:=Tb.whole ht
 have hg:=Tb.lR ht
 have hb:=ht.groups
 refine an hm hc (by show 2≤44; decide) (aj (keep:=[]) (i:=0) ?_)
 try simp only [I,B,D,RX,↓ KW,seval,nQ,Z.H,hp,hl]
 refine af (hW t _ ht) ?_
 try simp only [I,B,D,RX,↓ KW,seval,hp,Sp.cells]
 by_cases h0:((ay t p).2 && kn (sB t) p)=true
 ·have hx:oG t p=jn (kP t p (t.groups.getD []).length):=if_pos h0
  simp only [Bool.and_eq_true] at h0
  try simp only [I,B,D,RX,↓ KW,seval,h0,hp]
  refine af (hO t ht) ?_
  try simp only [I,B,D,RX,↓ KW,seval]
  refine af (hH _ _) ?_
  try simp only [I,B,D,RX,↓ KW,seval,h0,hp]
  refine af (hP t _ ht) ?_
  try simp only [I,B,D,RX,↓ KW,seval]
  refine aF (fun k:Nat=>(⟨[(8,.dat (I k) none),(2,.ptr 4 0),(7,bA az (kP t p k) 0)],[(4,⟨t.cells,[]⟩)],bF (kP t p k) 0 e,400⟩:S)) (fun k=>(t.groups.getD []).length - k) (fun k=>k≤(t.groups.getD []).length) ?_ 0 (by omega) ?_
  ·intro k hk A back
   have hw:=aB (k:=k) (by omega)
   have hne:kP t p k≠[]:=by simp [kP]
   have hn:=Dz t p k
   have hlen:(kP t p k).length=k + 1:=by simp [kP]
   try simp only [I,B,D,RX,↓ KW,seval,bA,bF,hne,hg]
   refine ax (fun h=>?_) (fun h=>?_)<;>try simp only [I,B,D,RX,↓ KW,seval,hp,h]
   ·have:k < (t.groups.getD []).length:=by have:=of_decide_eq_true h; omega
    refine af (hP t _ ht) ?_
    try simp only [I,B,D,RX,↓ KW,seval]
    refine ⟨by omega,?_⟩
    refine back (k + 1) _ (by omega) (by omega) (ai (by decide) ?_ ?_ ?_ ?_)<;>simp [LX,I,B,D,hn,hw,hne]
   ·have:k=(t.groups.getD []).length:=by have:=of_decide_eq_false h; omega
    subst this
    try simp only [I,B,D,RX,↓ KW,seval]
    refine af (hs (some (kP t p (t.groups.getD []).length)) (by simp; omega)) ?_
    try simp only [I,B,D,RX,↓ KW,seval,hx]
    rfl
  ·refine ai (by decide) ?_ ?_ ?_ ?_<;>simp [LX,I,B,D,kP]
 ·have hx:oG t p=0:=if_neg h0
  repeat' (first | ((first | refine af (hO t ht) ?_ | refine af (hH _ _) ?_); try simp only [I,B,D,RX,↓ KW,seval,hp,hx]) | (((first | refine aV ?_ ?_ | refine ax ?_ ?_ | refine bq ?_ ?_)<;>intro h)<;>try simp only [I,B,D,RX,↓ KW,seval,hp,hx,h]))
  all_goals simp_all
theorem entry.ok {fC e fs:Nat} (hc:aL P f=some (mu fC e fs)) (hC:clear.Spec (Pure P) fC) (hs:uP.Spec (Pure P) fs):entry.Spec (Pure P) f:=by
 intro t k ht
 have hl:=Tb.len ht
 have hp:=Tb.whole ht
 have hg:=Tb.uO ht
 have h119:=Tb.tail_at ht 3 (by omega)
 refine an hm hc (by show 2≤50; decide) (aj (keep:=[]) (i:=0) ?_)
 try simp only [I,B,D,RX,↓ KW,seval,mu,Z.H,hp,hl]
 by_cases h0:k < 0∨((t.bz.getD []).length:Int)≤k
 ·have hx:pH t k=0:=if_pos h0
  repeat' (((first | refine aV ?_ ?_ | refine ax ?_ ?_ | refine bq ?_ ?_)<;>intro h)<;>try simp only [I,B,D,RX,↓ KW,seval,hg,hx,h])
  simp_all
  omega
 ·have hx:=show pH t k=_ from if_neg h0
  have h1:decide (k < 0)=false:=by simp; omega
  have h2:decide (((t.bz.getD []).length:Int)≤k)=false:=by simp; omega
  have hr:=zf (t:=t) (k:=k) (by omega) (by omega)
  try simp only [I,B,D,RX,↓ KW,seval,h1,h2,hg]
  refine ⟨by omega,?_⟩
  try simp only [I,B,D,RX,↓ KW,seval,hr,Rl.len,Rl.cells,bK,hp]
  refine af (hC t ht) ?_
  try simp only [I,B,D,RX,↓ KW,seval,h119]
  refine af (hs (some [_,_,_,_,_,_,_,_,_,_,_,_,_,_,_,_]) (by simp)) ?_
  try simp only [I,B,D,RX,↓ KW,seval,hx]
  rfl
theorem wait.ok {fF e fs fO fM:Nat} (hc:aL P f=some (nN fF e fs fO fM)) (hF:free.Spec (Pure P) fF) (hs:uP.Spec (Pure P) fs) (hO:v9.Spec (Pure P) fO) (hM:Mul.Spec (Pure P) fM):wait.Spec (Pure P) f:=by
 intro t p ht
 have hl:=Tb.len ht
 have hp:=Tb.whole ht
 have hg:=Tb.uO ht
 have h130:=Tb.JM ht
 refine an hm hc (by show 2≤32; decide) (aj (keep:=[]) (i:=0) ?_)
 try simp only [I,B,D,RX,↓ KW,seval,nN,Z.H,hp,hl]
 refine af (hF t _ ht) ?_
 try simp only [I,B,D,RX,↓ KW,seval,hg]
 by_cases h0:oG t p=0∨(t.bz.getD []).length=0
 ·have hx:oH t p=oG t p:=if_pos h0
  repeat' (((first | refine aV ?_ ?_ | refine ax ?_ ?_ | refine bq ?_ ?_)<;>intro h)<;>try simp only [I,B,D,RX,↓ KW,seval,hg,hx,h])
  simp_all
 ·have hx:=show oH t p=_ from if_neg h0
  have h1:(oG t p == 0)=false:=by simp; omega
  have h2:(((t.bz.getD []).length:Int) == 0)=false:=beq_false_of_ne (by omega)
  try simp only [I,B,D,RX,↓ KW,seval,h1,h2,hg,h130]
  refine af (hs (some [_,_]) (by simp)) ?_
  try simp only [I,B,D,RX,↓ KW,seval,hp]
  refine af (hO t ht) ?_
  try simp only [I,B,D,RX,↓ KW,seval]
  refine af (hs (some [_,_,_]) (by simp)) ?_
  try simp only [I,B,D,RX,↓ KW,seval,hp]
  refine af (hM _ _) ?_
  try simp only [I,B,D,RX,↓ KW,seval,h130]
  refine af (hs (some [_,_]) (by simp)) ?_
  try simp only [I,B,D,RX,↓ KW,seval,hx]
  rfl
theorem v9.ok {fE e fs fO fL fC fM fcl:Nat} (hc:aL P f=some (nS fE e fs fO fL fC fM fcl)) (hE:entry.Spec (Pure P) fE) (hs:uP.Spec (Pure P) fs) (hO:on.Spec (Pure P) fO) (hL:ni.Spec (Pure P) fL e) (hC:Cap.Spec (Pure P) fC) (hM:most.Spec (Pure P) fM) (hcl:clear.Spec (Pure P) fcl):v9.Spec (Pure P) f:=by
 intro t ht
 have hl:=Tb.len ht
 have hp:=Tb.whole ht
 have hg:=Tb.uO ht
 have hb:=ht.bz
 have h119:=Tb.tail_at ht 3 (by omega)
 refine an hm hc (by show 1≤73; decide) (aj (keep:=[]) (i:=0) ?_)
 try simp only [I,B,D,RX,↓ KW,seval,nS,Z.H,hp,hl,hg]
 by_cases h0:(t.bz.getD []).length=0
 ·have hx:Gs t=0:=if_pos h0
  repeat' (((first | refine aV ?_ ?_ | refine ax ?_ ?_ | refine bq ?_ ?_)<;>intro h)<;>try simp only [I,B,D,RX,↓ KW,seval,hg,hx,h])
  simp_all
 ·have hx:=show Gs t=_ from if_neg h0
  have h2:(((t.bz.getD []).length:Int) == 0)=false:=beq_false_of_ne (by omega)
  try simp only [I,B,D,RX,↓ KW,seval,h2]
  refine aF (fun k:Nat=>(⟨[(5,.dat (I k) none),(1,.ptr 4 0),(4,.dat (.bw) none),(3,bA az (iU t k) 0)],[(4,⟨t.cells,[]⟩)],bF (iU t k) 0 e,400⟩:S)) (fun k=>(t.bz.getD []).length - k) (fun k=>k≤(t.bz.getD []).length) ?_ 0 (by omega) ?_
  ·intro k hk A back
   have hw:=aB (k:=k) (by omega)
   have hn:=DA t k
   have hlen:(iU t k).length=k:=by simp [iU]
   by_cases hl:iU t k=[]
   all_goals
    try simp only [I,B,D,RX,↓ KW,seval,bA,bF,hl,hg]
    refine ax (fun h=>?_) (fun h=>?_)<;>try simp only [I,B,D,RX,↓ KW,seval,hp,h]
   ·have:k < (t.bz.getD []).length:=by have:=of_decide_eq_true h; omega
    have hr:=zf (t:=t) (k:=k) (by omega) (by omega)
    rw [Int.toNat_natCast] at hr
    refine af (hE t _ ht) ?_
    try simp only [I,B,D,RX,↓ KW,seval,hg]
    refine ⟨by omega,?_⟩
    try simp only [I,B,D,RX,↓ KW,seval,hr,Rl.len,Rl.cells]
    refine af (hs (some [_,_]) (by simp)) ?_
    try simp only [I,B,D,RX,↓ KW,seval]
    refine back (k + 1) _ (by omega) (by omega) (ai (by decide) ?_ ?_ ?_ ?_)<;>simp [LX,I,B,D,hn,hw,hl]
   ·exfalso
    have:=of_decide_eq_false h
    rw [hl] at hlen; simp at hlen; omega
   ·have:k < (t.bz.getD []).length:=by have:=of_decide_eq_true h; omega
    have hr:=zf (t:=t) (k:=k) (by omega) (by omega)
    rw [Int.toNat_natCast] at hr
    refine af (hE t _ ht) ?_
    try simp only [I,B,D,RX,↓ KW,seval,hg]
    refine ⟨by omega,?_⟩
    try simp only [I,B,D,RX,↓ KW,seval,hr,Rl.len,Rl.cells]
    refine af (hs (some [_,_]) (by simp)) ?_
    try simp only [I,B,D,RX,↓ KW,seval]
    refine ⟨by omega,?_⟩
    refine back (k + 1) _ (by omega) (by omega) (ai (by decide) ?_ ?_ ?_ ?_)<;>simp [LX,I,B,D,hn,hw,hl]
   ·have:k=(t.bz.getD []).length:=by have:=of_decide_eq_false h; omega
    subst this
    try simp only [I,B,D,RX,↓ KW,seval,hp]
    refine af (hO t ht) ?_
    try simp only [I,B,D,RX,↓ KW,seval]
    refine af (hL _ none (.inl rfl)) ?_
    try simp only [I,B,D,RX,↓ KW,seval]
    have hlen:=Bc (sB t)
    have hrg:=@xu (sB t)
    have hmk:=bN (f8 (sB t))
    generalize f8 (sB t)=L at *
    have hmst:eY (iU t (t.bz.getD []).length)=eY (iU t (t.bz.getD []).length):=rfl
    refine aF (fun k:Nat=>(⟨[(37,.dat (I k) none),(36,.dat (I L.length) none),(35,.dat (aE az (bW L)) none),(1,.ptr 4 0),(3,.dat (.sl ((iU t (t.bz.getD []).length).map az)) none),(4,bA az (mB t (L.take k)) 0)],[(4,⟨t.cells,[]⟩)],bF (mB t (L.take k)) 0 e,400⟩:S)) (fun k=>L.length - k) (fun k=>k≤L.length) ?_ 0 (by omega) ?_
    ·intro k hk A back
     have hw:=aB (k:=k) (by omega)
     have hln:(mB t (L.take k)).length≤16:=by rw [Fp]; have:=List.length_take_le k L; omega
     by_cases hl:mB t (L.take k)=[]
     all_goals
      try simp only [I,B,D,RX,↓ KW,seval,bA,bF,hl]
      refine ax (fun h=>?_) (fun h=>?_)<;>try simp only [I,B,D,RX,↓ KW,seval,hmk,h]
     ·have hlt:k < L.length:=by have:=of_decide_eq_true h; omega
      obtain ⟨x,hx2⟩:∃ x,L[k]? = some x:=⟨_,List.getElem?_eq_getElem hlt⟩
      have hx8:=hrg (List.mem_of_getElem? hx2)
      have hph:=Tb.B7 ht hx8.1 hx8.2
      have hn:=xw (t:=t) hx2
      refine ⟨by omega,?_⟩
      try simp only [I,B,D,RX,↓ KW,seval,hx2,az]
      refine ⟨by omega,?_⟩
      try simp only [I,B,D,RX,↓ KW,seval,hph]
      refine af (hC _) ?_
      try simp only [I,B,D,RX,↓ KW,seval,hph]
      refine ⟨by omega,?_⟩
      try simp only [I,B,D,RX,↓ KW,seval,hph]
      refine ⟨by omega,?_⟩
      try simp only [I,B,D,RX,↓ KW,seval,hph]
      refine af (hs (some [_,_]) (by simp)) ?_
      try simp only [I,B,D,RX,↓ KW,seval]
      refine back (k + 1) _ (by omega) (by omega) (ai (by decide) ?_ ?_ ?_ ?_)<;>simp [LX,I,B,D,hn,hw,hl]
     ·have:k=L.length:=by have:=of_decide_eq_false h; omega
      subst this
      rw [List.take_length] at hl hln
      try simp only [I,B,D,RX,↓ KW,seval]
      refine af (hM (some _) (by simp [iU]; omega)) ?_
      try simp only [I,B,D,RX,↓ KW,seval]
      refine af (hM none (by simp)) ?_
      try simp only [I,B,D,RX,↓ KW,seval,hp]
      refine af (hcl t ht) ?_
      try simp only [I,B,D,RX,↓ KW,seval,h119]
      refine af (hs (some [_,_,_,_,_]) (by simp)) ?_
      try simp only [I,B,D,RX,↓ KW,seval,hx,hl]
      rfl
     ·have hlt:k < L.length:=by have:=of_decide_eq_true h; omega
      obtain ⟨x,hx2⟩:∃ x,L[k]? = some x:=⟨_,List.getElem?_eq_getElem hlt⟩
      have hx8:=hrg (List.mem_of_getElem? hx2)
      have hph:=Tb.B7 ht hx8.1 hx8.2
      have hn:=xw (t:=t) hx2
      refine ⟨by omega,?_⟩
      try simp only [I,B,D,RX,↓ KW,seval,hx2,az]
      refine ⟨by omega,?_⟩
      try simp only [I,B,D,RX,↓ KW,seval,hph]
      refine af (hC _) ?_
      try simp only [I,B,D,RX,↓ KW,seval,hph]
      refine ⟨by omega,?_⟩
      try simp only [I,B,D,RX,↓ KW,seval,hph]
      refine ⟨by omega,?_⟩
      try simp only [I,B,D,RX,↓ KW,seval,hph]
      refine af (hs (some [_,_]) (by simp)) ?_
      try simp only [I,B,D,RX,↓ KW,seval]
      refine ⟨by omega,?_⟩
      refine back (k + 1) _ (by omega) (by omega) (ai (by decide) ?_ ?_ ?_ ?_)<;>simp [LX,I,B,D,hn,hw,hl]
     ·have:k=L.length:=by have:=of_decide_eq_false h; omega
      subst this
      rw [List.take_length] at *
      try simp only [I,B,D,RX,↓ KW,seval]
      refine af (hM (some _) (by simp [iU]; omega)) ?_
      try simp only [I,B,D,RX,↓ KW,seval]
      refine af (hM (some _) (by simp; omega)) ?_
      try simp only [I,B,D,RX,↓ KW,seval,hp]
      refine af (hcl t ht) ?_
      try simp only [I,B,D,RX,↓ KW,seval,h119]
      refine af (hs (some [_,_,_,_,_]) (by simp)) ?_
      try simp only [I,B,D,RX,↓ KW,seval,hx,hl]
      rfl
    ·refine ai (by decide) ?_ ?_ ?_ ?_<;>simp [LX,I,B,D,hmk,mB]
  ·refine ai (by decide) ?_ ?_ ?_ ?_<;>simp [LX,I,B,D,iU]
end
end Go.Eng
namespace Go.Eng
open Go
def lG (t:Tb) (p q:Int):Int:=if cz t p q then eN (Nu [p]) q else Nu [p]
def with.Spec (C:bk) (f:Nat):Prop:=∀ (t:Tb) (p q:Int),t.Ok→C.c f [.agg t.cells,I p,I q] (I (lG t p q)) none
theorem Pt (k:FloatKind) (x y:Nat):dF .mul (.float k x) (.float k y)=EP k (k.format.mul x y):=by simp [dF,yf]
theorem JO (k:FloatKind) (x y:Nat):dF .quo (.float k x) (.float k y)=EP k (k.format.div x y):=by simp [dF,yf]
theorem Pu (k:FloatKind) (r:Nat):EP k (some r)=some (.float k r):=by cases k<;>rfl
theorem Nv (k:FloatKind) (k':IntKind) (n:Int):yg k (.int k' n)=some (.float k (k.nearest n)):=rfl
theorem aH (l:Option (List Int)) (i:Int) {n:Int} (h:0 < n) (hn:n≤4294967296):0≤bR l i n∧bR l i n < n:=by
 simp only [bR,place]
 have h1:=Int.tmod_lt_of_pos (Pp l i) h
 have h2:=Int.lt_tmod_of_pos (Pp l i) h
 split
 ·rw [bJ,aY (by omega) (by omega)]; omega
 ·omega
def uQ (n:Int):Nat:=(FloatKind.f64.format.div (FloatKind.f64.nearest n) 4621819117588971520).getD 0
theorem zg:∀ n:Nat,n < 6→FloatKind.f64.format.div (FloatKind.f64.nearest (n:Int)) 4621819117588971520=some (uQ n):=by decide +kernel
def tf (k:Int):Nat:=[4617315517961601024,4621819117588971520,4607182418800017408,4602678819172646912].getD k.toNat 0
def zh (k:Int):Nat:=[4602678819172646912,4607182418800017408,4598175219545276416].getD k.toNat 0
def qU (j k:Int):Nat:=(FloatKind.f64.format.mul (tf j) (zh k)).getD 0
theorem DB:∀ j:Nat,j < 4→∀ k:Nat,k < 3→FloatKind.f64.format.mul (tf j) (zh k)=some (qU j k):=by decide +kernel
def gF (l:Option (List Int)) (i n:Int):uM where
 phase:=bR l i n
 on:=tf (bR l (bJ (i + 1)) 4)
 off:=qU (bR l (bJ (i + 1)) 4) (bR l (bJ (i + 2)) 3)
 delay:=uQ (bR l (bJ (i + 3)) 4)
 extend:=uQ (bR l (bJ (i + 4)) 6)
 maxOn:=if bR l (bJ (i + 5)) 3 == 1 then bJ (20 + bR l (bJ (i + 6)) 60) else 0
 qL:=if bR l (bJ (i + 5)) 9 == 2 then bJ (60 + bR l (bJ (i + 7)) 300) else 0
def qV.Spec (C:bk) (f:Nat):Prop:=∀ (l:Option (List Int)) (i n:Int),0 < n→C.c f [aE az l,I i,I n] (.agg (gF l i n).cells) none
section
variable {P:Program} (hm:P.follows .mixedOrders=true) {f:Nat}
include hm
theorem with.ok {e fO fB fW:Nat} (hc:aL P f=some (nP e fO fB fW)) (hO:y9.Spec (Pure P) fO) (hB:beside.Spec (Pure P) fB) (hW:pF.Spec (Pure P) fW):with.Spec (Pure P) f:=by
 intro t p q ht
 have hl:=Tb.len ht
 have hp:=Tb.whole ht
 refine an hm hc (by show 3≤19; decide) (aj (keep:=[]) (i:=0) ?_)
 try simp only [I,B,D,RX,↓ KW,seval,nP,Z.H,hp,hl]
 refine af (hO (some [_]) (by simp)) ?_
 try simp only [I,B,D,RX,↓ KW,seval,hp]
 refine af (hB t _ _ ht) ?_
 try simp only [I,B,D,RX,↓ KW,seval]
 repeat' (first | (refine af (hW _ _) ?_; try simp only [I,B,D,RX,↓ KW,seval]) | (((first | refine aV ?_ ?_ | refine ax ?_ ?_ | refine bq ?_ ?_)<;>intro h)<;>try simp only [I,B,D,RX,↓ KW,seval,h]))
 all_goals simp_all [lG]
theorem qV.ok {fF:Nat} (hc:aL P f=some (jl fF)) (hF:from.Spec (Pure P) fF):qV.Spec (Pure P) f:=by
 intro l i n hn
 refine an hm hc (by show 3≤66; decide) (aj (keep:=[]) (i:=0) ?_)
 try simp only [I,B,D,RX,↓ KW,seval,jl,Z.H]
 refine af (hF _ _ _ hn) ?_
 try simp only [I,B,D,RX,↓ KW,seval]
 refine af (hF _ _ _ (by decide)) ?_
 try simp only [I,B,D,RX,↓ KW,seval]
 have h1:=aH l (bJ (i + 1)) (n:=4) (by decide) (by decide)
 have h2:=aH l (bJ (i + 2)) (n:=3) (by decide) (by decide)
 have h3:=aH l (bJ (i + 3)) (n:=4) (by decide) (by decide)
 have h4:=aH l (bJ (i + 4)) (n:=6) (by decide) (by decide)
 have e1:[AV.float FloatKind.f64 4617315517961601024,AV.float FloatKind.f64 4621819117588971520,AV.float FloatKind.f64 4607182418800017408,AV.float FloatKind.f64 4602678819172646912][(bR l (bJ (i + 1)) 4).toNat]? = some (.float .f64 (tf (bR l (bJ (i + 1)) 4))):=by
  generalize bR l (bJ (i + 1)) 4=j at *
  have:j=0∨j=1∨j=2∨j=3:=by omega
  rcases this with rfl|rfl|rfl|rfl<;>rfl
 have e2:[AV.float FloatKind.f64 4602678819172646912,AV.float FloatKind.f64 4607182418800017408,AV.float FloatKind.f64 4598175219545276416][(bR l (bJ (i + 2)) 3).toNat]? = some (.float .f64 (zh (bR l (bJ (i + 2)) 3))):=by
  generalize bR l (bJ (i + 2)) 3=j at *
  have:j=0∨j=1∨j=2:=by omega
  rcases this with rfl|rfl|rfl<;>rfl
 have e3:=DB (bR l (bJ (i + 1)) 4).toNat (by omega) (bR l (bJ (i + 2)) 3).toNat (by omega)
 have e4:=zg (bR l (bJ (i + 3)) 4).toNat (by omega)
 have e5:=zg (bR l (bJ (i + 4)) 6).toNat (by omega)
 simp only [Int.toNat_of_nonneg h1.1,Int.toNat_of_nonneg h2.1] at e3
 simp only [Int.toNat_of_nonneg h3.1] at e4
 simp only [Int.toNat_of_nonneg h4.1] at e5
 simp only [bJ] at e1 e2 e3 e4 e5 h1 h2 h3 h4
 refine ⟨by omega,?_⟩
 try simp only [I,B,D,RX,↓ KW,seval,e1]
 refine af (hF l _ 3 (by decide)) ?_
 try simp only [I,B,D,RX,↓ KW,seval]
 refine ⟨by omega,?_⟩
 try simp only [I,B,D,RX,↓ KW,seval,e2,Pu,Pt,e3]
 refine af (hF _ _ _ (by decide)) ?_
 try simp only [I,B,D,RX,↓ KW,seval,Nv,Pu,JO,e4]
 refine af (hF _ _ _ (by decide)) ?_
 try simp only [I,B,D,RX,↓ KW,seval,Nv,Pu,JO,e5]
 repeat' (first | (refine af (hF _ _ _ (by decide)) ?_; try simp only [I,B,D,RX,↓ KW,seval]) | (((first | refine aV ?_ ?_ | refine ax ?_ ?_ | refine bq ?_ ?_)<;>intro h)<;>try simp only [I,B,D,RX,↓ KW,seval,h]))
 all_goals simp_all [gF,uM.cells,bJ]
def nW (t:Tb) (l:Option (List Int)) (i n:Int):Rl :=
  let p:=bR l (bJ (i + 4)) (bJ (n + 1))
  let gD:=lG t (bR l i n) (bR l (bJ (i + 1)) n)
  let stay:=bJ (1 + bR l (bJ (i + 11)) 15)
  let delay:=bR l (bJ (i + 8)) 4
  { bars:=bf .i64 (dB .i64 (bR l (bJ (i + 7)) 256) (bJ (bJ (1 * 2 ^ min (IntKind.u64.wrap n).toNat 64) - 1))) gD
    clear:=if p < n then lG t p (bR l (bJ (i + 5)) n) else 0
    gD:=gD
    exit:=lG t (bR l (bJ (i + 2)) n) (bR l (bJ (i + 3)) n)
    delay:=delay
    green:=bJ (1 + bR l (bJ (i + 9)) 6)
    dc:=bR l (bJ (i + 10)) 6
    hold:=if p < n then bJ (1 + bR l (bJ (i + 6)) 10) else 0
    stay:=stay
    most:=if bR l (bJ (i + 12)) 3 == 1 then bJ (stay + bR l (bJ (i + 13)) 30) else 0
    limit:=bJ (bJ (delay + 1) + [10000,400,20].getD (bR l (bJ (i + 14)) 3).toNat 0) }
def JP.Spec (C:bk) (f:Nat):Prop:=∀ (t:Tb) (l:Option (List Int)) (i n:Int),t.Ok→0 < n→n≤8→C.c f [.agg t.cells,aE az l,I i,I n] (.agg (nW t l i n).cells) none
theorem JP.ok {fF fW:Nat} (hc:aL P f=some (nM fF fW)) (hF:from.Spec (Pure P) fF) (hW:with.Spec (Pure P) fW):JP.Spec (Pure P) f:=by
 intro t l i n ht hn hn8
 have hl:=Tb.len ht
 have hp:=Tb.whole ht
 have hn1:IntKind.i64.wrap (n + 1)=n + 1:=aY (by omega) (by omega)
 refine an hm hc (by show 4≤119; decide) (aj (keep:=[]) (i:=0) ?_)
 try simp only [I,B,D,RX,↓ KW,seval,nM,Z.H,hp,hl,bK]
 refine af (hF _ _ _ hn) ?_
 try simp only [I,B,D,RX,↓ KW,seval,hp]
 refine af (hF _ _ _ hn) ?_
 try simp only [I,B,D,RX,↓ KW,seval,hp]
 refine af (hW t _ _ ht) ?_
 try simp only [I,B,D,RX,↓ KW,seval,hp]
 refine af (hF _ _ _ hn) ?_
 try simp only [I,B,D,RX,↓ KW,seval,hp]
 refine af (hF _ _ _ hn) ?_
 try simp only [I,B,D,RX,↓ KW,seval,hp]
 refine af (hW t _ _ ht) ?_
 try simp only [I,B,D,RX,↓ KW,seval,hp]
 refine af (hF _ _ _ (by omega)) ?_
 try simp only [I,B,D,RX,↓ KW,seval,hp]
 have h14:=aH l (bJ (i + 14)) (n:=3) (by decide) (by decide)
 have e14:[AV.int .i64 10000,AV.int .i64 400,AV.int .i64 20][(bR l (bJ (i + 14)) 3).toNat]? = some (.int .i64 ([10000,400,20].getD (bR l (bJ (i + 14)) 3).toNat 0)):=by
  generalize bR l (bJ (i + 14)) 3=j at *
  have:j=0∨j=1∨j=2:=by omega
  rcases this with rfl|rfl|rfl<;>rfl
 have hu:0≤IntKind.u64.wrap n:=by rw [IntKind.wrap]; simp [IntKind.signed]; omega
 simp only [bJ] at e14 h14
 refine ax (fun h=>?_) (fun h=>?_)<;>try simp only [I,B,D,RX,↓ KW,seval,hp,h]
 ·repeat' (first | ((first | refine af (hF _ _ _ hn) ?_ | refine af (hF _ _ _ (by decide)) ?_ | refine af (hW t _ _ ht) ?_); try simp only [I,B,D,RX,↓ KW,seval,hp]) | (((first | refine aV ?_ ?_ | refine ax ?_ ?_ | refine bq ?_ ?_)<;>intro h)<;>try simp only [I,B,D,RX,↓ KW,seval,hp,h]))
  refine ⟨hu,?_⟩
  repeat' (first | ((first | refine af (hF _ _ _ hn) ?_ | refine af (hF _ _ _ (by decide)) ?_ | refine af (hW t _ _ ht) ?_); try simp only [I,B,D,RX,↓ KW,seval,hp]) | (((first | refine aV ?_ ?_ | refine ax ?_ ?_ | refine bq ?_ ?_)<;>intro h)<;>try simp only [I,B,D,RX,↓ KW,seval,hp,h]))
  all_goals refine ⟨by omega,?_⟩
  all_goals try simp only [I,B,D,RX,↓ KW,seval,e14,hp]
  all_goals simp_all [nW,Rl.cells,bJ,IntKind.bits]
 ·repeat' (first | ((first | refine af (hF _ _ _ hn) ?_ | refine af (hF _ _ _ (by decide)) ?_ | refine af (hW t _ _ ht) ?_); try simp only [I,B,D,RX,↓ KW,seval,hp]) | (((first | refine aV ?_ ?_ | refine ax ?_ ?_ | refine bq ?_ ?_)<;>intro h)<;>try simp only [I,B,D,RX,↓ KW,seval,hp,h]))
  refine ⟨hu,?_⟩
  repeat' (first | ((first | refine af (hF _ _ _ hn) ?_ | refine af (hF _ _ _ (by decide)) ?_ | refine af (hW t _ _ ht) ?_); try simp only [I,B,D,RX,↓ KW,seval,hp]) | (((first | refine aV ?_ ?_ | refine ax ?_ ?_ | refine bq ?_ ?_)<;>intro h)<;>try simp only [I,B,D,RX,↓ KW,seval,hp,h]))
  all_goals refine ⟨by omega,?_⟩
  all_goals try simp only [I,B,D,RX,↓ KW,seval,e14,hp]
  all_goals simp_all [nW,Rl.cells,bJ,IntKind.bits]
  all_goals exact ⟨fun _=>by omega,fun _=>by omega⟩
end
end Go.Eng
