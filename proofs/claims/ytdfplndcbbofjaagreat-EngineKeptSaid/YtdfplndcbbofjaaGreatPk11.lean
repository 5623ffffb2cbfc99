/- The engine and the library,part 11 of 16: what the proofs of this seat need of them. -/
import Derived.Test.YtdfplndcbbofjaaGreatPk10
set_option linter.unnecessarySimpa false
set_option linter.unusedSimpArgs false
set_option linter.unusedVariables false
set_option linter.defProp false
set_option maxRecDepth 10000
set_option maxHeartbeats 4000000
namespace Go.Eng
open Go
def Can (s:Int):Prop:=0≤s∧s < 256
theorem u5 {s:Int} (h:Can s) {i:Nat} (h8:8≤i) (h64:i < 64):tb s i=false:=by
 rw [tR s h64]
 have hp:(2:Int) ^ 8≤2 ^ i:=by
  have e:(2:Int) ^ i=2 ^ 8 * 2 ^ (i - 8):=by rw [← Int.pow_add]; congr 1; omega
  have:(1:Int)≤2 ^ (i - 8):=by have:=Int.pow_pos (n:=(2:Int)) (m:=i - 8) (by decide); omega
  rw [e]; have h2:(2:Int) ^ 8=256:=rfl
  rw [h2]; omega
 have h2:(2:Int) ^ 8=256:=rfl
 have:s.fdiv (2 ^ i)=0:=by
  rw [Int.fdiv_eq_ediv_of_nonneg _ (by omega)]
  exact Int.ediv_eq_zero_of_lt h.1 (by have:=h.2; omega)
 rw [this]; rfl
theorem u6 {x y:Int} (hx:Can x) (hy:Can y) (h:∀ i,i < 8→tb x i=tb y i):x=y:=by
 have hb:bv x=bv y:=by
  apply BitVec.eq_of_getLsbD_eq
  intro i hi
  have h64:i < 64:=hi
  rcases Nat.lt_or_ge i 8 with h8|h8
  ·exact h i h8
  ·have a:=u5 hx h8 h64
   have b:=u5 hy h8 h64
   simp only [tb] at a b
   rw [a,b]
 have:=congrArg BitVec.toNat hb
 simp only [bv,BitVec.toNat_ofInt] at this
 have hx':=hx; have hy':=hy
 unfold Can at hx' hy'
 have e:((2 ^ 64:Nat):Int)=18446744073709551616:=by decide
 rw [e] at this
 omega
theorem PG {x:Int} (h0:0≤x) (h1:x < 18446744073709551616) (h:∀ i,8≤i→i < 64→tb x i=false):Can x:=by
 refine ⟨h0,?_⟩
 have hn:(bv x).toNat=x.toNat:=by
  simp only [bv,BitVec.toNat_ofInt]
  have e:((2 ^ 64:Nat):Int)=18446744073709551616:=by decide
  rw [e]; omega
 have:x.toNat < 2 ^ 8:=by
  apply Nat.lt_pow_two_of_testBit
  intro i hi
  rcases Nat.lt_or_ge i 64 with h64|h64
  ·have:=h i hi h64
   simp only [tb,BitVec.getLsbD] at this
   rw [← hn]; exact this
  ·apply Nat.testBit_lt_two_pow
   have:x.toNat < 2 ^ 64:=by
    have e:(2:Nat) ^ 64=18446744073709551616:=by decide
    omega
   exact Nat.lt_of_lt_of_le this (Nat.pow_le_pow_right (by decide) h64)
 omega
theorem zE (b:BitVec 64) (h:b.getLsbD 63=false):IntKind.i64.wrap (b.toNat:Int)=b.toNat∧(b.toNat:Int) < 9223372036854775808:=by
 have:b.toNat < 2 ^ 63:=by
  apply Nat.lt_pow_two_of_testBit
  intro i hi
  rcases Nat.lt_or_ge i 64 with h64|h64
  ·have:i=63:=by omega
   subst this; exact h
  ·apply Nat.testBit_lt_two_pow
   exact Nat.lt_of_lt_of_le b.isLt (Nat.pow_le_pow_right (by decide) h64)
 have e:(2:Nat) ^ 63=9223372036854775808:=by decide
 refine ⟨aY (by omega) (by omega),by omega⟩
theorem u7 {b:BitVec 64} (h:∀ i,8≤i→i < 64→b.getLsbD i=false):Can (IntKind.i64.wrap (b.toNat:Int)):=by
 obtain ⟨h1,h2⟩:=zE b (h 63 (by decide) (by decide))
 rw [h1]
 refine PG (by omega) (by omega) fun i h8 h64=>?_
 simp only [tb,Ce]
 exact h i h8 h64
theorem oL {s:Int} {p:Nat} (hp:p < 8):Can (cY s p):=by
 have:cY s p=IntKind.i64.wrap (((bv (dB .i64 s 255)) ||| bv (oE p)).toNat:Int):=rfl
 rw [this]
 refine u7 fun i h8 h64=>?_
 rw [BitVec.getLsbD_or]
 have a:=wk s 255 i
 have b:=Cf hp i
 simp only [tb] at a b
 rw [a,b]
 have c:=qZ i
 simp only [tb] at c
 rw [c]
 have:¬ i < 8:=by omega
 have h2:¬ i=p:=by omega
 simp [this,h2]
theorem DT (l:List Int):∀ k,k≤8→Can (tN l k)
 | 0,_=>by show Can 0; exact ⟨by decide,by decide⟩
 | k + 1,h=>by
  have ih:=DT l k (by omega)
  simp only [tN]
  split
  ·have e:xm .i64 (tN l k) (2 ^ k)=IntKind.i64.wrap ((bv (tN l k) ||| bv (2 ^ k)).toNat:Int):=rfl
   rw [e]
   refine u7 fun i h8 h64=>?_
   rw [BitVec.getLsbD_or]
   have a:=u5 ih h8 h64
   have b:=Fv (p:=k) (by omega) i
   simp only [tb] at a b
   rw [a,b]
   have:¬ i=k:=by omega
   simp [this]
  ·exact ih
theorem Cw (l:List Int):Can (Nu l):=DT l 8 (by omega)
theorem Bh (s p:Int):Can (eN s p):=Cw _
theorem MH {t:Tb} (h:t.Ln) {p:Nat} (hp:p < 8):aD (t.phases.flatMap Ph.cells) (p * 13) (some 13)=some (.agg (aO t p).cells):=by
 rw [jL (h.wu hp)]
 exact fQ (by rw [aK Ph.len,kj (h.wu hp)]) rfl
def oM (t:Tb):Nat→Int
 | 0=>0
 | k + 1=>if (aO t k).on then cY (oM t k) k else oM t k
theorem Bi (t:Tb):∀ k,k≤8→Can (oM t k)
 | 0,_=>by show Can 0; exact ⟨by decide,by decide⟩
 | k + 1,h=>by
  simp only [oM]; split
  ·exact oL (by omega)
  ·exact Bi t k (by omega)
theorem DU (t:Tb) (i:Nat):∀ k,k≤8→tb (oM t k) i=(decide (i < k) && (aO t i).on)
 | 0,_=>by simp [oM,eu]
 | k + 1,h=>by
  have ih:=DU t i k (by omega)
  simp only [oM]
  split
  ·rename_i hk
   rw [lN (by omega),ih]
   by_cases e:i=k
   ·subst e; simp [hk]
   ·have h1:(i < k + 1)↔i < k:=by omega
    have h2:i < k→i < 8:=by omega
    by_cases h3:i < k
    ·simp [h1,h3,h2 h3,e]
    ·simp [h1,h3,e]
  ·rename_i hk
   rw [ih]
   by_cases e:i=k
   ·subst e; simp [hk]
   ·have:(i < k + 1)↔i < k:=by omega
    simp [this]
theorem PI (t:Tb) (i:Nat):tb (sB t) i=(decide (i < 8) && (aO t i).on):=by
 rw [sB,Gw]
 by_cases h:i < 8
 ·have:(i:Int)∈sV t 8↔(aO t i).on=true:=by
   simp only [sV,List.mem_filter,List.mem_map,List.mem_range,Int.natCast_inj]
   constructor
   ·rintro ⟨_,h2⟩; exact h2
   ·intro h2; exact ⟨⟨i,h,rfl⟩,h2⟩
  simp [h,this]
 ·simp [h]
theorem PJ (t:Tb):oM t 8=sB t:=u6 (Bi t 8 (by omega)) (Cw _) fun i hi=>by rw [DU t i 8 (by omega),PI]
theorem DW (l:List Gr) {n m:Nat} (h:n≤m) (hm:m≤l.length):∃ r,cg l m=cg l n++r:=by
 induction m with
 | zero=>exact ⟨[],by rw [show n=0 by omega]; simp⟩
 | succ m ih =>
  rcases Nat.lt_or_ge n (m + 1) with h1|h1
  ·obtain ⟨r,hr⟩:=ih (by omega) (by omega)
   obtain ⟨gr,hgr⟩:∃ x,l[m]? = some x:=⟨_,List.getElem?_eq_getElem (by omega)⟩
   exact ⟨r++cm gr m 2,by rw [gX hgr,hr,List.append_assoc]⟩
  ·exact ⟨[],by rw [show n=m + 1 by omega]; simp⟩
theorem DX (gr:Gr) (g:Nat) {k:Nat} (hk:k < 2):∃ r,cm gr g 2=cm gr g k++(br g k ((gr.row k).getD [])++r):=by
 have:k=0∨k=1:=by omega
 rcases this with rfl|rfl
 ·exact ⟨br g 1 ((gr.row 1).getD []),by rw [dN,dN,List.append_assoc]⟩
 ·exact ⟨[],by rw [dN]; simp⟩
theorem Cx (g k:Nat) (row:List Int) {n m:Nat} (h:n≤m) (hm:m≤row.length):∃ r,br g k (row.take m)=br g k (row.take n)++r:=by
 induction m with
 | zero=>exact ⟨[],by rw [show n=0 by omega]; simp⟩
 | succ m ih =>
  rcases Nat.lt_or_ge n (m + 1) with h1|h1
  ·obtain ⟨r,hr⟩:=ih (by omega) (by omega)
   obtain ⟨x,hx⟩:∃ x,row[m]? = some x:=⟨_,List.getElem?_eq_getElem (by omega)⟩
   have hn:=iH (g:=g) (k:=k) hx
   by_cases h8:0≤x∧x < 8
   ·exact ⟨r++[⟨g,k,m,x⟩],by rw [hn.1 h8,hr,List.append_assoc]⟩
   ·exact ⟨r,by rw [hn.2 h8,hr]⟩
  ·exact ⟨[],by rw [show n=m + 1 by omega]; simp⟩
theorem DY {t:Tb} {p:Int} {g k i:Nat} {gr:Gr} (hp:0≤p∧p < 8) (hg:(t.groups.getD [])[g]? = some gr) (hk:k < 2) (hi:((gr.row k).getD [])[i]? = some p)
  (hno:∀ x∈cg (t.groups.getD []) g++cm gr g k++br g k (((gr.row k).getD []).take i),x.p≠p):ay t p=(⟨g,k,i,p⟩,true):=by
 have hlt:=(List.getElem?_eq_some_iff.1 hg).1
 have hil:=(List.getElem?_eq_some_iff.1 hi).1
 obtain ⟨r1,h1⟩:=DW (t.groups.getD []) (n:=g + 1) (m:=(t.groups.getD []).length) (by omega) (Nat.le_refl _)
 obtain ⟨r2,h2⟩:=DX gr g hk
 obtain ⟨r3,h3⟩:=Cx g k ((gr.row k).getD []) (n:=i + 1) (m:=((gr.row k).getD []).length) (by omega) (Nat.le_refl _)
 rw [List.take_length] at h3
 have h4:=(iH (g:=g) (k:=k) hi).1 hp
 have hs:bt t=(cg (t.groups.getD []) g++cm gr g k++br g k (((gr.row k).getD []).take i))++(⟨g,k,i,p⟩ :: (r3++r2++r1)):=by
  rw [bt,h1,gX hg,h2,h3,h4]
  simp only [List.append_assoc,List.singleton_append,List.cons_append,List.nil_append]
 have hf:(bt t).find? (fun x=>x.p == p)=some ⟨g,k,i,p⟩:=by
  rw [hs,List.find?_append]
  have:(cg (t.groups.getD []) g++cm gr g k++br g k (((gr.row k).getD []).take i)).find? (fun x=>x.p == p)=none:=by
   rw [List.find?_eq_none]; intro x hx; simpa using hno x hx
  rw [this]
  simp
 simp [ay,hf]
theorem Bj {t:Tb} {p:Int} (h:∀ x∈bt t,x.p≠p):ay t p=(⟨0,0,0,0⟩,false):=by
 have:(bt t).find? (fun x=>x.p == p)=none:=by
  rw [List.find?_eq_none]; intro x hx; simpa using h x hx
 simp [ay,this]
theorem DZ {t:Tb} {x:Sp} (h:x∈bt t):0≤x.p∧x.p < 8:=by
 simp only [bt,cg,cm,br,List.mem_flatMap,List.mem_filterMap] at h
 obtain ⟨⟨gr,g⟩,_,k,_,⟨y,i⟩,_,h⟩:=h
 simp only at h
 split at h
 ·rename_i hy; cases h; exact hy
 ·cases h
def PK (l:List Int):Int:=l.foldl (fun s p=>xm .i64 s (oE p)) 0
def setOf.Spec (C:bk) (f:Nat):Prop:=∀ l:Option (List Int),(l.getD []).length≤1000000000→C.c f [aE az l] (I (PK (l.getD []))) none
def Tc.Spec (C:bk) (f:Nat):Prop:=∀ t:Tb,t.Ln→C.c f [.agg t.cells] (I (sB t)) none
def tZ.Spec (C:bk) (f:Nat):Prop:=∀ (t:Tb) (p:Int),t.Ok→C.c f [.agg t.cells,I p] (.cI [I (ay t p).1.group,I (ay t p).1.ring,I (ay t p).1.pos,B (ay t p).2]) none
theorem Cy (p:Int):(PK [p] == 0)=!(decide (0≤p) && decide (p < 8)):=by
 simp only [PK,List.foldl_cons,List.foldl_nil]
 by_cases h:0≤p∧p < 8
 ·obtain ⟨n,rfl⟩:∃ n:Nat,p=n:=⟨p.toNat,by omega⟩
  have hn:n < 8:=by omega
  have:n=0∨n=1∨n=2∨n=3∨n=4∨n=5∨n=6∨n=7:=by omega
  rcases this with rfl|rfl|rfl|rfl|rfl|rfl|rfl|rfl<;>decide
 ·have e:oE p=0:=by unfold oE; rw [if_pos (by omega)]
  rw [e]
  have:(decide (0≤p) && decide (p < 8))=false:=by
   rw [Bool.and_eq_false_iff]; simp only [decide_eq_false_iff_not]; omega
  rw [this]; decide
section
variable {P:Program} (hm:P.follows .mixedOrders=true) {f:Nat}
include hm
theorem setOf.ok {fB:Nat} (hc:aL P f=some (wA fB)) (hB:bit.Spec (Pure P) fB):setOf.Spec (Pure P) f:=by
 intro l hl
 refine an hm hc (by show 1≤18; decide) (aj (keep:=[]) (i:=0) ?_)
 try simp only [I,B,D,RX,↓ KW,Nat.reduceBEq,Nat.reduceAdd,Nat.reduceLeDiff,Int.reduceNe,Int.reduceBEq,Int.reduceEq,reduceCtorEq,Nat.reduceMul,Int.reduceLT,Int.reduceLE,Int.reduceToNat,wA,Z.H,uN]
 refine aF (fun k:Nat=>(⟨[(8,.dat (I k) none),(7,.dat (I ((l.getD []).length:Nat)) none),(6,.dat (aE az l) none),(3,.dat (I (((l.getD []).take k).foldl (fun s p=>xm .i64 s (oE p)) 0)) none)],[],[],400⟩:S)) (fun k=>(l.getD []).length - k) (fun k=>k≤(l.getD []).length) ?_ 0 (by omega) ?_
 rotate_left
 ·refine ai (by decide) ?_ ?_ ?_ ?_<;>simp [LX,I,B,D]
 intro k hk A back
 have hwr:=aB (k:=k) (by omega)
 try simp only [I,B,D,RX,↓ KW,Nat.reduceBEq,Nat.reduceAdd,Nat.reduceLeDiff,Int.reduceNe,Int.reduceBEq,Int.reduceEq,reduceCtorEq,Nat.reduceMul,Int.reduceLT,Int.reduceLE,Int.reduceToNat]
 cases h2:decide ((k:Int) < (((l.getD []).length:Nat):Int))
 ·have e:k=(l.getD []).length:=by have:=of_decide_eq_false h2; omega
  subst e
  rw [List.take_length]
  try simp only [I,B,D,RX,↓ KW,Nat.reduceBEq,Nat.reduceAdd,Nat.reduceLeDiff,Int.reduceNe,Int.reduceBEq,Int.reduceEq,reduceCtorEq,Nat.reduceMul,Int.reduceLT,Int.reduceLE,Int.reduceToNat,h2]
  rfl
 ·have h8:k < (l.getD []).length:=by have:=of_decide_eq_true h2; omega
  obtain ⟨x,hx⟩:∃ x,(l.getD [])[k]? = some x:=⟨_,List.getElem?_eq_getElem h8⟩
  have hn:=lS (f:=fun s p=>xm .i64 s (oE p)) (b:=0) hx
  try simp only [I,B,D,RX,↓ KW,Nat.reduceBEq,Nat.reduceAdd,Nat.reduceLeDiff,Int.reduceNe,Int.reduceBEq,Int.reduceEq,reduceCtorEq,Nat.reduceMul,Int.reduceLT,Int.reduceLE,Int.reduceToNat,h2,qQ,hx,az]
  refine ⟨by omega,?_⟩
  refine af (hB x) ?_
  try simp only [I,B,D,RX,↓ KW,Nat.reduceBEq,Nat.reduceAdd,Nat.reduceLeDiff,Int.reduceNe,Int.reduceBEq,Int.reduceEq,reduceCtorEq,Nat.reduceMul,Int.reduceLT,Int.reduceLE,Int.reduceToNat]
  refine back (k + 1) _ (by omega) (by omega) ?_
  simp only [hn]
  refine ai (by decide) ?_ ?_ ?_ ?_<;>simp [LX,I,B,D,hwr]
theorem Tc.ok {fW:Nat} (hc:aL P f=some (tY fW)) (hW:gw.Spec (Pure P) fW):Tc.Spec (Pure P) f:=by
 intro t h
 have hp:=PF h
 rw [← PJ]
 refine an hm hc (by show 1≤19; decide) (aj (keep:=[]) (i:=0) ?_)
 try simp only [I,B,D,RY,↓ KW,Nat.reduceBEq,Nat.reduceAdd,Nat.reduceLeDiff,Int.reduceNe,Int.reduceBEq,Int.reduceEq,reduceCtorEq,Nat.reduceMul,Int.reduceLT,Int.reduceLE,Int.reduceToNat,tY,Z.H,hp]
 refine aF (fun k:Nat=>(⟨[(8,.dat (I k) none),(7,.dat (.agg (t.phases.flatMap Ph.cells)) none),(3,.dat (I (oM t k)) none)],[],[],400⟩:S)) (fun k=>8 - k) (fun k=>k≤8) ?_ 0 (by omega) ?_
 rotate_left
 ·refine ai (by decide) ?_ ?_ ?_ ?_<;>simp [LX,I,B,D,oM]
 intro k hk A back
 have hwr:=aB (k:=k) (by omega)
 try simp only [I,B,D,RY,↓ KW,Nat.reduceBEq,Nat.reduceAdd,Nat.reduceLeDiff,Int.reduceNe,Int.reduceBEq,Int.reduceEq,reduceCtorEq,Nat.reduceMul,Int.reduceLT,Int.reduceLE,Int.reduceToNat]
 cases h2:decide ((k:Int) < 8)
 ·have e:k=8:=by have:=of_decide_eq_false h2; omega
  subst e
  try simp only [I,B,D,RY,↓ KW,Nat.reduceBEq,Nat.reduceAdd,Nat.reduceLeDiff,Int.reduceNe,Int.reduceBEq,Int.reduceEq,reduceCtorEq,Nat.reduceMul,Int.reduceLT,Int.reduceLE,Int.reduceToNat,h2]
 ·have h8:k < 8:=by have:=of_decide_eq_true h2; omega
  have hx:0≤(k:Int)∧(k:Int) < (8:Nat):=by omega
  have hat:=MH h h8
  have hz:setCells de 0 (aO t k).cells=(aO t k).cells:=ep rfl
  have hzl:de.length=13:=rfl
  have p0:(aO t k).cells[0]? = some (AV.bool (aO t k).on):=rfl
  have hn:oM t (k + 1)=if (aO t k).on then cY (oM t k) k else oM t k:=rfl
  try simp only [I,B,D,RY,↓ KW,Nat.reduceBEq,Nat.reduceAdd,Nat.reduceLeDiff,Int.reduceNe,Int.reduceBEq,Int.reduceEq,reduceCtorEq,Nat.reduceMul,Int.reduceLT,Int.reduceLE,Int.reduceToNat,hx,hat,hz,hzl,Ph.len,p0,h2]
  cases hon:(aO t k).on
  ·try simp only [I,B,D,RY,↓ KW,Nat.reduceBEq,Nat.reduceAdd,Nat.reduceLeDiff,Int.reduceNe,Int.reduceBEq,Int.reduceEq,reduceCtorEq,Nat.reduceMul,Int.reduceLT,Int.reduceLE,Int.reduceToNat,hx,hat,hz,hzl,Ph.len,p0,hon]
   refine back (k + 1) _ (by omega) (by omega) ?_
   rw [hon] at hn
   simp only [hn]
   refine ai (by decide) ?_ ?_ ?_ ?_<;>simp [LX,I,B,D,hwr]
  ·try simp only [I,B,D,RY,↓ KW,Nat.reduceBEq,Nat.reduceAdd,Nat.reduceLeDiff,Int.reduceNe,Int.reduceBEq,Int.reduceEq,reduceCtorEq,Nat.reduceMul,Int.reduceLT,Int.reduceLE,Int.reduceToNat,hx,hat,hz,hzl,Ph.len,p0,hon]
   refine af (hW _ _) ?_
   try simp only [I,B,D,RY,↓ KW,Nat.reduceBEq,Nat.reduceAdd,Nat.reduceLeDiff,Int.reduceNe,Int.reduceBEq,Int.reduceEq,reduceCtorEq,Nat.reduceMul,Int.reduceLT,Int.reduceLE,Int.reduceToNat]
   refine back (k + 1) _ (by omega) (by omega) ?_
   rw [hon] at hn
   simp only [hn]
   refine ai (by decide) ?_ ?_ ?_ ?_<;>simp [LX,I,B,D,hwr]
theorem tZ.ok {e fO:Nat} (hc:aL P f=some (n9 e fO)) (hO:setOf.Spec (Pure P) fO):tZ.Spec (Pure P) f:=by
 intro t p ht
 have hg:=PE ht.ln
 have c1:=hO (some [p]) (by simp)
 simp only [Option.getD_some] at c1
 refine an hm hc (by show 2≤51; decide) (aj (keep:=[]) (i:=0) ?_)
 try simp only [I,B,D,RY,↓ KW,Nat.reduceBEq,Nat.reduceAdd,Nat.reduceLeDiff,Int.reduceNe,Int.reduceBEq,Int.reduceEq,reduceCtorEq,Nat.reduceMul,Int.reduceLT,Int.reduceLE,Int.reduceToNat,n9,Z.H,hg]
 refine af c1 ?_
 cases hin:PK [p] == 0
 rotate_left
 ·have hne:ay t p=(⟨0,0,0,0⟩,false):=by
   rw [Cy] at hin
   refine Bj fun x hx e=>?_
   have:=DZ hx
   rw [e] at this
   simp [this] at hin
  try simp only [I,B,D,RY,↓ KW,Nat.reduceBEq,Nat.reduceAdd,Nat.reduceLeDiff,Int.reduceNe,Int.reduceBEq,Int.reduceEq,reduceCtorEq,Nat.reduceMul,Int.reduceLT,Int.reduceLE,Int.reduceToNat,hin,hne]
 have hp:0≤p∧p < 8:=by rw [Cy] at hin; simpa using hin
 try simp only [I,B,D,RY,↓ KW,Nat.reduceBEq,Nat.reduceAdd,Nat.reduceLeDiff,Int.reduceNe,Int.reduceBEq,Int.reduceEq,reduceCtorEq,Nat.reduceMul,Int.reduceLT,Int.reduceLE,Int.reduceToNat,hin,hg]
 refine aF (fun g:Nat=>(⟨[(21,.dat (I g) none),(20,.dat (I ((t.groups.getD []).length:Nat)) none),(19,.dat (aE Gr.cells t.groups) none),(1,.dat (I p) none),(4,.dat (I 0) none),(5,.dat (I 0) none),(6,.dat (I 0) none),(7,.dat (B false) none)],[],[],400⟩:S)) (fun g=>(t.groups.getD []).length - g) (fun g=>g≤(t.groups.getD []).length∧∀ x∈cg (t.groups.getD []) g,x.p≠p) ?_ 0 (by simp [cg]) ?_
 rotate_left
 ·refine ai (by decide) ?_ ?_ ?_ ?_<;>simp [LX,I,B,D,uN]
 rintro g ⟨hg1,hno⟩ A back
 have hb:=ht.groups
 have hw:=aB (k:=g) (by omega)
 try simp only [I,B,D,RY,↓ KW,Nat.reduceBEq,Nat.reduceAdd,Nat.reduceLeDiff,Int.reduceNe,Int.reduceBEq,Int.reduceEq,reduceCtorEq,Nat.reduceMul,Int.reduceLT,Int.reduceLE,Int.reduceToNat]
 cases h2:decide ((g:Int) < (((t.groups.getD []).length:Nat):Int))
 ·have e:g=(t.groups.getD []).length:=by have:=of_decide_eq_false h2; omega
  subst e
  have hne:=Bj (t:=t) (p:=p) hno
  try simp only [I,B,D,RY,↓ KW,Nat.reduceBEq,Nat.reduceAdd,Nat.reduceLeDiff,Int.reduceNe,Int.reduceBEq,Int.reduceEq,reduceCtorEq,Nat.reduceMul,Int.reduceLT,Int.reduceLE,Int.reduceToNat,h2,hne]
 have hlt:g < (t.groups.getD []).length:=by have:=of_decide_eq_true h2; omega
 obtain ⟨gr,hgr⟩:∃ x,(t.groups.getD [])[g]? = some x:=⟨_,List.getElem?_eq_getElem hlt⟩
 have hrs:=ht.rows gr (List.mem_of_getElem? hgr)
 have hpart:aD (Gr.cells gr) 0 (some 2)=some (.agg (Gr.cells gr)):=rfl
 have hset:∀ c:List AV,c.length=2→setCells c 0 (Gr.cells gr)=Gr.cells gr:=fun c h=>ep (by rw [h]; rfl)
 try simp only [I,B,D,RY,↓ KW,Nat.reduceBEq,Nat.reduceAdd,Nat.reduceLeDiff,Int.reduceNe,Int.reduceBEq,Int.reduceEq,reduceCtorEq,Nat.reduceMul,Int.reduceLT,Int.reduceLE,Int.reduceToNat,h2,qQ,hgr,Gr.len,hpart,hset]
 refine ⟨by omega,?_⟩
 try simp only [I,B,D,RY,↓ KW,Nat.reduceBEq,Nat.reduceAdd,Nat.reduceLeDiff,Int.reduceNe,Int.reduceBEq,Int.reduceEq,reduceCtorEq,Nat.reduceMul,Int.reduceLT,Int.reduceLE,Int.reduceToNat,hset,Gr.len,hpart]
 refine aF (fun k:Nat=>(⟨[(27,.dat (I k) none),(26,.dat (.agg (Gr.cells gr)) none),(1,.dat (I p) none),(8,.dat (I g) none),(21,.dat (I g) none),(20,.dat (I ((t.groups.getD []).length:Nat)) none),(19,.dat (aE Gr.cells t.groups) none),(4,.dat (I 0) none),(5,.dat (I 0) none),(6,.dat (I 0) none),(7,.dat (B false) none)],[],[],500⟩:S)) (fun k=>2 - k) (fun k=>k≤2∧∀ x∈cg (t.groups.getD []) g++cm gr g k,x.p≠p) ?_ 0 ⟨by omega,by simpa [cm] using hno⟩ ?_
 rotate_left
 ·refine ai (by decide) ?_ ?_ ?_ ?_<;>simp [LX,I,B,D]
 rintro k ⟨hk,hno1⟩ A1 back1
 have hw1:=aB (k:=k) (by omega)
 try simp only [I,B,D,RY,↓ KW,Nat.reduceBEq,Nat.reduceAdd,Nat.reduceLeDiff,Int.reduceNe,Int.reduceBEq,Int.reduceEq,reduceCtorEq,Nat.reduceMul,Int.reduceLT,Int.reduceLE,Int.reduceToNat]
 cases h3:decide ((k:Int) < 2)
 ·have e:k=2:=by have:=of_decide_eq_false h3; omega
  subst e
  try simp only [I,B,D,RY,↓ KW,Nat.reduceBEq,Nat.reduceAdd,Nat.reduceLeDiff,Int.reduceNe,Int.reduceBEq,Int.reduceEq,reduceCtorEq,Nat.reduceMul,Int.reduceLT,Int.reduceLE,Int.reduceToNat,h3]
  refine back (g + 1) _ ⟨by omega,by rw [gX hgr]; exact hno1⟩ (by omega) ?_
  refine ai (by decide) ?_ ?_ ?_ ?_<;>simp [LX,I,B,D,hw]
 have hk2:k < 2:=by have:=of_decide_eq_true h3; omega
 have hx2:0≤(k:Int)∧(k:Int) < (2:Nat):=by omega
 have hrow:(Gr.cells gr)[k]? = some (aE az (gr.row k)):=by
  have:k=0∨k=1:=by omega
  rcases this with rfl|rfl<;>rfl
 have hrl:((gr.row k).getD []).length≤1048576:=by
  have:k=0∨k=1:=by omega
  rcases this with rfl|rfl
  exact hrs.1
  exact hrs.2
 try simp only [I,B,D,RY,↓ KW,Nat.reduceBEq,Nat.reduceAdd,Nat.reduceLeDiff,Int.reduceNe,Int.reduceBEq,Int.reduceEq,reduceCtorEq,Nat.reduceMul,Int.reduceLT,Int.reduceLE,Int.reduceToNat,h3,hx2,hrow,uN]
 refine aF (fun i:Nat=>(⟨[(33,.dat (I i) none),(32,.dat (I (((gr.row k).getD []).length:Nat)) none),(31,.dat (aE az (gr.row k)) none),(1,.dat (I p) none),(8,.dat (I g) none),(10,.dat (I k) none),(27,.dat (I k) none),(26,.dat (.agg (Gr.cells gr)) none),(21,.dat (I g) none),(20,.dat (I ((t.groups.getD []).length:Nat)) none),(19,.dat (aE Gr.cells t.groups) none),(4,.dat (I 0) none),(5,.dat (I 0) none),(6,.dat (I 0) none),(7,.dat (B false) none)],[],[],600⟩:S)) (fun i=>((gr.row k).getD []).length - i) (fun i=>i≤((gr.row k).getD []).length∧∀ x∈cg (t.groups.getD []) g++cm gr g k++br g k (((gr.row k).getD []).take i),x.p≠p) ?_ 0 ⟨by omega,by simpa [br] using hno1⟩ ?_
 rotate_left
 ·refine ai (by decide) ?_ ?_ ?_ ?_<;>simp [LX,I,B,D]
 rintro i ⟨hi,hno2⟩ A2 back2
 have hw2:=aB (k:=i) (by omega)
 try simp only [I,B,D,RY,↓ KW,Nat.reduceBEq,Nat.reduceAdd,Nat.reduceLeDiff,Int.reduceNe,Int.reduceBEq,Int.reduceEq,reduceCtorEq,Nat.reduceMul,Int.reduceLT,Int.reduceLE,Int.reduceToNat]
 cases h4:decide ((i:Int) < ((((gr.row k).getD []).length:Nat):Int))
 ·have e:i=((gr.row k).getD []).length:=by have:=of_decide_eq_false h4; omega
  subst e
  rw [List.take_length] at hno2
  try simp only [I,B,D,RY,↓ KW,Nat.reduceBEq,Nat.reduceAdd,Nat.reduceLeDiff,Int.reduceNe,Int.reduceBEq,Int.reduceEq,reduceCtorEq,Nat.reduceMul,Int.reduceLT,Int.reduceLE,Int.reduceToNat,h4]
  refine back1 (k + 1) _ ⟨by omega,by rw [dN,← List.append_assoc]; exact hno2⟩ (by omega) ?_
  refine ai (by decide) ?_ ?_ ?_ ?_<;>simp [LX,I,B,D,hw1]
 have hil:i < ((gr.row k).getD []).length:=by have:=of_decide_eq_true h4; omega
 obtain ⟨x,hx⟩:∃ x,((gr.row k).getD [])[i]? = some x:=⟨_,List.getElem?_eq_getElem hil⟩
 try simp only [I,B,D,RY,↓ KW,Nat.reduceBEq,Nat.reduceAdd,Nat.reduceLeDiff,Int.reduceNe,Int.reduceBEq,Int.reduceEq,reduceCtorEq,Nat.reduceMul,Int.reduceLT,Int.reduceLE,Int.reduceToNat,h4,qQ,hx,az]
 refine ⟨by omega,?_⟩
 cases h5:x == p
 ·have hnx:x≠p:=by simpa using h5
  have hr:=iH (g:=g) (k:=k) hx
  try simp only [I,B,D,RY,↓ KW,Nat.reduceBEq,Nat.reduceAdd,Nat.reduceLeDiff,Int.reduceNe,Int.reduceBEq,Int.reduceEq,reduceCtorEq,Nat.reduceMul,Int.reduceLT,Int.reduceLE,Int.reduceToNat,h5]
  refine back2 (i + 1) _ ⟨by omega,?_⟩ (by omega) ?_
  ·by_cases h8:0≤x∧x < 8
   ·rw [hr.1 h8,← List.append_assoc]
    intro y hy
    rcases List.mem_append.1 hy with hy|hy
    ·exact hno2 y hy
    ·rw [List.mem_singleton] at hy; subst hy; exact hnx
   ·rw [hr.2 h8]; exact hno2
  ·refine ai (by decide) ?_ ?_ ?_ ?_<;>simp [LX,I,B,D,hw2]
 ·have ex:x=p:=by simpa using h5
  subst ex
  have hfound:=DY hp hgr hk2 hx hno2
  try simp only [I,B,D,RY,↓ KW,Nat.reduceBEq,Nat.reduceAdd,Nat.reduceLeDiff,Int.reduceNe,Int.reduceBEq,Int.reduceEq,reduceCtorEq,Nat.reduceMul,Int.reduceLT,Int.reduceLE,Int.reduceToNat,h5,hfound]
end
end Go.Eng
namespace Go.Eng
open Go
def ei (s:Int):List Nat:=(List.range 8).filter fun p=>tb s p
theorem j6 {s:Int} {p:Nat} (h:p∈ei s):p < 8:=by simp only [ei,List.mem_filter,List.mem_range] at h; exact h.1
theorem pL {s:Int} {p:Nat} (h:p∈ei s):tb s p=true:=by simp only [ei,List.mem_filter,List.mem_range] at h; exact h.2
theorem zF {s:Int} {p:Nat} (h8:p < 8) (h:tb s p=true):p∈ei s:=by simp only [ei,List.mem_filter,List.mem_range]; exact ⟨h8,h⟩
end Go.Eng
namespace Go.Eng
open Go
def D0 (t:Tb) (k:Nat):uM:=(t.aP.getD []).getD k default
def Ka (t:Tb) (k:Nat):Rl:=(t.bz.getD []).getD k default
end Go.Eng
namespace Go.Eng
open Go
theorem t5 (t:Tb) (p q:Int):cz t p q=cz t q p:=by
 simp only [cz]
 generalize (ay t p).2=b1
 generalize (ay t q).2=b2
 generalize (ay t p).1=s1
 generalize (ay t q).1=s2
 rw [Bool.and_comm b1 b2]
 congr 1
 ·congr 1
  rw [Bool.eq_iff_iff]; simp only [beq_iff_eq]; exact eq_comm
 ·rw [Bool.eq_iff_iff]; simp only [bne_iff_ne]; exact ne_comm
theorem FA (s:Int):(ei s).Nodup:=List.Pairwise.filter _ List.nodup_range
end Go.Eng
namespace Go.Eng
open Go
theorem pM {g k:Nat} {row:List Int} (h:∀ x∈row,0≤x∧x < 8):∀ i,i≤row.length→(br g k (row.take i)).map Sp.p=row.take i
 | 0,_=>by simp [br]
 | i + 1,hi=>by
  obtain ⟨x,hx⟩:∃ x,row[i]? = some x:=⟨_,List.getElem?_eq_getElem (by omega)⟩
  rw [(iH hx).1 (h x (List.mem_of_getElem? hx)),List.map_append,pM h i (by omega),gW hx]; rfl
theorem D1 {g:Nat} {gr:Gr} (h:∀ x∈gr.a.getD []++gr.b.getD [],0≤x∧x < 8):(cm gr g 2).map Sp.p=gr.a.getD []++gr.b.getD []:=by
 have h1:=pM (g:=g) (k:=0) (row:=gr.a.getD []) (fun x hx=>h x (List.mem_append_left _ hx)) _ (Nat.le_refl _)
 have h2:=pM (g:=g) (k:=1) (row:=gr.b.getD []) (fun x hx=>h x (List.mem_append_right _ hx)) _ (Nat.le_refl _)
 rw [List.take_length] at h1 h2
 have e0:cm gr g 0=[]:=rfl
 rw [dN,dN,e0,List.nil_append,List.map_append]
 show (br g 0 (gr.a.getD [])).map Sp.p++(br g 1 (gr.b.getD [])).map Sp.p=_
 rw [h1,h2]
theorem MI {s:Int} {p:Nat} (hp:p < 8):eN s p=cY s p:=by
 refine u6 (Bh _ _) (oL hp) fun i hi=>?_
 rw [rB hp,lN hp]
 simp [hi]
end Go.Eng
namespace Go.Eng
open Go
theorem xX (n:Int):iG n=min (max n 0) 2147483647:=by
 simp only [iG,lM]; split<;>(try split)<;>omega
theorem sK (a b:Int):B5 a b=min (iG a + iG b) 2147483647:=by
 have ha:=d8 a
 have hb:=d8 b
 rw [B5,xX]; omega
def u9 (l:List Int):Int:=(l.map iG).sum
theorem GK:∀ l,0≤u9 l
 | []=>Int.le_refl _
 | x :: l=>by
  have:=d8 x
  have:=GK l
  simp only [u9,List.map_cons,List.sum_cons] at *
  omega
theorem D2:∀ (l:List Int) (a:Int),0≤a→a≤2147483647→l.foldl B5 a=min (a + u9 l) 2147483647
 | [],a,h0,h1=>by simp only [List.foldl_nil,u9,List.map_nil,List.sum_nil]; omega
 | x :: l,a,h0,h1=>by
  have hx:=d8 x
  have hn:=GK l
  have ha:iG a=a:=by rw [xX]; omega
  rw [List.foldl_cons,D2 l _ (by rw [sK]; have:=d8 a; omega) (by rw [sK]; omega),sK,ha]
  simp only [u9,List.map_cons,List.sum_cons] at *
  omega
theorem lO (l:List Int):jn l=min (u9 l) 2147483647:=by
 rw [jn,D2 l 0 (by omega) (by omega),Int.zero_add]
end Go.Eng
namespace Go.Eng
open Go
theorem Cz (a b:Int):jn [a,b]=B5 a b:=by
 have ha:=d8 a
 have hb:=d8 b
 rw [lO,sK]; simp only [u9,List.map_cons,List.map_nil,List.sum_cons,List.sum_nil]; omega
theorem CA:∀ (l:List Int) (a:Int),0≤a→l.foldl (fun n x=>if x > n then x else n) a=max a (eY l)
 | [],a,h=>by show a=max a 0; omega
 | x :: l,a,h=>by
  have e:eY (x :: l)=max (if x > 0 then x else 0) (eY l):=CA l _ (by show 0≤if x > 0 then x else 0; split<;>omega)
  rw [List.foldl_cons,CA l _ (by split<;>omega),e]
  split<;>split<;>omega
theorem zG (x:Int) (l:List Int):eY (x :: l)=max (max 0 x) (eY l):=by
 have:eY (x :: l)=max (if x > 0 then x else 0) (eY l):=CA l _ (by show 0≤if x > 0 then x else 0; split<;>omega)
 rw [this]; split<;>omega
theorem Ij:eY []=0:=rfl
end Go.Eng
namespace Go.Eng
open Go
def pre (gr:Gr) (i:Nat):List Int:=(List.range i).flatMap fun k=>(gr.row k).getD []
end Go.Eng
namespace Go.Eng
open Go
theorem oN {α:Type} {l:List α} {p:α→Bool} (h:∀ x∈l,p x=false):l.find? p=none:=by
 rw [List.find?_eq_none]; intro x hx; simp [h x hx]
end Go.Eng
namespace Go.Eng
open Go
theorem PL (l:Option (List Int)) (i n:Int):(gF l i n).Fw:=by
 have r1:=aH l (bJ (i + 1)) (n:=4) (by decide) (by decide)
 have r2:=aH l (bJ (i + 2)) (n:=3) (by decide) (by decide)
 have r3:=aH l (bJ (i + 3)) (n:=4) (by decide) (by decide)
 have r4:=aH l (bJ (i + 4)) (n:=6) (by decide) (by decide)
 obtain ⟨a,ha⟩:∃ m:Nat,bR l (bJ (i + 1)) 4=m:=⟨(bR l (bJ (i + 1)) 4).toNat,by omega⟩
 obtain ⟨b,hb⟩:∃ m:Nat,bR l (bJ (i + 2)) 3=m:=⟨(bR l (bJ (i + 2)) 3).toNat,by omega⟩
 obtain ⟨c,hc⟩:∃ m:Nat,bR l (bJ (i + 3)) 4=m:=⟨(bR l (bJ (i + 3)) 4).toNat,by omega⟩
 obtain ⟨d,hd⟩:∃ m:Nat,bR l (bJ (i + 4)) 6=m:=⟨(bR l (bJ (i + 4)) 6).toNat,by omega⟩
 have k1:∀ a:Nat,a < 4→tf a < 2 ^ 64:=by decide
 have k2:∀ a:Nat,a < 4→∀ b:Nat,b < 3→qU a b < 2 ^ 64:=by decide +kernel
 have k3:∀ c:Nat,c < 6→uQ c < 2 ^ 64:=by decide +kernel
 refine ⟨?_,?_,?_,?_⟩
 ·show tf _ < _; rw [ha]; exact k1 a (by omega)
 ·show qU _ _ < _; rw [ha,hb]; exact k2 a (by omega) b (by omega)
 ·show uQ _ < _; rw [hc]; exact k3 c (by omega)
 ·show uQ _ < _; rw [hd]; exact k3 d (by omega)
theorem D3 (l:Option (List Int)):(bO l).Fw:=by
 intro d hd
 have e:(bO l).aP=bW (jD l (cN l).2 (bR l 175 9) (bR l 175 9).toNat):=rfl
 rw [e,bN,jD,List.mem_map] at hd
 obtain ⟨k,_,rfl⟩:=hd
 exact PL _ _ _
end Go.Eng
namespace Go.Eng
open Go
theorem gH {n:Int} (h1:-9223372036854775808≤n) (h2:n≤9223372036854775807):bJ n=n:=aY h1 h2
structure Kb (x:Ph):Prop where
 min:1≤x.min∧x.min≤12
 max:x.min≤x.max∧x.max≤36
 top:x.max≤x.top∧x.top≤50
 KZ:0≤x.KZ∧x.KZ≤8
 step:1≤x.step∧x.step≤6
 dP:10≤x.dP∧x.dP≤13
 red:0≤x.red∧x.red≤4
 walk:(x.walk=0∧x.dQ=0)∨(1≤x.walk∧x.walk≤10∧1≤x.dQ∧x.dQ≤10)
 kH:0≤x.kH∧x.kH≤3∧(x.kH=3→x.walk≠0)
 on:x.on=true
theorem GL (l:Option (List Int)) (i:Int):Kb (iN l i):=by
 have r0:=aH l i (n:=12) (by decide) (by decide)
 have r1:=aH l (bJ (i + 1)) (n:=9) (by decide) (by decide)
 have r2:=aH l (bJ (i + 2)) (n:=6) (by decide) (by decide)
 have r3:=aH l (bJ (i + 3)) (n:=4) (by decide) (by decide)
 have r4:=aH l (bJ (i + 4)) (n:=5) (by decide) (by decide)
 have r5:=aH l (bJ (i + 5)) (n:=25) (by decide) (by decide)
 have r6:=aH l (bJ (i + 6)) (n:=15) (by decide) (by decide)
 have r8:=aH l (bJ (i + 8)) (n:=10) (by decide) (by decide)
 have r9:=aH l (bJ (i + 8)) (n:=97) (by decide) (by decide)
 have ra:=aH l (bJ (i + 9)) (n:=7) (by decide) (by decide)
 have rt:0≤(bR l (bJ (i + 8)) 97).tdiv 10∧(bR l (bJ (i + 8)) 97).tdiv 10≤9:=by
  rw [Int.tdiv_eq_ediv_of_nonneg r9.1]; omega
 have e0:=gH (n:=1 + bR l i 12) (by omega) (by omega)
 have e5:=gH (n:=1 + bR l i 12 + bR l (bJ (i + 5)) 25) (by omega) (by omega)
 have e6:=gH (n:=1 + bR l i 12 + bR l (bJ (i + 5)) 25 + bR l (bJ (i + 6)) 15) (by omega) (by omega)
 have e8:=gH (n:=1 + bR l (bJ (i + 8)) 10) (by omega) (by omega)
 have e9:=gH (n:=(bR l (bJ (i + 8)) 97).tdiv 10) (by omega) (by omega)
 have ea:=gH (n:=1 + (bR l (bJ (i + 8)) 97).tdiv 10) (by omega) (by omega)
 have e2:=gH (n:=1 + bR l (bJ (i + 2)) 6) (by omega) (by omega)
 have e3:=gH (n:=10 + bR l (bJ (i + 3)) 4) (by omega) (by omega)
 refine ⟨?_,?_,?_,?_,?_,?_,?_,?_,?_,rfl⟩<;>simp only [iN,e0,e5,e6,e8,e9,ea,e2,e3]
 ·omega
 ·omega
 ·omega
 ·omega
 ·omega
 ·omega
 ·omega
 ·split
  ·right; omega
  ·left; exact ⟨rfl,rfl⟩
 ·split<;>split<;>omega
theorem GM (l:Option (List Int)):∀ (k i:Nat),k≤8→i < 8→(Ca l k).getD i default=if i < k then iN l (10 + 12 * i) else default
 | 0,i,_,hi=>by rw [Ca,List.getD_eq_getElem?_getD,List.getElem?_replicate,if_pos hi,if_neg (by omega)]; rfl
 | k + 1,i,hk,hi=>by
  have ih:=GM l k i (by omega) hi
  rw [Ca,List.getD_eq_getElem?_getD,List.getElem?_set]
  by_cases e:k=i
  ·subst e
   rw [if_pos rfl,if_pos (by rw [dJ]; omega),if_pos (by omega)]; rfl
  ·rw [if_neg e,← List.getD_eq_getElem?_getD,ih]
   by_cases h2:i < k
   ·rw [if_pos h2,if_pos (by omega)]
   ·rw [if_neg h2,if_neg (by omega)]
def nT (l:Option (List Int)):Nat:=(cN l).2
theorem mG (l:Option (List Int)):1≤nT l∧nT l≤8:=⟨zk l,sE l⟩
theorem UB (l:Option (List Int)) {i:Nat} (hi:i < 8):aO (bO l) i=if i < nT l then iN l (10 + 12 * i) else default:=by
 rw [← Cg]
 exact GM l (nT l) i (mG l).2 hi
theorem zH (l:Option (List Int)) (G:Nat) (hG:G≤8):∀ g,g≤G→1≤g→(aU l G g).2≤8 - (G - g)
 | 0,_,h=>by omega
 | g + 1,h,_=>by
  have ih:(aU l G g).2≤8 - (G - 1 - g):=by
   rcases Nat.eq_zero_or_pos g with rfl|h1
   ·simp [aU]
   ·have:=zH l G hG g (by omega) h1; omega
  simp only [aU,aW,bL]
  omega
theorem zI (l:Option (List Int)) (G:Nat) (hG:G≤8) {g:Nat} (hg:g < G):∃ (gr:Gr) (m:Nat),1≤m∧(aU l G (g + 1)).1=(aU l G g).1++[gr]∧(aU l G (g + 1)).2=(aU l G g).2 + m∧gr.a.getD []++gr.b.getD []=cw (aU l G g).2 m:=by
 have hp:(aU l G g).2 + 1≤bL G g:=by
  unfold bL
  rcases Nat.eq_zero_or_pos g with rfl|h1
  ·simp [aU]; omega
  ·have:=zH l G hG g (by omega) h1; omega
 refine ⟨_,aW (cnt l g 0 0) (aU l G g).2 (bL G g) + aW (cnt l g 1 (aW (cnt l g 0 0) (aU l G g).2 (bL G g))) ((aU l G g).2 + aW (cnt l g 0 0) (aU l G g).2 (bL G g)) (bL G g),?_,rfl,?_,?_⟩
 ·generalize hm0:aW (cnt l g 0 0) (aU l G g).2 (bL G g)=m0
  rcases Nat.eq_zero_or_pos m0 with h0|h0
  ·have hc:1≤cnt l g 1 m0:=by
    simp only [cnt]
    by_cases hz:(bR l (1 + 2 * (g:Int) + ((1:Nat):Int)) 3).toNat=0
    ·rw [if_pos ⟨trivial,hz,h0⟩]; exact Nat.le_refl _
    ·rw [if_neg (fun h=>hz h.2.1)]; omega
   rw [h0] at hc ⊢
   simp only [aW]; omega
  ·omega
 ·simp only [aU]; omega
 ·simp only [bN]
  generalize aW (cnt l g 0 0) (aU l G g).2 (bL G g)=m0
  generalize aW (cnt l g 1 m0) ((aU l G g).2 + m0) (bL G g)=m1
  simp only [cw,List.range_add,List.map_append,List.map_map]
  congr 1
  apply List.map_congr_left
  intro j _
  simp only [Function.comp]; omega
theorem vc {t t':Tb} (h:t.groups=t'.groups) (p q:Int):cz t p q=cz t' p q:=by
 simp only [cz,ay,bt,h]
def Kc (t:Tb) (c:List Int):Prop:=∀ i j:Nat,i < 8→j < 8→tb (th c i) j=true→i≠j∧cz t i j=false
theorem Ik {t:Tb} {l:Option (List Int)} {p q:Nat} {c:List Int} (hc:c.length=8) (hp:p < 8) (hq:q < p) (h:Kc t c):Kc t (ee t l p q c):=by
 unfold ee
 split
 ·rename_i hcl
  have hb:cz t p q=false:=by
   simp only [nq,Bool.and_eq_true,Bool.not_eq_true'] at hcl; exact hcl.1
  have hb2:cz t q p=false:=by rw [t5]; exact hb
  intro i j hi hj
  have hpl:p < c.length:=by omega
  have hql:q < (c.set p (eN (th c p) q)).length:=by simp; omega
  have hqp:¬ q=p:=by omega
  simp only [xW hql,xW hpl,hqp,if_false]
  intro ht
  by_cases h1:i=q
  ·subst h1
   rw [if_pos rfl,rB (by omega)] at ht
   simp only [Bool.and_eq_true,Bool.or_eq_true,decide_eq_true_eq] at ht
   rcases ht.2 with ht|rfl
   ·exact h i j hi hj ht
   ·exact ⟨by omega,hb2⟩
  ·rw [if_neg h1] at ht
   by_cases h3:i=p
   ·subst h3
    rw [if_pos rfl,rB (by omega)] at ht
    simp only [Bool.and_eq_true,Bool.or_eq_true,decide_eq_true_eq] at ht
    rcases ht.2 with ht|rfl
    ·exact h i j hi hj ht
    ·exact ⟨by omega,hb⟩
   ·rw [if_neg h3] at ht
    exact h i j hi hj ht
 ·exact h
theorem D4 {t:Tb} {l:Option (List Int)} {p:Nat} {c:List Int} (hc:c.length=8) (hp:p < 8) (h:Kc t c):∀ q,q≤p→Kc t (gY t l p q c)
 | 0,_=>h
 | q + 1,hq=>Ik (by rw [kq,hc]) hp (by omega) (D4 hc hp h q (by omega))
theorem GN {t:Tb} {l:Option (List Int)}:∀ p,p≤8→Kc t (d4 t l p)
 | 0,_=>by
  intro i j hi hj ht
  have:th (d4 t l 0) i=0:=by
   simp only [th,d4,List.getD_eq_getElem?_getD,List.getElem?_replicate]; split<;>rfl
  rw [this,eu] at ht; cases ht
 | p + 1,hp=>D4 (cK p) (by omega) (GN p (by omega)) p (Nat.le_refl p)
theorem Il (l:Option (List Int)) {p q:Nat} (hp:p < 8) (hq:q < 8) (h:tb (dY (bO l) p) q=true):p≠q∧cz (bO l) p q=false:=by
 have:=GN (t:={ lH with groups:=some (cN l).1 }) (l:=l) (cN l).2 (sE l) p q hp hq h
 refine ⟨this.1,?_⟩
 rw [← this.2]
 exact vc rfl _ _
end Go.Eng
namespace Go.Eng
open Go
theorem zJ (l:Option (List Int)) (G:Nat) (hG:G≤8):∀ g,g≤G→∀ gr∈(aU l G g).1,∀ x∈gr.a.getD []++gr.b.getD [],0≤x∧x < 8
 | 0,_,gr,h=>by simp [aU] at h
 | g + 1,hg,gr,h=>by
  obtain ⟨gr',m,h1,h2,h3,h4⟩:=zI l G hG (g:=g) (by omega)
  rw [h2] at h
  rcases List.mem_append.1 h with h|h
  ·exact zJ l G hG g (by omega) gr h
  ·rw [List.mem_singleton] at h; subst h
   intro x hx
   rw [h4,cw,List.mem_map] at hx
   obtain ⟨j,hj,rfl⟩:=hx
   have:=sD l G (g + 1)
   have:=List.mem_range.1 hj
   omega
structure Ke (n:Nat) (d:uM):Prop where
 phase:0≤d.phase∧d.phase < n
 may:lvl d.on=true∧lvl d.off=true∧zD d.delay=true∧zD d.extend=true
 most:0≤d.maxOn∧d.maxOn≤80∧0≤d.qL∧d.qL≤360
 order:Ny d.off d.on=false
theorem MJ (l:Option (List Int)) (i:Int) {n:Nat} (hn:1≤n) (h8:n≤8):Ke n (gF l i n):=by
 have r0:=aH l i (n:=(n:Int)) (by omega) (by omega)
 have r1:=aH l (bJ (i + 1)) (n:=4) (by decide) (by decide)
 have r2:=aH l (bJ (i + 2)) (n:=3) (by decide) (by decide)
 have r3:=aH l (bJ (i + 3)) (n:=4) (by decide) (by decide)
 have r4:=aH l (bJ (i + 4)) (n:=6) (by decide) (by decide)
 have r6:=aH l (bJ (i + 6)) (n:=60) (by decide) (by decide)
 have r7:=aH l (bJ (i + 7)) (n:=300) (by decide) (by decide)
 obtain ⟨a,ha⟩:∃ m:Nat,bR l (bJ (i + 1)) 4=m:=⟨(bR l (bJ (i + 1)) 4).toNat,by omega⟩
 obtain ⟨b,hb⟩:∃ m:Nat,bR l (bJ (i + 2)) 3=m:=⟨(bR l (bJ (i + 2)) 3).toNat,by omega⟩
 obtain ⟨c,hc⟩:∃ m:Nat,bR l (bJ (i + 3)) 4=m:=⟨(bR l (bJ (i + 3)) 4).toNat,by omega⟩
 obtain ⟨d,hd⟩:∃ m:Nat,bR l (bJ (i + 4)) 6=m:=⟨(bR l (bJ (i + 4)) 6).toNat,by omega⟩
 have k1:∀ a:Nat,a < 4→lvl (tf a)=true:=by decide +kernel
 have k2:∀ a:Nat,a < 4→∀ b:Nat,b < 3→lvl (qU a b)=true∧Ny (qU a b) (tf a)=false:=by decide +kernel
 have k3:∀ c:Nat,c < 6→zD (uQ c)=true:=by decide +kernel
 have e6:=gH (n:=20 + bR l (bJ (i + 6)) 60) (by omega) (by omega)
 have e7:=gH (n:=60 + bR l (bJ (i + 7)) 300) (by omega) (by omega)
 refine ⟨r0,⟨?_,?_,?_,?_⟩,?_,?_⟩
 ·show lvl (tf _)=true; rw [ha]; exact k1 a (by omega)
 ·show lvl (qU _ _)=true; rw [ha,hb]; exact (k2 a (by omega) b (by omega)).1
 ·show zD (uQ _)=true; rw [hc]; exact k3 c (by omega)
 ·show zD (uQ _)=true; rw [hd]; exact k3 d (by omega)
 ·simp only [gF,e6,e7]
  split<;>split<;>omega
 ·show Ny (qU _ _) (tf _)=false; rw [ha,hb]; exact (k2 a (by omega) b (by omega)).2
theorem Te (l:Option (List Int)):((bO l).aP.getD []).length≤8∧∀ d∈(bO l).aP.getD [],Ke (nT l) d:=by
 have e:(bO l).aP=bW (jD l (cN l).2 (bR l 175 9) (bR l 175 9).toNat):=rfl
 have r:=aH l 175 (n:=9) (by decide) (by decide)
 rw [e,bN]
 refine ⟨by rw [wg]; omega,fun d hd=>?_⟩
 rw [jD,List.mem_map] at hd
 obtain ⟨k,_,rfl⟩:=hd
 exact MJ _ _ (mG l).1 (mG l).2
theorem Kf {p:Nat} (hp:p < 8) (i:Nat):tb (Nu [(p:Int)]) i=decide (i=p):=by
 rw [Gw]
 by_cases h:i=p
 ·subst h; simp [hp]
 ·have:¬ (i:Int)=(p:Int):=by omega
  simp [h,this]
theorem zK (t:Tb) {p q:Nat} (hp:p < 8) (hq:q < 8) (i:Nat):tb (lG t p q) i=(decide (i=p) || (cz t p q && decide (i=q))):=by
 unfold lG
 cases cz t p q
 ·rw [if_neg (by simp),Kf hp]; simp
 ·rw [if_pos rfl,rB hq,Kf hp]
  by_cases h8:i < 8
  ·simp [h8]
  ·have h1:¬ i=p:=by omega
   have h2:¬ i=q:=by omega
   simp [h8,h1,h2]
theorem Im (t:Tb) (p q:Int):Can (lG t p q):=by
 unfold lG; split
 ·exact Bh _ _
 ·exact Cw _
theorem GO:∀ n:Nat,n < 9→1≤n→∀ i:Nat,i < 64→tb (bJ (bJ (1 * 2 ^ min (IntKind.u64.wrap (n:Int)).toNat 64) - 1)) i=decide (i < n):=by decide +kernel
def NB (t:Tb) (n:Nat) (s:Int):Prop:=Can s∧(∀ i,i < 8→tb s i=true→i < n)∧∀ i j,i < 8→j < 8→tb s i=true→tb s j=true→i≠j→cz t i j=true
theorem ve {t t':Tb} (hg:t.groups=t'.groups) {n p q:Nat} (h8:n≤8) (hp:p < n) (hq:q < n):NB t n (lG t' p q)∧lG t' p q≠0:=by
 have hb:=vc hg
 refine ⟨⟨Im _ _ _,fun i hi h=>?_,fun i j hi hj h1 h2 hne=>?_⟩,fun e=>?_⟩
 ·rw [zK t' (by omega) (by omega)] at h
  simp only [Bool.or_eq_true,Bool.and_eq_true,decide_eq_true_eq] at h
  omega
 ·rw [zK t' (by omega) (by omega)] at h1 h2
  simp only [Bool.or_eq_true,Bool.and_eq_true,decide_eq_true_eq] at h1 h2
  rw [hb]
  rcases h1 with rfl|⟨hb1,rfl⟩
  ·rcases h2 with rfl | ⟨hb2,rfl⟩
   ·exact absurd rfl hne
   ·exact hb2
  ·rcases h2 with rfl | ⟨hb2,rfl⟩
   ·rw [t5]; exact hb1
   ·exact absurd rfl hne
 ·have:=zK t' (p:=p) (q:=q) (by omega) (by omega) p
  rw [e,eu] at this; simp at this
theorem Kg (t:Tb) (n:Nat):NB t n 0:=⟨⟨by decide,by decide⟩,(fun i _ h=>by rw [eu] at h; cases h),(fun i j _ _ h=>by rw [eu] at h; cases h)⟩
structure CB (t:Tb) (n:Nat) (r:Rl):Prop where
 bars:Can r.bars∧∀ i,i < 64→tb r.bars i=true→i < n∧tb r.gD i=false
 clear:NB t n r.clear
 gD:NB t n r.gD∧r.gD≠0
 exit:NB t n r.exit∧r.exit≠0
 hold:(1≤r.hold∧r.hold≤10∧r.clear≠0)∨(r.hold=0∧r.clear=0)
 VA:0≤r.delay∧r.delay≤3∧1≤r.green∧r.green≤6∧0≤r.dc∧r.dc≤5∧1≤r.stay∧r.stay≤15
 most:r.most=0∨(r.stay≤r.most∧r.most≤44)
 limit:r.delay < r.limit∧r.limit≤10004
theorem MK {t t':Tb} (hg:t.groups=t'.groups) (l:Option (List Int)) (i:Int) {n:Nat} (hn:1≤n) (h8:n≤8):CB t n (nW t' l i n):=by
 have nat:∀ j:Int,∃ m:Nat,bR l j (n:Int)=m∧m < n:=fun j=>by
  have:=aH l j (n:=(n:Int)) (by omega) (by omega)
  exact ⟨(bR l j n).toNat,by omega,by omega⟩
 obtain ⟨a0,e0,k0⟩:=nat i
 obtain ⟨a1,e1,k1⟩:=nat (bJ (i + 1))
 obtain ⟨a2,e2,k2⟩:=nat (bJ (i + 2))
 obtain ⟨a3,e3,k3⟩:=nat (bJ (i + 3))
 obtain ⟨a5,e5,k5⟩:=nat (bJ (i + 5))
 have en:bJ ((n:Int) + 1)=(n:Int) + 1:=gH (by omega) (by omega)
 have r4:=aH l (bJ (i + 4)) (n:=(n:Int) + 1) (by omega) (by omega)
 have r6:=aH l (bJ (i + 6)) (n:=10) (by decide) (by decide)
 have r7:=aH l (bJ (i + 7)) (n:=256) (by decide) (by decide)
 have r8:=aH l (bJ (i + 8)) (n:=4) (by decide) (by decide)
 have r9:=aH l (bJ (i + 9)) (n:=6) (by decide) (by decide)
 have ra:=aH l (bJ (i + 10)) (n:=6) (by decide) (by decide)
 have rb:=aH l (bJ (i + 11)) (n:=15) (by decide) (by decide)
 have rd:=aH l (bJ (i + 13)) (n:=30) (by decide) (by decide)
 have re:=aH l (bJ (i + 14)) (n:=3) (by decide) (by decide)
 have w6:=gH (n:=1 + bR l (bJ (i + 6)) 10) (by omega) (by omega)
 have w9:=gH (n:=1 + bR l (bJ (i + 9)) 6) (by omega) (by omega)
 have wb:=gH (n:=1 + bR l (bJ (i + 11)) 15) (by omega) (by omega)
 have wd:=gH (n:=1 + bR l (bJ (i + 11)) 15 + bR l (bJ (i + 13)) 30) (by omega) (by omega)
 have w8:=gH (n:=bR l (bJ (i + 8)) 4 + 1) (by omega) (by omega)
 have hlim:∃ v:Int,[10000,400,20].getD (bR l (bJ (i + 14)) 3).toNat 0=v∧20≤v∧v≤10000:=by
  have:(bR l (bJ (i + 14)) 3).toNat=0∨(bR l (bJ (i + 14)) 3).toNat=1∨(bR l (bJ (i + 14)) 3).toNat=2:=by omega
  rcases this with h|h|h<;>rw [h]
  ·exact ⟨10000,rfl,by decide,by decide⟩
  ·exact ⟨400,rfl,by decide,by decide⟩
  ·exact ⟨20,rfl,by decide,by decide⟩
 obtain ⟨v,hv,v1,v2⟩:=hlim
 have wl:=gH (n:=bR l (bJ (i + 8)) 4 + 1 + v) (by omega) (by omega)
 have td:=ve hg h8 k0 k1
 have te:=ve hg h8 k2 k3
 refine ⟨?_,?_,?_,?_,?_,?_,?_,?_⟩<;>simp only [nW,e0,e1,e2,e3,e5,en,w6,w9,wb,wd,w8,hv,wl]
 ·have hbits:∀ j,j < 64→tb (bf .i64 (dB .i64 (bR l (bJ (i + 7)) 256) (bJ (bJ (1 * 2 ^ min (IntKind.u64.wrap (n:Int)).toNat 64) - 1))) (lG t' a0 a1)) j=true→j < n∧tb (lG t' a0 a1) j=false:=by
   intro j hj h
   rw [eE _ _ _ hj,wk,GO n (by omega) hn j hj] at h
   simp only [Bool.and_eq_true,Bool.not_eq_true',decide_eq_true_eq] at h
   exact ⟨h.1.2,h.2⟩
  refine ⟨?_,hbits⟩
  have e:bf .i64 (dB .i64 (bR l (bJ (i + 7)) 256) (bJ (bJ (1 * 2 ^ min (IntKind.u64.wrap (n:Int)).toNat 64) - 1))) (lG t' a0 a1)=IntKind.i64.wrap ((bv (dB .i64 (bR l (bJ (i + 7)) 256) (bJ (bJ (1 * 2 ^ min (IntKind.u64.wrap (n:Int)).toNat 64) - 1))) &&& ~~~ bv (lG t' a0 a1)).toNat:Int):=rfl
  rw [e]
  refine u7 fun j h1 h2=>?_
  have h3:=eE (dB .i64 (bR l (bJ (i + 7)) 256) (bJ (bJ (1 * 2 ^ min (IntKind.u64.wrap (n:Int)).toNat 64) - 1))) (lG t' a0 a1) j h2
  have h4:=GO n (by omega) hn j h2
  have h5:¬ j < n:=by omega
  have h6:=wk (bR l (bJ (i + 7)) 256) (bJ (bJ (1 * 2 ^ min (IntKind.u64.wrap (n:Int)).toNat 64) - 1)) j
  rw [h4] at h6
  simp only [h5,decide_false,Bool.and_false] at h6
  simp only [tb] at h6
  rw [BitVec.getLsbD_and,h6]; rfl
 ·split
  ·rename_i hp
   obtain ⟨p,hpn⟩:∃ p:Nat,bR l (bJ (i + 4)) ((n:Int) + 1)=p:=⟨(bR l (bJ (i + 4)) ((n:Int) + 1)).toNat,by omega⟩
   rw [hpn] at hp ⊢
   exact (ve hg h8 (by omega) k5).1
  ·exact Kg _ _
 ·exact td
 ·exact te
 ·split
  ·rename_i hp
   obtain ⟨p,hpn⟩:∃ p:Nat,bR l (bJ (i + 4)) ((n:Int) + 1)=p:=⟨(bR l (bJ (i + 4)) ((n:Int) + 1)).toNat,by omega⟩
   rw [hpn] at hp ⊢
   exact .inl ⟨by omega,by omega,(ve hg h8 (by omega) k5).2⟩
  ·exact .inr ⟨rfl,rfl⟩
 ·omega
 ·split
  ·right; omega
  ·left; rfl
 ·omega
theorem PM (l:Option (List Int)):((bO l).bz.getD []).length≤2∧∀ r∈(bO l).bz.getD [],CB (bO l) (nT l) r:=by
 have e:(bO l).bz=bW (ef { lH with groups:=some (cN l).1 } l (cN l).2 ((bR l 176 4).tmod 3) ((bR l 176 4).tmod 3).toNat):=rfl
 have h:=Int.tmod_lt_of_pos (bR l 176 4) (b:=3) (by decide)
 rw [e,bN]
 refine ⟨by rw [tP]; omega,fun d hd=>?_⟩
 rw [ef,List.mem_map] at hd
 obtain ⟨k,_,rfl⟩:=hd
 exact MK rfl _ _ (mG l).1 (mG l).2
end Go.Eng
namespace Go.Eng
open Go
theorem Kh (a b:Nat):cw 0 (a + b)=cw 0 a++cw a b:=by
 simp only [cw,List.range_add,List.map_append,List.map_map]
 congr 1
 apply List.map_congr_left
 intro j _
 simp only [Function.comp]; omega
theorem Bk (l:Option (List Int)) (G:Nat) (hG:G≤8):∀ g,g≤G→∀ L:List Gr,(∀ (j:Nat) (gr:Gr),(aU l G g).1[j]? = some gr→L[j]? = some gr)→(cg L g).map Sp.p=cw 0 (aU l G g).2
 | 0,_,L,_=>by simp [cg,aU,cw]
 | g + 1,hg,L,hL=>by
  obtain ⟨gr,m,h1,h2,h3,h4⟩:=zI l G hG (g:=g) (by omega)
  have hlen:=mC l G g
  have hat:L[g]? = some gr:=hL g gr (by rw [h2,List.getElem?_append_right (by omega),hlen]; simp)
  have ih:=Bk l G hG g (by omega) L fun j gr' hj=>hL j gr' (by rw [h2,List.getElem?_append_left (List.getElem?_eq_some_iff.1 hj).1,hj])
  have hel:=zJ l G hG (g + 1) hg gr (by rw [h2]; simp)
  rw [gX hat,List.map_append,ih,D1 hel,h4,h3,Kh]
theorem CC (l:Option (List Int)):(bt (bO l)).map Sp.p=cw 0 (nT l):=by
 have hG:=pI l
 have e:(bO l).groups.getD []=(aU l (eG l) (eG l)).1:=rfl
 rw [bt,e,mC]
 exact Bk l _ (by omega) _ (Nat.le_refl _) _ fun _ _ h=>h
end Go.Eng
namespace Go.Eng
open Go
section
open Z
def oO:List AV:=[.dW,.dW,.dW,.dW,.dW,.dW,.dW,.dW,.dW,.dW,.dW,.dW]
def pN:List AV:=[.bool false,.int .i64 0,.int .i64 0,.int .i64 0,.int .i64 0,.int .i64 0,.int .i64 0,.int .i64 0,.int .i64 0,.int .i64 0,.int .i64 0,.bool false,.bool false,.bool false,.int .i64 0,.int .i64 0,.int .i64 0,.int .i64 0,.int .i64 0,.int .i64 0,.int .i64 0,.int .i64 0,.int .i64 0,.int .i64 0,.bool false,.bool false,.bool false,.int .i64 0,.int .i64 0,.int .i64 0,.int .i64 0,.int .i64 0,.int .i64 0,.int .i64 0,.int .i64 0,.int .i64 0,.int .i64 0,.bool false,.bool false,.bool false,.int .i64 0,.int .i64 0,.int .i64 0,.int .i64 0,.int .i64 0,.int .i64 0,.int .i64 0,.int .i64 0,.int .i64 0,.int .i64 0,.bool false,.bool false,.bool false,.int .i64 0,.int .i64 0,.int .i64 0,.int .i64 0,.int .i64 0,.int .i64 0,.int .i64 0,.int .i64 0,.int .i64 0,.int .i64 0,.bool false,.bool false,.bool false,.int .i64 0,.int .i64 0,.int .i64 0,.int .i64 0,.int .i64 0,.int .i64 0,.int .i64 0,.int .i64 0,.int .i64 0,.int .i64 0,.bool false,.bool false,.bool false,.int .i64 0,.int .i64 0,.int .i64 0,.int .i64 0,.int .i64 0,.int .i64 0,.int .i64 0,.int .i64 0,.int .i64 0,.int .i64 0,.bool false,.bool false,.bool false,.int .i64 0,.int .i64 0,.int .i64 0,.int .i64 0,.int .i64 0,.int .i64 0,.int .i64 0,.int .i64 0,.int .i64 0,.int .i64 0,.bool false,.bool false,.bw,.int .i64 0,.int .i64 0,.int .i64 0,.int .i64 0,.int .i64 0,.int .i64 0,.int .i64 0,.int .i64 0,.bw,.bw,.bw,.int .i64 0,.int .i64 0,.int .i64 0,.int .i64 0,.int .i64 0,.int .i64 0,.int .i64 0,.int .i64 0,.int .i64 0,.int .i64 0,.int .i64 0,.int .i64 0,.int .i64 0,.int .i64 0,.int .i64 0,.int .i64 0,.int .i64 0,.int .i64 0,.int .i64 0,.int .i64 0,.int .i64 0,.int .i64 0,.int .i64 0,.int .i64 0,.int .i64 0,.int .i64 0,.int .i64 0,.int .i64 0,.int .i64 0,.int .i64 0,.bool false,.bool false,.int .i64 0,.int .i64 0,.int .i64 0,.int .i64 0,.int .i64 0,.int .i64 0,.int .i64 0,.int .i64 0,.int .i64 0,.int .i64 0,.bool false,.bool false,.int .i64 0,.int .i64 0,.int .i64 0,.int .i64 0,.int .i64 0,.int .i64 0,.int .i64 0,.int .i64 0,.int .i64 0,.int .i64 0,.bool false,.bool false,.int .i64 0,.int .i64 0,.int .i64 0,.int .i64 0,.int .i64 0,.int .i64 0,.int .i64 0,.int .i64 0,.int .i64 0,.int .i64 0,.bool false,.bool false,.int .i64 0,.int .i64 0,.int .i64 0,.int .i64 0,.int .i64 0,.int .i64 0,.int .i64 0,.int .i64 0,.int .i64 0,.int .i64 0,.bool false,.bool false,.int .i64 0,.int .i64 0,.int .i64 0,.int .i64 0,.int .i64 0,.int .i64 0,.int .i64 0,.int .i64 0,.int .i64 0,.int .i64 0,.bool false,.bool false,.int .i64 0,.int .i64 0,.int .i64 0,.int .i64 0,.int .i64 0,.int .i64 0,.int .i64 0,.int .i64 0,.int .i64 0,.int .i64 0,.bool false,.bool false,.int .i64 0,.int .i64 0,.int .i64 0,.int .i64 0,.int .i64 0,.int .i64 0,.int .i64 0,.int .i64 0,.int .i64 0,.int .i64 0,.bool false,.bool false,.int .i64 0,.int .i64 0,.int .i64 0]
def kY (g0 g1 g2 g3 g4 g5:Nat):bY:=⟨147,[.cell 8 (some 8),.cell 9 (some 5)],r [o 4 (w 0),o 5 (w 1),o 7 (w 3),o 8 (.alloc [i 0,i 0,i 0,i 0,i 0,i 0,i 0,i 0]),o 9 (.alloc [i 0,i 0,i 0,F,F])] (r [o 16 (L 4 131),o 17 (L 4 131),o 18 (L 5 8),M 19 2,o 20 (.call g0 [t 17,t 18,t 19]),o 21 (L 7 96),o 22 (.build pN [(0,131,t 16),(131,8,t 20),(139,96,t 21)]),o 23 (w 22),M 10 23] (r [o 24 (.call g1 []),o 11 (.alloc oO),n (s 11 24 12)] (j (r [M 25 10,o 26 (.nc (t 25)),o 27 (f 26 131),o 28 (f 27 0),o 29 (l 28),o 30 (bb .lss 29 (i 0)),M 31 30,q 32 (m 10) 31,q 33 (.nc (t 32)) 31,q 34 (f 33 131) 31,q 35 (f 34 0) 31,q 36 (l 35) 31,q 37 (bb .geq 36 (i 6)) 31,o 38 (Q 31 37)] (c 38 (R [M 39 10,o 40 (.nc (t 39)),o 41 (f 40 131),o 42 (f 41 0),n (ss 42 (i 0) 1)]) z)) (r [M 43 10,o 44 (.nc (t 43)),o 45 (f 44 131),o 46 (f 45 0),o 47 (l 46),M 12 47] (j (r [o 48 (L 4 131),M 49 10,o 50 (.nc (t 49)),o 51 (f 50 131),o 52 (L 51 8),o 53 (.call g2 [t 48,t 52]),M 13 53] (r [M 54 13,o 55 (bb .geq 54 (i 0)),M 56 55,p 57 (m 12) 56,p 58 (bb .eql 57 (i 0)) 56,p 59 (m 58) 56,q 60 (m 12) 59,q 61 (bb .eql 60 (i 5)) 59,p 62 (Q 59 61) 56,p 63 (m 62) 56,q 64 (m 13) 63,q 65 (m 10) 63,q 66 (.nc (t 65)) 63,q 67 (f 66 131) 63,q 68 (f 67 1) 63,q 69 (l 68) 63,q 70 (b .lss 64 69) 63,p 71 (Q 63 70) 56,o 72 (P 56 71)] (c 72 (r [M 73 10,M 74 10,M 75 10,M 76 13,o 77 (.nc (t 73)),o 78 (f 77 131),o 79 (f 78 0),n (ss 79 (i 1) 1),o 80 (.nc (t 74)),o 81 (f 80 131),o 82 (f 81 1),n (s 82 76 1),o 83 (.nc (t 75)),o 84 (f 83 131),o 85 (f 84 2),n (ss 85 (i 0) 1)] (.seq (.nB [M 86 10,o 87 (.nc (t 86)),o 88 (f 87 131),o 89 (L 88 8),M 90 10,o 91 (.bT g3 [t 90]),n (s 8 89 8),n (s 9 91 5)] [(3,5)]) y)) z))) (r [M 92 12,o 93 (A 11 92 6 2),o 94 (f 93 0),o 95 (l 94),M 96 10,o 97 (.gz (t 95) [t 96]),M 14 97] (j (r [M 98 12,o 99 (bb .eql 98 (i 5)),M 100 99,p 101 (m 14) 100,p 102 (bb .eql 101 (i 0)) 100,o 103 (P 100 102)] (c 103 (r [M 104 10,o 105 (.bT g4 [t 104]),o 15 (.alloc [i 0,i 0,i 0,F,F]),n (s 15 105 5)] (r [M 106 10,M 107 10,M 108 10,o 109 (.nc (t 106)),o 110 (f 109 131),o 111 (f 110 0),n (ss 111 (i 0) 1),o 112 (.nc (t 107)),o 113 (f 112 131),o 114 (f 113 1),n (ss 114 (i 0) 1),o 115 (.nc (t 108)),o 116 (f 115 131),o 117 (f 116 2),n (ss 117 (i 0) 1)] (.seq (.nB [M 118 10,o 119 (.nc (t 118)),o 120 (f 119 131),o 121 (L 120 8),o 122 (L 15 5),n (s 8 121 8),n (s 9 122 5)] [(4,5)]) y))) z)) (r [M 123 10,M 124 14,o 125 (.nc (t 123)),o 126 (f 125 131),o 127 (f 126 0),n (s 127 124 1)] (r [M 128 10,M 129 10,M 130 14,M 131 12,o 132 (b .neq 130 131),o 133 (.bT g5 [t 129,t 132]),o 134 (.nc (t 128)),o 135 (f 134 131),o 136 (f 135 2),n (s 136 133 1)] (.seq (.nB [M 137 10,o 138 (.nc (t 137)),o 139 (f 138 131),o 140 (L 139 8),M 141 14,o 142 (A 11 141 6 2),o 143 (f 142 1),o 144 (l 143),M 145 10,o 146 (.gz (t 144) [t 145]),n (s 8 140 8),n (s 9 146 5)] [(3,9)]) y))))))))))⟩
def jS (g0:Nat):bY:=⟨32,[.tmp 4],r [o 2 (w 0),o 3 (w 1),V 4 (i 0)] (j (r [o 7 (L 2 131),o 8 (.call g0 [t 7]),o 9 (h 8),V 10 (i 0)] (u 0 (.loop (r [o 11 (b .lss 10 9)] (j (c 11 z (.exit 0)) (j (u 1 (r [M 12 10,o 13 (a 8 10 11),o 14 (L 13 11),o 6 (.alloc bK),M 5 12,n (s 6 14 11)] (r [M 15 5,o 16 (f 3 3),o 17 (A 16 15 4 1),o 18 (l 17),o 19 (f 6 4),o 20 (l 19),o 21 (b .gtr 18 20),M 22 21,p 23 (f 3 7) 22,p 24 (l 23) 22,p 25 (m 5) 22,p 26 (b .shr 24 25) 22,p 27 (bb .and 26 (i 1)) 22,p 28 (bb .eql 27 (i 0)) 22,o 29 (P 22 28)] (c 29 (r [M 30 5,M 4 30] y) z)))) (R [o 31 (bb .add 10 (i 1)),M 10 31]))))))) (r [V 4 (i (-1))] y))⟩
def oa (g0 g1:Nat):bY:=⟨17,[.tmp 2],r [o 1 (w 0),V 2 (i 0)] (r [V 3 (i 0)] (j (r [V 4 (i 0)] (u 0 (.loop (j (r [M 5 4,o 6 (bb .lss 5 (i 8))] (c 6 z (.exit 0))) (j (u 1 (r [M 9 4,o 10 (A 1 9 8 12),o 11 (L 10 12),o 12 (.call g0 [t 11])] (c 12 (R [M 13 3,M 14 4,o 15 (.call g1 [t 13,t 14]),M 3 15]) z))) (R [M 7 4,o 8 (bb .add 7 (i 1)),M 4 8])))))) (r [M 16 3,M 2 16] y)))⟩
def jT (g0:Nat):bY:=⟨43,[.cell 6 (some 8)],r [o 3 (w 0),o 4 (w 1),o 6 (.alloc [i 0,i 0,i 0,i 0,i 0,i 0,i 0,i 0])] (r [V 7 (i 0)] (r [o 8 (.alloc [i 0,i 0,i 0,i 0])] (j (r [o 10 (L 3 131),o 11 (.call g0 [t 10]),o 12 (h 11),V 13 (i 0)] (u 0 (.loop (r [o 14 (b .lss 13 12)] (j (c 14 z (.exit 0)) (j (u 1 (r [M 15 13,M 9 15] (r [M 16 2,M 17 9,o 18 (b .shr 16 17),o 19 (bb .and 18 (i 1)),o 20 (bb .eql 19 (i 1))] (c 20 (r [M 21 7,M 22 9,o 23 (.bin .shl (k (i 1)) (t 22)),o 24 (b .or 21 23),M 7 24] (R [M 25 9,M 26 9,o 27 (f 4 3),o 28 (A 27 26 4 1),o 29 (l 28),o 30 (.mm true [t 29,k (i 0)]),o 31 (.mm false [t 30,k (i 2147483646)]),o 32 (bb .add 31 (i 1)),o 33 (A 8 25 4 1),n (s 33 32 1)])) z)))) (R [o 34 (bb .add 13 (i 1)),M 13 34]))))))) (r [o 35 (L 8 4),o 36 (f 4 7),o 37 (l 36),M 38 7,o 39 (b .and 37 38),o 40 (f 4 3),n (s 40 35 4),o 41 (f 4 7),n (s 41 39 1)] (r [o 42 (L 4 8),n (s 6 42 8)] y)))))⟩
def jt (g0 g1 g2 g3 g4 g5 g6 g7 g8 g9 g10 g11:Nat):bY:=⟨8,[.cell 0 (some 12)],r [o 0 (.alloc oO)] (r [o 1 (.build [.dW,.dW] [(0,1,k (.fn (.func g0) [] [])),(1,1,k (.fn (.func g1) [] []))]),o 2 (.build [.dW,.dW] [(0,1,k (.fn (.func g2) [] [])),(1,1,k (.fn (.func g3) [] []))]),o 3 (.build [.dW,.dW] [(0,1,k (.fn (.func g4) [] [])),(1,1,k (.fn (.func g5) [] []))]),o 4 (.build [.dW,.dW] [(0,1,k (.fn (.func g6) [] [])),(1,1,k (.fn (.func g7) [] []))]),o 5 (.build [.dW,.dW] [(0,1,k (.fn (.func g8) [] [])),(1,1,k (.fn (.func g9) [] []))]),o 6 (.build [.dW,.dW] [(0,1,k (.fn (.func g10) [] [])),(1,1,k (.fn (.func g11) [] []))]),o 7 (.build oO [(0,2,t 1),(2,2,t 2),(4,2,t 3),(6,2,t 4),(8,2,t 5),(10,2,t 6)]),n (s 0 7 12)] y)⟩
def gI (g0 g1 g2:Nat):bY:=⟨10,[.cell 2 (some 5)],r [o 2 (.alloc [i 0,i 0,i 0,F,F])] (r [M 3 0,M 4 0,o 5 (.bT g0 [t 4]),M 6 0,o 7 (.bT g1 [t 6]),o 8 (.BG (t 7) 5 none),o 9 (.bT g2 [t 3,t 5,t 8]),n (s 2 9 5)] y)⟩
def ij (g0 g1 g2:Nat):bY:=⟨9,[.cell 2 (some 5)],r [o 2 (.alloc [i 0,i 0,i 0,F,F])] (r [M 3 0,M 4 0,o 5 (.bT g0 [t 4]),o 6 (.BG (t 5) 3 none),o 7 (.bT g1 [t 3,t 6,k (.fn (.func g2) [] [])]),o 8 (.build [i 0,i 0,i 0,F,F] [(4,1,k (T)),(0,1,t 7)]),n (s 2 8 5)] y)⟩
def iq (g0 g1 g2:Nat):bY:=⟨53,[.tmp 4],r [V 4 (i 0)] (j (u 0 (j (r [M 6 1,M 5 6] (c 5 z (R [M 7 0,o 8 (.nc (t 7)),o 9 (f 8 131),o 10 (f 9 0),o 11 (l 10),o 12 (bb .eql 11 (i 0)),M 5 12]))) (c 5 (r [V 4 (i 0)] y) (j (r [M 14 0,o 15 (.nc (t 14)),o 16 (f 15 131),o 17 (f 16 0),o 18 (l 17),o 19 (bb .eql 18 (i 2)),M 20 19,p 21 (m 0) 20,p 22 (m 0) 20,p 23 (.bT g0 [t 22]) 20,p 24 (.BG (t 23) 1 none) 20,p 25 (.bT g1 [t 21,t 24]) 20,p 26 (.un .not (t 25)) 20,o 27 (P 20 26),M 13 27] (c 13 z (R [M 28 0,o 29 (.nc (t 28)),o 30 (f 29 131),o 31 (f 30 0),o 32 (l 31),o 33 (bb .eql 32 (i 4)),M 34 33,p 35 (m 0) 34,p 36 (m 0) 34,p 37 (.bT g0 [t 36]) 34,p 38 (.BG (t 37) 2 none) 34,p 39 (.bT g1 [t 35,t 38]) 34,p 40 (.un .not (t 39)) 34,o 41 (P 34 40),M 13 41]))) (c 13 (r [M 42 0,o 43 (.nc (t 42)),o 44 (f 43 131),o 45 (f 44 2),o 46 (l 45),M 4 46] y) z))))) (r [M 47 0,o 48 (.nc (t 47)),o 49 (f 48 131),o 50 (f 49 2),o 51 (l 50),o 52 (.call g2 [t 51]),M 4 52] y))⟩
def jU:bY:=⟨10,[.tmp 2],r [o 1 (w 0),V 2 .bw] (r [o 3 (f 1 114),o 4 (l 3),o 5 (f 1 114),o 6 (l 5),o 7 (h 6),o 8 (.mm false [t 7,k (i 4)]),o 9 (.NJ 11 (t 4) none (some (t 8))),M 2 9] y)⟩
def pO:bY:=⟨16,[.tmp 2],r [o 1 (w 0),V 2 (F)] (r [o 3 (f 1 0),o 4 (l 3),o 5 (bb .neq 4 (i 1)),M 6 5,p 7 (f 1 0) 6,p 8 (l 7) 6,p 9 (bb .neq 8 (i 2)) 6,o 10 (P 6 9),M 11 10,p 12 (f 1 0) 11,p 13 (l 12) 11,p 14 (bb .neq 13 (i 3)) 11,o 15 (P 11 14),M 2 15] y)⟩
def ir:bY:=⟨3,[.tmp 2],r [V 2 (i 0)] (r [V 2 (i 0)] y)⟩
def iu:bY:=⟨4,[.cell 2 (some 5)],r [o 2 (.alloc [i 0,i 0,i 0,F,F])] (r [o 3 (.build [i 0,i 0,i 0,F,F] [(3,1,k (T))]),n (s 2 3 5)] y)⟩
def gj (g0 g1 g2:Nat):bY:=⟨15,[.tmp 2],r [V 2 (i 0)] (j (u 0 (r [M 4 0,M 5 0,o 6 (.bT g0 [t 5]),o 7 (.bin .andNot (k (i 255)) (t 6)),o 8 (.bT g1 [t 4,t 7]),o 9 (.un .not (t 8)),M 3 9] (c 3 (r [V 2 (i 1)] y) (r [M 11 0,o 12 (.bT g2 [t 11]),o 13 (.BG (t 12) 1 none),o 14 (bb .neq 13 (i 0)),M 10 14] (c 10 (r [V 2 (i 2)] y) z))))) (r [V 2 (i 4)] y))⟩
def gk (g0:Nat):bY:=⟨12,[.tmp 2],r [V 2 (i 0)] (j (.seq (.nB [M 3 0,o 4 (.nc (t 3)),o 5 (f 4 131),o 6 (f 5 2),o 7 (l 6),M 8 0,o 9 (.bT g0 [t 8]),o 10 (.BG (t 9) 7 none),o 11 (b .geq 7 10)] [(4,6)]) (c 11 (r [V 2 (i 3)] y) z)) (r [V 2 (i 2)] y))⟩
def gJ (g0 g1:Nat):bY:=⟨9,[.cell 2 (some 5)],r [o 2 (.alloc [i 0,i 0,i 0,F,F])] (r [M 3 0,M 4 0,o 5 (.bT g0 [t 4]),o 6 (.BG (t 5) 1 none),o 7 (.bT g1 [t 3,t 6]),o 8 (.build [i 0,i 0,i 0,F,F] [(0,1,t 7)]),n (s 2 8 5)] y)⟩
def eO (g0 g1:Nat):bY:=⟨9,[.tmp 2],r [V 2 (i 0)] (j (r [M 3 0,M 4 0,o 5 (.bT g0 [t 4]),o 6 (.BG (t 5) 2 none),o 7 (.bin .andNot (k (i 255)) (t 6)),o 8 (.bT g1 [t 3,t 7])] (c 8 (r [V 2 (i 4)] y) z)) (r [V 2 (i 3)] y))⟩
def fm (g0 g1 g2 g3:Nat):bY:=⟨18,[.cell 2 (some 5)],r [o 1 (w 0),o 2 (.alloc [i 0,i 0,i 0,F,F])] (.seq (.nB [o 4 (l 1),o 5 (l 1),o 6 (.bT g0 [t 5]),o 7 (.BG (t 6) 2 none),o 8 (.bT g1 [t 4,t 7,k (i 0)]),o 3 (.alloc [i 0,i 0,i 0,F,F]),n (s 3 8 5)] [(0,2)]) (.seq (.nB [o 9 (l 1),o 10 (l 1),o 11 (.bT g0 [t 10]),o 12 (.BG (t 11) 2 none),o 13 (.bin .andNot (k (i 255)) (t 12)),o 14 (.vM (.func g2) [] [t 1]),o 15 (.bT g3 [t 9,t 13,t 14]),o 16 (f 3 1),n (s 16 15 1)] [(0,2),(0,5),(1,5),(2,5),(3,5),(4,5)]) (r [o 17 (L 3 5),n (s 2 17 5)] y)))⟩
def gl (g0 g1:Nat):bY:=⟨100,[.tmp 2],r [V 2 (i 0)] (.seq (.nB [M 7 0,o 8 (.bT g0 [t 7]),M 9 0,o 10 (.nc (t 9)),o 11 (f 10 131),o 12 (f 11 1),o 13 (l 12),o 14 (bb .geq 13 (i 0)),M 15 14,p 16 (m 0) 15,p 17 (.nc (t 16)) 15,p 18 (f 17 131) 15,p 19 (f 18 1) 15,p 20 (l 19) 15,p 21 (bb .lss 20 (i 4)) 15,o 22 (P 15 21),M 23 22,p 24 (m 0) 23,p 25 (m 0) 23,p 26 (.nc (t 25)) 23,p 27 (f 26 131) 23,p 28 (f 27 1) 23,p 29 (l 28) 23,p 30 (.nc (t 24)) 23,p 31 (f 30 131) 23,p 32 (f 31 3) 23,p 33 (A 32 29 4 1) 23,p 34 (l 33) 23,p 35 (bb .gtr 34 (i 0)) 23,o 36 (P 23 35),o 3 (.alloc bK),n (s 3 8 11),M 4 36] [(1,6),(1,22),(1,27),(6,31),(13,31),(22,31),(27,31)]) (r [o 37 (f 3 9),o 38 (l 37),o 39 (bb .gtr 38 (i 0)),M 40 39,p 41 (m 0) 40,p 42 (.nc (t 41)) 40,p 43 (f 42 131) 40,p 44 (f 43 2) 40,p 45 (l 44) 40,p 46 (f 3 9) 40,p 47 (l 46) 40,p 48 (b .geq 45 47) 40,o 49 (P 40 48),M 5 49] (j (r [M 50 5,o 51 (.un .not (t 50)),M 52 51,p 53 (m 4) 52,p 54 (m 53) 52,q 55 (m 0) 54,q 56 (.nc (t 55)) 54,q 57 (f 56 131) 54,q 58 (f 57 2) 54,q 59 (l 58) 54,q 60 (f 3 8) 54,q 61 (l 60) 54,q 62 (b .lss 59 61) 54,p 63 (Q 54 62) 52,o 64 (P 52 63)] (c 64 (r [V 2 (i 4)] y) z)) (j (r [M 65 5,M 66 65,p 67 (m 4) 66,o 68 (P 66 67)] (c 68 (R [M 69 0,o 70 (.nc (t 69)),o 71 (f 70 131),o 72 (f 71 7),o 73 (l 72),M 74 0,o 75 (.nc (t 74)),o 76 (f 75 131),o 77 (f 76 1),o 78 (l 77),o 79 (.bin .shl (k (i 1)) (t 78)),o 80 (b .or 73 79),o 81 (.nc (t 69)),o 82 (f 81 131),o 83 (f 82 7),n (s 83 80 1)]) z)) (j (r [M 84 0,o 85 (.nc (t 84)),o 86 (f 85 0),o 87 (L 86 131),M 88 0,o 89 (.nc (t 88)),o 90 (f 89 131),o 91 (L 90 8),o 92 (.call g1 [t 87,t 91]),M 6 92] (r [M 93 6,o 94 (bb .geq 93 (i 0))] (c 94 (r [M 95 0,M 96 6,o 97 (.nc (t 95)),o 98 (f 97 131),o 99 (f 98 1),n (s 99 96 1)] (r [V 2 (i 1)] y)) z))) (r [V 2 (i 5)] y))))))⟩
def gK (g0 g1:Nat):bY:=⟨9,[.cell 2 (some 5)],r [o 2 (.alloc [i 0,i 0,i 0,F,F])] (r [M 3 0,M 4 0,o 5 (.bT g0 [t 4]),o 6 (.BG (t 5) 2 none),o 7 (.bT g1 [t 3,t 6]),o 8 (.build [i 0,i 0,i 0,F,F] [(0,1,t 7)]),n (s 2 8 5)] y)⟩
def gm (g0 g1 g2 g3:Nat):bY:=⟨22,[.tmp 2],r [o 1 (w 0),V 2 (i 0)] (r [o 5 (l 1),o 6 (.bT g0 [t 5]),o 7 (.BG (t 6) 3 none),M 3 7] (r [o 8 (l 1),M 9 3,o 10 (.vM (.func g1) [] [t 1]),o 11 (.bT g2 [t 8,t 9,t 10]),M 4 11] (j (r [o 12 (l 1),M 13 3,o 14 (.bin .andNot (k (i 255)) (t 13)),o 15 (.bT g3 [t 12,t 14]),M 16 15,p 17 (m 4) 16,p 18 (m 3) 16,p 19 (bb .and 18 (i 255)) 16,p 20 (b .eql 17 19) 16,o 21 (P 16 20)] (c 21 (r [V 2 (i 0)] y) z)) (r [V 2 (i 5)] y))))⟩
def gL (g0 g1 g2:Nat):bY:=⟨11,[.cell 2 (some 5)],r [o 1 (w 0),o 2 (.alloc [i 0,i 0,i 0,F,F])] (.seq (.nB [o 3 (l 1),o 4 (l 1),o 5 (.bT g0 [t 4]),o 6 (.BG (t 5) 3 none),o 7 (.bin .andNot (k (i 255)) (t 6)),o 8 (.vM (.func g1) [] [t 1]),o 9 (.bT g2 [t 3,t 7,t 8]),o 10 (.build [i 0,i 0,i 0,F,F] [(1,1,t 9)]),n (s 2 10 5)] [(0,2),(0,5),(1,5),(2,5),(3,5),(4,5)]) y)⟩
def iw (g0 g1 g2:Nat):bY:=⟨17,[.cell 6 (some 5)],r [o 3 (w 0),o 5 (w 2),o 6 (.alloc [i 0,i 0,i 0,F,F])] (.seq (.nB [o 7 (l 3),M 8 1,o 9 (.bin .andNot (k (i 255)) (t 8)),o 10 (.vM (.func g0) [] [t 5,t 3]),o 11 (.bT g1 [t 7,t 9,t 10]),o 12 (l 3),M 13 1,o 14 (.bin .andNot (k (i 255)) (t 13)),o 15 (.bT g1 [t 12,t 14,k (.fn (.func g2) [] [])]),o 16 (.build [i 0,i 0,i 0,F,F] [(1,1,t 11),(2,1,t 15)]),n (s 6 16 5)] [(0,3),(1,3),(2,3),(3,5),(3,6),(3,7),(4,5)]) y)⟩
def gn (g0:Nat):bY:=⟨13,[.tmp 2],r [V 2 (i 0)] (r [M 4 0,o 5 (.bT g0 [t 4]),o 3 (.alloc bK),n (s 3 5 11)] (j (r [o 6 (f 3 1),o 7 (l 6),o 8 (bb .neq 7 (i 0))] (c 8 (r [o 9 (f 3 1),o 10 (l 9),M 2 10] y) z)) (r [o 11 (f 3 2),o 12 (l 11),M 2 12] y)))⟩
def iy (g0:Nat):bY:=⟨34,[.cell 2 (some 11)],r [o 2 (.alloc bK)] (j (r [M 4 0,o 5 (.nc (t 4)),o 6 (f 5 0),o 7 (L 6 131),o 8 (.call g0 [t 7]),M 3 8] (r [M 9 0,o 10 (.nc (t 9)),o 11 (f 10 131),o 12 (f 11 1),o 13 (l 12),o 14 (bb .geq 13 (i 0)),M 15 14,p 16 (m 0) 15,p 17 (.nc (t 16)) 15,p 18 (f 17 131) 15,p 19 (f 18 1) 15,p 20 (l 19) 15,p 21 (m 3) 15,p 22 (h 21) 15,p 23 (b .lss 20 22) 15,o 24 (P 15 23)] (c 24 (r [M 25 3,M 26 0,o 27 (.nc (t 26)),o 28 (f 27 131),o 29 (f 28 1),o 30 (l 29),o 31 (a 25 30 11),o 32 (L 31 11),n (s 2 32 11)] y) z))) (r [o 33 (.build bK []),n (s 2 33 11)] y))⟩
def gM (g0 g1:Nat):bY:=⟨25,[.tmp 6],r [o 3 (w 0),o 5 (w 2),V 6 (i 0)] (r [o 7 (.alloc [i 0]),n (ss 7 (i 0) 1)] (j (r [M 9 1,o 10 (.call g0 [t 9])] (u 0 (.mW (t 10) [11] [11,8,12,13,14,15,16,17,18,19,20,21,22,23] (R [M 8 11]) (u 1 (r [o 12 (l 5),M 13 8,o 14 (l 3),M 15 8,o 16 (.nc (t 14)),o 17 (f 16 139),o 18 (A 17 15 8 12),o 19 (L 18 12),o 20 (.qo (t 12) [t 13,t 19])] (c 20 (R [o 21 (l 7),M 22 8,o 23 (.call g1 [t 21,t 22]),n (s 7 23 1)]) z)))))) (r [o 24 (l 7),M 6 24] y)))⟩
def jV (g0:Nat):bY:=⟨7,[.tmp 4],r [o 3 (w 1),V 4 (F)] (r [o 5 (L 3 12),o 6 (.call g0 [t 5]),M 4 6] y)⟩
def gp (g0 g1:Nat):bY:=⟨11,[.tmp 4],r [V 4 (F)] (r [M 5 0,M 6 1,o 7 (.bT g0 [t 5,t 6,k (.fn (.func g1) [] [])]),M 8 1,o 9 (bb .and 8 (i 255)),o 10 (b .eql 7 9),M 4 10] y)⟩
def kZ:bY:=⟨7,[.tmp 2],r [V 2 (i 0)] (r [M 3 0,o 4 (.mm true [t 3,k (i 0)]),o 5 (.mm false [t 4,k (i 9999)]),o 6 (bb .add 5 (i 1)),M 2 6] y)⟩
def iz (g0 g1:Nat):bY:=⟨11,[.tmp 4],r [V 4 (F)] (r [M 5 0,M 6 1,o 7 (.bT g0 [t 5,t 6,k (.fn (.func g1) [] [])]),M 8 1,o 9 (bb .and 8 (i 255)),o 10 (b .eql 7 9),M 4 10] y)⟩
def gq (g0 g1:Nat):bY:=⟨9,[.tmp 4],r [o 2 (w 0),V 4 (i 0)] (r [o 5 (l 2),M 6 1,o 7 (.vM (.func g0) [] [t 2]),o 8 (.bT g1 [t 5,t 6,t 7]),M 4 8] y)⟩
def eI (g0:Nat):bY:=⟨15,[.tmp 5],r [o 4 (w 1),V 5 (F)] (r [o 6 (f 4 0),o 7 (l 6),o 8 (bb .eql 7 (i 1)),M 9 8,p 10 (l 2) 9,p 11 (f 4 2) 9,p 12 (L 11 2) 9,p 13 (.bT g0 [t 10,t 12]) 9,o 14 (P 9 13),M 5 14] y)⟩
def iA (g0:Nat):bY:=⟨21,[.tmp 4],r [o 3 (w 1),V 4 (F)] (.seq (.nB [o 5 (f 3 0),o 6 (l 5),o 7 (bb .neq 6 (i 1)),M 8 7,p 9 (f 3 0) 8,p 10 (l 9) 8,p 11 (bb .neq 10 (i 2)) 8,p 12 (m 11) 8,q 13 (f 3 1) 12,q 14 (l 13) 12,q 15 (m 0) 12,q 16 (.bT g0 [t 15]) 12,q 17 (.BG (t 16) 6 none) 12,q 18 (b .geq 14 17) 12,p 19 (Q 12 18) 8,o 20 (P 8 19),M 4 20] [(1,11),(5,11),(9,11)]) y)⟩
def eP (g0:Nat):bY:=⟨23,[.tmp 5],r [o 4 (w 1),V 5 (F)] (r [o 6 (f 4 0),o 7 (l 6),o 8 (bb .eql 7 (i 1)),M 9 8,q 10 (L 4 12) 9,q 11 (.call g0 [t 10]) 9,q 12 (m 11) 9,p 13 (f 4 1) 12,p 14 (l 13) 12,p 15 (l 2) 12,p 16 (.nc (t 15)) 12,p 17 (f 16 0) 12,p 18 (f 17 119) 12,p 19 (l 18) 12,p 20 (b .geq 14 19) 12,q 21 (P 12 20) 9,o 22 (Q 9 21),M 5 22] y)⟩
def mH:bY:=⟨16,[.tmp 2],r [o 1 (w 0),V 2 (F)] (r [o 3 (f 1 0),o 4 (l 3),o 5 (bb .neq 4 (i 1)),M 6 5,p 7 (f 1 0) 6,p 8 (l 7) 6,p 9 (bb .neq 8 (i 2)) 6,o 10 (P 6 9),M 11 10,p 12 (f 1 0) 11,p 13 (l 12) 11,p 14 (bb .neq 13 (i 3)) 11,o 15 (P 11 14),M 2 15] y)⟩
def fq:bY:=⟨37,[.tmp 5],r [o 4 (w 1),V 5 (F)] (r [o 7 (f 4 2),o 8 (f 7 0),o 9 (l 8),o 10 (bb .eql 9 (i 1)),M 11 10,q 12 (f 4 2) 11,q 13 (f 12 0) 11,q 14 (l 13) 11,q 15 (bb .eql 14 (i 2)) 11,o 16 (Q 11 15),M 6 16] (r [o 17 (f 4 0),o 18 (l 17),o 19 (bb .eql 18 (i 1)),M 20 19,p 21 (f 4 1) 20,p 22 (l 21) 20,p 23 (l 2) 20,p 24 (m 0) 20,p 25 (.nc (t 23)) 20,p 26 (f 25 0) 20,p 27 (f 26 0) 20,p 28 (A 27 24 8 13) 20,p 29 (f 28 1) 20,p 30 (l 29) 20,p 31 (b .geq 22 30) 20,o 32 (P 20 31),M 33 32,p 34 (m 6) 33,p 35 (.un .not (t 34)) 33,o 36 (P 33 35),M 5 36] y))⟩
def gu (g0:Nat):bY:=⟨22,[.tmp 6],r [o 5 (w 1),V 6 (F)] (r [o 7 (f 5 0),o 8 (l 7),o 9 (bb .eql 8 (i 1)),M 10 9,p 11 (f 5 1) 10,p 12 (l 11) 10,p 13 (l 2) 10,p 14 (b .geq 12 13) 10,o 15 (P 10 14),M 16 15,p 17 (l 3) 16,p 18 (f 5 2) 16,p 19 (L 18 2) 16,p 20 (.bT g0 [t 17,t 19]) 16,o 21 (P 16 20),M 6 21] y)⟩
def ju:bY:=⟨9,[.tmp 4],r [o 3 (w 1),V 4 (F)] (r [o 5 (f 3 2),o 6 (f 5 0),o 7 (l 6),o 8 (bb .eql 7 (i 1)),M 4 8] y)⟩
def iX:bY:=⟨8,[.tmp 4],r [o 3 (w 1),V 4 (F)] (r [o 5 (f 3 0),o 6 (l 5),o 7 (bb .eql 6 (i 1)),M 4 7] y)⟩
def eS (g0 g1:Nat):bY:=⟨29,[.tmp 5],r [o 4 (w 1),V 5 (F)] (.seq (.nB [o 6 (L 4 12),o 7 (.call g0 [t 6]),M 8 7,p 9 (f 4 1) 8,p 10 (l 9) 8,p 11 (l 2) 8,p 12 (.nc (t 11)) 8,p 13 (f 12 0) 8,p 14 (f 13 119) 8,p 15 (l 14) 8,p 16 (b .geq 10 15) 8,o 17 (P 8 16),M 18 17,p 19 (l 2) 18,p 20 (l 2) 18,p 21 (m 0) 18,p 22 (.nc (t 20)) 18,p 23 (f 22 0) 18,p 24 (f 23 105) 18,p 25 (A 24 21 8 1) 18,p 26 (l 25) 18,p 27 (.bT g1 [t 19,t 26]) 18,o 28 (P 18 27),M 5 28] [(0,21),(4,21),(5,21),(9,21),(14,21)]) y)⟩
end
end Go.Eng
namespace Go.Eng
open Go
def k6 (f:Nat→Bool):Nat→Int
 | 0=>0
 | k + 1=>if f k then cY (k6 f k) k else k6 f k
def CU (f:Nat→Bool):Int:=k6 f 8
theorem D5 (f:Nat→Bool):∀ k,k≤8→Can (k6 f k)
 | 0,_=>by show Can 0; exact ⟨by decide,by decide⟩
 | k + 1,h=>by
  simp only [k6]; split
  ·exact oL (by omega)
  ·exact D5 f k (by omega)
theorem GP (f:Nat→Bool) (i:Nat):∀ k,k≤8→tb (k6 f k) i=(decide (i < k) && f i)
 | 0,_=>by simp [k6,eu]
 | k + 1,h=>by
  have ih:=GP f i k (by omega)
  simp only [k6]
  split
  ·rename_i hk
   rw [lN (by omega),ih]
   by_cases e:i=k
   ·subst e; simp [hk]
   ·have h1:(i < k + 1)↔i < k:=by omega
    have h2:i < k→i < 8:=by omega
    by_cases h3:i < k
    ·simp [h1,h3,h2 h3,e]
    ·simp [h1,h3,e]
  ·rename_i hk
   rw [ih]
   by_cases e:i=k
   ·subst e; simp at hk; simp [hk]
   ·have h1:(i < k + 1)↔i < k:=by omega
    simp [h1]
theorem GQ (f:Nat→Bool):Can (CU f):=D5 f 8 (by omega)
theorem wC (f:Nat→Bool) (i:Nat):tb (CU f) i=(decide (i < 8) && f i):=GP f i 8 (by omega)
theorem PN {x:Int} (hx:Can x) {f:Nat→Bool} (h:∀ i,i < 8→tb x i=f i):x=CU f :=
 u6 hx (GQ f) fun i hi=>by rw [h i hi,wC]; simp [hi]
theorem ML {x y:Int} (hy:Can y):Can (dB .i64 x y):=by
 have e:dB .i64 x y=IntKind.i64.wrap ((bv x &&& bv y).toNat:Int):=rfl
 rw [e]
 refine u7 fun i h8 h64=>?_
 have a:=u5 hy h8 h64
 simp only [tb] at a
 rw [BitVec.getLsbD_and,a,Bool.and_false]
theorem MM:Can 255:=⟨by decide,by decide⟩
theorem Tf:Can 0:=⟨by decide,by decide⟩
def D6 (s:Int) (f:Nat→Bool):Bool:=(List.range 8).all fun p=>!tb s p || f p
theorem rC {s:Int} {f:Nat→Bool}:D6 s f=true↔∀ p,p < 8→tb s p=true→f p=true:=by
 simp only [D6,List.all_eq_true,List.mem_range,Bool.or_eq_true,Bool.not_eq_true']
 constructor
 ·intro h p hp ht; rcases h p hp with e | e
  ·rw [ht] at e; cases e
  ·exact e
 ·intro h p hp
  cases ht:tb s p
  ·exact .inl rfl
  ·exact .inr (h p hp ht)
theorem CD (s:Int) (f:Nat→Bool):(CU (fun p=>tb s p && f p) == dB .i64 s 255)=D6 s f:=by
 rw [Bool.eq_iff_iff,rC,beq_iff_eq]
 constructor
 ·intro h p hp ht
  have:=congrArg (fun x=>tb x p) h
  simp only [wC,wk,qZ,hp,ht,decide_true,Bool.true_and,Bool.and_true] at this
  exact this
 ·intro h
  refine u6 (GQ _) (ML MM) fun i hi=>?_
  rw [wC,wk,qZ]
  cases ht:tb s i
  ·simp
  ·simp [hi,h i hi ht]
def zL (is:Nat→Bool) (l:List Nat):Int:=l.foldl (fun n p=>if is p then cY n p else n) 0
theorem zM (is:Nat→Bool):∀ (l:List Nat) (n:Int),(∀ p∈l,p < 8)→Can n→Can (l.foldl (fun n p=>if is p then cY n p else n) n)∧∀ i,i < 8→tb (l.foldl (fun n p=>if is p then cY n p else n) n) i=(tb n i || (decide (i∈l) && is i))
 | [],n,_,hc=>⟨hc,fun i hi=>by simp⟩
 | q :: l,n,h,hc=>by
  have hq:q < 8:=h q (by simp)
  rw [List.foldl_cons]
  have hc2:Can (if is q then cY n q else n):=by split; exact oL hq; exact hc
  obtain ⟨a,b⟩:=zM is l _ (fun p hp=>h p (by simp [hp])) hc2
  refine ⟨a,fun i hi=>?_⟩
  rw [b i hi]
  by_cases e:i=q
  ·subst e
   split
   ·rename_i hk; rw [lN hq]; simp [hk]
   ·rename_i hk; simp at hk; simp [hk]
  ·have e2:(i∈q :: l)↔i∈l:=by simp [e]
   simp only [e2]
   split
   ·rw [lN hq]; simp [hi,e]
   ·rfl
theorem Io (is:Nat→Bool) (s:Int):zL is (ei s)=CU fun p=>tb s p && is p:=by
 obtain ⟨a,b⟩:=zM is (ei s) 0 (fun p hp=>j6 hp) Tf
 refine PN a fun i hi=>?_
 rw [b i hi,eu,Bool.false_or]
 cases ht:tb s i
 ·have:¬ i∈ei s:=fun h=>by rw [pL h] at ht; cases ht
  simp [this]
 ·simp [zF hi ht]
def ej (s:Pr) (k:Nat):Int:=s.held.getD k 0
def PO (t:Tb):Option (List Rl):=t.bz.map (·.take 4)
def nR (t:Tb):Nat:=min (t.bz.getD []).length 4
theorem CE (t:Tb):((PO t).getD []).length=nR t:=by
 unfold PO nR; cases t.bz with
 | none=>rfl
 | some l=>simp [Nat.min_comm]
theorem GR (t:Tb) {k:Nat} (hk:k < nR t):((PO t).getD [])[k]? = some (Ka t k):=by
 unfold nR at hk; unfold PO Ka
 cases h:t.bz with
 | none=>rw [h] at hk; simp at hk
 | some l =>
  rw [h] at hk
  simp only [Option.getD_some] at hk
  simp only [Option.map_some,Option.getD_some]
  have h1:k < l.length:=by omega
  rw [List.getElem?_take,if_pos (by omega)]
  simp [h1]
theorem Pr.len {s:Pr} (h:s.held.length=4):s.cells.length=8:=by simp [Pr.cells,h]
theorem Pr.whole {s:Pr} (h:s.held.length=4):aD s.cells 0 (some 8)=some (.agg s.cells):=by
 have:=Pr.len h
 simp [aD,this]
 rw [← this,List.take_length]
theorem iY {s:Pr} (h:s.held.length=4):s.held=[ej s 0,ej s 1,ej s 2,ej s 3]:=by
 match hs:s.held,h with
 | [a,b,c,d],_=>simp [ej,hs]
theorem Pr.GS {s:Pr} (h:s.held.length=4) {k:Nat} (hk:k < 4):s.cells[3 + k]? = some (I (ej s k)):=by
 have e:k=0∨k=1∨k=2∨k=3:=by omega
 rw [Pr.cells,iY h]
 rcases e with rfl|rfl|rfl|rfl<;>rfl
theorem Pr.ri {s:Pr} (h:s.held.length=4):s.cells[7]? = some (I s.dH):=by
 rw [Pr.cells,iY h]; rfl
def oP (t:Tb) (lines:Int):Nat→Int
 | 0=>0
 | k + 1=>if tb lines k then xm .i64 (oP t lines k) (2 ^ k) else oP t lines k
def Ki (s:Pr) (k:Nat):Int:=lM (ej s k) 0 2147483646 + 1
def eo (t:Tb) (s:Pr) (lines:Int) (n:Nat):List Int:=(List.range 4).map fun k=>if k < n && tb lines k then Ki s k else 0
def jv (t:Tb) (s:Pr) (lines:Int):Pr:={ s with held:=eo t s lines (nR t),dH:=dB .i64 s.dH (oP t lines (nR t)) }
theorem rD (t:Tb) (s:Pr) (lines:Int):(jv t s lines).held.length=4:=rfl
def D7 (t:Tb) (s:Pr) (k:Nat):Bool:=decide (ej s k > (Ka t k).delay) && !tb s.dH k
def aJ (t:Tb) (s:Pr):Int:=match (List.range (nR t)).find? (D7 t s) with
 | some k=>k
 | none=>-1
def t6.Spec (C:bk) (f:Nat):Prop:=∀ t:Tb,t.Ok→C.c f [.agg t.cells] (aE Rl.cells (PO t)) none
def zN.Spec (C:bk) (f:Nat):Prop:=∀ (t:Tb) (s:Pr) (lines:Int),t.Ok→s.held.length=4→C.c f [.agg t.cells,.agg s.cells,I lines] (.agg (jv t s lines).cells) none
def wD.Spec (C:bk) (f:Nat):Prop:=∀ (t:Tb) (s:Pr),t.Ok→s.held.length=4→C.c f [.agg t.cells,.agg s.cells] (I (aJ t s)) none
def D8.Spec (C:bk) (f:Nat):Prop:=∀ n:Int,C.c f [I n] (I (ck n)) none
theorem GU {s:Int} {k:Nat} (hk:k < 4):dB .i64 (s.fdiv (2 ^ k)) 1=if tb s k then 1 else 0:=by
 have h1:tb (s.fdiv (2 ^ k)) 0=tb s k:=by
  rw [tR _ (by omega),tR _ (by omega)]
  simp
 rw [zm,h1]
theorem GV {k:Nat} (hk:k < 4):min ((k:Int)).toNat IntKind.i64.bits=k:=by
 have:IntKind.i64.bits=64:=rfl
 rw [this]; omega
theorem D9 (t:Tb) (s:Pr) (lines:Int) {k:Nat} (hk:k < 4):(eo t s lines (k + 1)).map I=setCells ((eo t s lines k).map I) k [I (if tb lines k then Ki s k else 0)]:=by
 have e:k=0∨k=1∨k=2∨k=3:=by omega
 rcases e with rfl|rfl|rfl|rfl<;>simp [eo,setCells,List.range_succ]
theorem Ea (t:Tb) (s:Pr) (lines:Int) {k:Nat} (h:tb lines k=false):eo t s lines (k + 1)=eo t s lines k:=by
 unfold eo
 apply List.map_congr_left
 intro i hi
 by_cases e:i=k
 ·subst e; simp [h]
 ·have:(i < k + 1)↔i < k:=by omega
  simp [this]
section
variable {P:Program} (hm:P.follows .mixedOrders=true) {f:Nat}
include hm
theorem D8.ok (hc:aL P f=some kZ):D8.Spec (Pure P) f:=by
 intro n
 have h1:(if 9999 < (if 0 > n then 0 else n) then 9999 else (if 0 > n then 0 else n))=lM n 0 9999:=by
  unfold lM; split<;>split<;>(try split)<;>omega
 refine an hm hc (by show 1≤7; decide) (aj (keep:=[]) (i:=0) ?_)
 try simp only [I,B,D,RX,↓ KW,seval,kZ,Z.H]
 rw [h1]; rfl
theorem t6.ok (hc:aL P f=some jU):t6.Spec (Pure P) f:=by
 intro t ht
 have hl:=Tb.len ht
 have hp:=Tb.whole ht
 have hg:=Tb.uO ht
 refine an hm hc (by show 1≤10; decide) (aj (keep:=[]) (i:=0) ?_)
 try simp only [I,B,D,RX,↓ KW,seval,jU,Z.H,hp,hl,hg]
 have hmn:(if (4:Int) < ((t.bz.getD []).length:Int) then (4:Int) else ((t.bz.getD []).length:Int))=(nR t:Int):=by unfold nR; split<;>omega
 rw [hmn]
 refine ⟨⟨by omega,by unfold nR; omega⟩,fun r _=>rfl,?_⟩
 unfold PO nR
 cases t.bz with
 | none=>rfl
 | some l =>
  simp only [Option.getD_some,aE,II,Option.map_some,AV.sl.injEq,Int.toNat_natCast,Int.toNat_zero,List.drop_zero,List.map_take]
  rcases Nat.lt_or_ge l.length 4 with h|h
  ·rw [Nat.min_eq_left (by omega),List.take_of_length_le (by simp),List.take_of_length_le (by simp; omega)]
  ·rw [Nat.min_eq_right h]
theorem zN.ok {fR:Nat} (hc:aL P f=some (jT fR)) (hR:t6.Spec (Pure P) fR):zN.Spec (Pure P) f:=by
 intro t s lines ht hs
 have hl:=Tb.len ht
 have hp:=Tb.whole ht
 have hsl:=Pr.len hs
 have hn:=CE t
 have h1:=Pr.ri hs
 refine an hm hc (by show 3≤43; decide) (aj (keep:=[]) (i:=0) ?_)
 try simp only [I,B,D,RY,↓ KW,seval,jT,Z.H,hp,hl,hsl]
 refine af (hR t ht) ?_
 try simp only [I,B,D,RY,↓ KW,seval,hn]
 refine aF (fun k:Nat=>(⟨[(13,.dat (I k) none),(12,.dat (I (nR t)) none),(2,.dat (I lines) none),(7,.dat (I (oP t lines k)) none),(4,.ptr 5 0),(8,.ptr 8 0),(6,.ptr 6 0)],[(5,⟨s.cells,[]⟩),(8,⟨(eo t s lines k).map I,[]⟩),(6,⟨[I 0,I 0,I 0,I 0,I 0,I 0,I 0,I 0],[]⟩)],[],400⟩:S)) (fun k=>nR t - k) (fun k=>k≤nR t) ?_ 0 (by omega) ?_
 rotate_left
 ·refine ai (by decide) ?_ ?_ ?_ ?_<;>simp [LX,I,B,D,eo,oP]
  rfl
 ·intro k hk A back
  have hwr:=aB (k:=k) (by unfold nR at *; omega)
  try simp only [I,B,D,RY,↓ KW,seval]
  refine ax (fun h=>?_) (fun h=>?_)<;>try simp only [I,B,D,RY,↓ KW,seval,h]
  ·have h8:k < nR t:=by have:=of_decide_eq_true h; omega
   have h4:k < 4:=by unfold nR at h8; omega
   have hy:0≤(k:Int)∧(k:Int) < 4:=by omega
   have hm:min k IntKind.i64.bits=k:=by have:=GV h4; simpa using this
   have hb:=GU (s:=lines) h4
   have ha:=Pr.GS hs h4
   have hnx:=D9 t s lines h4
   have hac:oP t lines (k + 1)=if tb lines k then xm .i64 (oP t lines k) (2 ^ k) else oP t lines k:=rfl
   have hpw:IntKind.i64.wrap (1 * 2 ^ k)=2 ^ k:=by
    have e:k=0∨k=1∨k=2∨k=3:=by omega
    rcases e with rfl|rfl|rfl|rfl<;>rfl
   refine ⟨hy.1,?_⟩
   cases ht:tb lines k
   ·have hkp:=Ea t s lines ht
    rw [ht] at hb hac
    try simp only [I,B,D,RY,↓ KW,seval,hm,hb]
    refine back (k + 1) _ (by omega) (by omega) (ai (by decide) ?_ ?_ ?_ ?_)<;>simp [LX,I,B,D,hwr,hac,hkp]
   ·rw [ht] at hb hac hnx
    have hcu:(if 2147483646 < (if 0 > ej s k then 0 else ej s k) then 2147483646 else (if 0 > ej s k then 0 else ej s k))=lM (ej s k) 0 2147483646:=by
     unfold lM; split<;>split<;>(try split)<;>omega
    have hr:0≤lM (ej s k) 0 2147483646∧lM (ej s k) 0 2147483646≤2147483646:=by unfold lM; split<;>(try split)<;>omega
    have hw2:IntKind.i64.wrap (lM (ej s k) 0 2147483646 + 1)=Ki s k:=by rw [aY (by omega) (by omega)]; rfl
    try simp only [I,B,D,RY,↓ KW,seval,hm,hb,hpw,hy,ha,hcu,hw2]
    refine ⟨by show k + 1≤4; omega,?_⟩
    refine back (k + 1) _ (by omega) (by omega) (ai (by decide) ?_ ?_ ?_ ?_)<;>simp [LX,I,B,D,hwr,hac,hnx]
  ·have hk':k=nR t:=by have:=of_decide_eq_false h; omega
   subst hk'
   have q1:aD ((eo t s lines (nR t)).map I) 0 (some 4)=some (.agg ((eo t s lines (nR t)).map I)):=rfl
   have q2:((eo t s lines (nR t)).map I).length=4:=rfl
   have e1:setCells s.cells 3 ((eo t s lines (nR t)).map I)=({ s with held:=eo t s lines (nR t) }:Pr).cells:=by
    rw [Pr.cells,iY hs]; rfl
   have e2:∀ x,setCells ({ s with held:=eo t s lines (nR t) }:Pr).cells 7 [I x]=({ s with held:=eo t s lines (nR t),dH:=x }:Pr).cells:=fun x=>rfl
   have e3:({ s with held:=eo t s lines (nR t) }:Pr).cells.length=8:=rfl
   have e4:=Pr.whole (rD t s lines)
   have e5:=Pr.len (rD t s lines)
   have e6:aD ({ s with held:=eo t s lines (nR t),dH:=dB .i64 s.dH (oP t lines (nR t)) }:Pr).cells 0 (some 8)=some (.agg ({ s with held:=eo t s lines (nR t),dH:=dB .i64 s.dH (oP t lines (nR t)) }:Pr).cells):=rfl
   have e7:({ s with held:=eo t s lines (nR t),dH:=dB .i64 s.dH (oP t lines (nR t)) }:Pr).cells.length=8:=rfl
   have e8:setCells [I 0,I 0,I 0,I 0,I 0,I 0,I 0,I 0] 0 ({ s with held:=eo t s lines (nR t),dH:=dB .i64 s.dH (oP t lines (nR t)) }:Pr).cells=({ s with held:=eo t s lines (nR t),dH:=dB .i64 s.dH (oP t lines (nR t)) }:Pr).cells:=rfl
   try simp only [I,B,D,RY,↓ KW,seval,q1,q2,h1,e1,e2,e3,e6,e7,e8,hsl]
   rfl
theorem wD.ok {fR:Nat} (hc:aL P f=some (jS fR)) (hR:t6.Spec (Pure P) fR):wD.Spec (Pure P) f:=by
 intro t s ht hs
 have hl:=Tb.len ht
 have hp:=Tb.whole ht
 have hsl:=Pr.len hs
 have hn:=CE t
 have h7:=Pr.ri hs
 refine an hm hc (by show 2≤32; decide) (aj (keep:=[]) (i:=0) ?_)
 try simp only [I,B,D,RX,↓ KW,seval,jS,Z.H,hp,hl,hsl]
 refine af (hR t ht) ?_
 try simp only [I,B,D,RX,↓ KW,seval,hn]
 refine aF (fun k:Nat=>(⟨[(10,.dat (I k) none),(9,.dat (I (nR t)) none),(8,.dat (aE Rl.cells (PO t)) none),(3,.ptr 5 0)],[(5,⟨s.cells,[]⟩)],[],400⟩:S)) (fun k=>nR t - k) (fun k=>k≤nR t∧∀ q,q < k→D7 t s q=false) ?_ 0 ⟨by omega,by omega⟩ ?_
 rotate_left
 ·refine ai (by decide) ?_ ?_ ?_ ?_<;>simp [LX,I,B,D]
 ·rintro k ⟨hk,hno⟩ A back
  have hwr:=aB (k:=k) (by unfold nR at *; omega)
  try simp only [I,B,D,RX,↓ KW,seval]
  refine ax (fun h=>?_) (fun h=>?_)<;>try simp only [I,B,D,RX,↓ KW,seval,h]
  ·have h8:k < nR t:=by have:=of_decide_eq_true h; omega
   have h4:k < 4:=by unfold nR at h8; omega
   have hy:0≤(k:Int)∧(k:Int) < 4:=by omega
   have hm:min k IntKind.i64.bits=k:=by have:=GV h4; simpa using this
   have hb:=GU (s:=s.dH) h4
   have ha:=Pr.GS hs h4
   have hg:=GR t h8
   have hx:D7 t s k=(decide (ej s k > (Ka t k).delay) && !tb s.dH k):=rfl
   generalize hq:Ka t k=r at *
   have hrq:aD r.cells 0 (some 11)=some (.agg r.cells):=rfl
   have hr4:r.cells[4]? = some (I r.delay):=rfl
   refine ⟨by omega,?_⟩
   have hz:setCells bK 0 r.cells=r.cells:=rfl
   have hzl:bK.length=11:=rfl
   try simp only [I,B,D,RY,↓ KW,seval,hm,hy,ha,hg,hrq,hr4,h7,hz,hzl,Rl.len]
   cases hd:decide (ej s k > r.delay)
   ·have hx2:D7 t s k=false:=by rw [hx,hd]; rfl
    try simp only [I,B,D,RY,↓ KW,seval,hd]
    refine back (k + 1) _ ⟨by omega,fun q hq'=>?_⟩ (by omega) ?_
    ·by_cases e:q=k
     ·rw [e]; exact hx2
     ·exact hno q (by omega)
    ·refine ai (by decide) ?_ ?_ ?_ ?_<;>simp [LX,I,B,D,hwr]
   ·try simp only [I,B,D,RY,↓ KW,seval,hd,hm,hy,h7]
    cases ht2:tb s.dH k
    ·have hx2:D7 t s k=true:=by rw [hx,hd,ht2]; rfl
     rw [ht2] at hb
     have hf:(List.range (nR t)).find? (D7 t s)=some k:=sC (List.getElem?_range h8) hx2 (fun y hy=>hno y (by rw [List.take_range] at hy; have:=List.mem_range.1 hy; omega))
     try simp only [I,B,D,RY,↓ KW,seval,hb,hm]
     simp [aJ,hf]
    ·have hx2:D7 t s k=false:=by rw [hx,hd,ht2]; rfl
     rw [ht2] at hb
     try simp only [I,B,D,RY,↓ KW,seval,hb,hm]
     refine back (k + 1) _ ⟨by omega,fun q hq'=>?_⟩ (by omega) ?_
     ·by_cases e:q=k
      ·rw [e]; exact hx2
      ·exact hno q (by omega)
     ·refine ai (by decide) ?_ ?_ ?_ ?_<;>simp [LX,I,B,D,hwr]
  ·have hk':k=nR t:=by have:=of_decide_eq_false h; omega
   subst hk'
   have hf:(List.range (nR t)).find? (D7 t s)=none:=oN fun x hx=>hno x (List.mem_range.1 hx)
   simp [aJ,hf]
end
end Go.Eng
