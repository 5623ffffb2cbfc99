/- The engine and the library,part 10 of 12: what the proofs of this seat need of them. -/
import Derived.Test.YthoinfdfenkgnaaGreatPk9
set_option linter.unnecessarySimpa false
set_option linter.unusedSimpArgs false
set_option linter.unusedVariables false
set_option linter.defProp false
set_option maxRecDepth 10000
set_option maxHeartbeats 4000000
namespace Go.Eng
open Go
structure M1 (n:Nat) (d:lO):Prop where
 phase:0≤d.phase∧d.phase < n
 may:lvl d.on=true∧lvl d.off=true∧Cg d.delay=true∧Cg d.extend=true
 most:0≤d.maxOn∧d.maxOn≤80∧0≤d.vg∧d.vg≤360
 order:Lc d.off d.on=false
theorem Cl {p:Nat} (hp:p < 8) (i:Nat):tb (FG [(p:Int)]) i=decide (i=p):=by
 rw [FK]
 by_cases h:i=p
 ·subst h; simp [hp]
 ·have:¬ (i:Int)=(p:Int):=by omega
  simp [h,this]
theorem sG (t:Tb) {p q:Nat} (hp:p < 8) (hq:q < 8) (i:Nat):tb (iw t p q) i=(decide (i=p) || (cY t p q && decide (i=q))):=by
 unfold iw
 cases cY t p q
 ·rw [if_neg (by simp),Cl hp]; simp
 ·rw [if_pos rfl,Ck hq,Cl hp]
  by_cases h8:i < 8
  ·simp [h8]
  ·have h1:¬ i=p:=by omega
   have h2:¬ i=q:=by omega
   simp [h8,h1,h2]
theorem As (t:Tb) (p q:Int):Can (iw t p q):=by
 unfold iw; split
 ·exact Aq _ _
 ·exact zc _
theorem zg:∀ n:Nat,n < 9→1≤n→∀ i:Nat,i < 64→tb (bH (bH (1 * 2 ^ min (IntKind.u64.wrap (n:Int)).toNat 64) - 1)) i=decide (i < n):=by decide +kernel
def Lt (t:Tb) (n:Nat) (s:Int):Prop:=Can s∧(∀ i,i < 8→tb s i=true→i < n)∧∀ i j,i < 8→j < 8→tb s i=true→tb s j=true→i≠j→cY t i j=true
theorem oG {t t':Tb} (hg:t.groups=t'.groups) {n p q:Nat} (h8:n≤8) (hp:p < n) (hq:q < n):Lt t n (iw t' p q)∧iw t' p q≠0:=by
 have hb:=vF hg
 refine ⟨⟨As _ _ _,fun i hi h=>?_,fun i j hi hj h1 h2 hne=>?_⟩,fun e=>?_⟩
 ·rw [sG t' (by omega) (by omega)] at h
  simp only [Bool.or_eq_true,Bool.and_eq_true,decide_eq_true_eq] at h
  omega
 ·rw [sG t' (by omega) (by omega)] at h1 h2
  simp only [Bool.or_eq_true,Bool.and_eq_true,decide_eq_true_eq] at h1 h2
  rw [hb]
  rcases h1 with rfl|⟨hb1,rfl⟩
  ·rcases h2 with rfl | ⟨hb2,rfl⟩
   ·exact absurd rfl hne
   ·exact hb2
  ·rcases h2 with rfl | ⟨hb2,rfl⟩
   ·rw [x5]; exact hb1
   ·exact absurd rfl hne
 ·have:=sG t' (p:=p) (q:=q) (by omega) (by omega) p
  rw [e,iI] at this; simp at this
theorem Cm (t:Tb) (n:Nat):Lt t n 0:=⟨⟨by decide,by decide⟩,(fun i _ h=>by rw [iI] at h; cases h),(fun i j _ _ h=>by rw [iI] at h; cases h)⟩
structure Cn (t:Tb) (n:Nat) (r:Rl):Prop where
 bars:Can r.bars∧∀ i,i < 64→tb r.bars i=true→i < n∧tb r.mW i=false
 clear:Lt t n r.clear
 mW:Lt t n r.mW∧r.mW≠0
 exit:Lt t n r.exit∧r.exit≠0
 hold:(1≤r.hold∧r.hold≤10∧r.clear≠0)∨(r.hold=0∧r.clear=0)
 M3:0≤r.delay∧r.delay≤3∧1≤r.green∧r.green≤6∧0≤r.mQ∧r.mQ≤5∧1≤r.stay∧r.stay≤15
 most:r.most=0∨(r.stay≤r.most∧r.most≤44)
 limit:r.delay < r.limit∧r.limit≤10004
theorem EM {t t':Tb} (hg:t.groups=t'.groups) (l:Option (List Int)) (i:Int) {n:Nat} (hn:1≤n) (h8:n≤8):Cn t n (jK t' l i n):=by
 have nat:∀ j:Int,∃ m:Nat,bD l j (n:Int)=m∧m < n:=fun j=>by
  have:=aS l j (n:=(n:Int)) (by omega) (by omega)
  exact ⟨(bD l j n).toNat,by omega,by omega⟩
 obtain ⟨a0,e0,k0⟩:=nat i
 obtain ⟨a1,e1,k1⟩:=nat (bH (i + 1))
 obtain ⟨a2,e2,k2⟩:=nat (bH (i + 2))
 obtain ⟨a3,e3,k3⟩:=nat (bH (i + 3))
 obtain ⟨a5,e5,k5⟩:=nat (bH (i + 5))
 have en:bH ((n:Int) + 1)=(n:Int) + 1:=nL (by omega) (by omega)
 have r4:=aS l (bH (i + 4)) (n:=(n:Int) + 1) (by omega) (by omega)
 have r6:=aS l (bH (i + 6)) (n:=10) (by decide) (by decide)
 have r7:=aS l (bH (i + 7)) (n:=256) (by decide) (by decide)
 have r8:=aS l (bH (i + 8)) (n:=4) (by decide) (by decide)
 have r9:=aS l (bH (i + 9)) (n:=6) (by decide) (by decide)
 have ra:=aS l (bH (i + 10)) (n:=6) (by decide) (by decide)
 have rb:=aS l (bH (i + 11)) (n:=15) (by decide) (by decide)
 have rd:=aS l (bH (i + 13)) (n:=30) (by decide) (by decide)
 have re:=aS l (bH (i + 14)) (n:=3) (by decide) (by decide)
 have w6:=nL (n:=1 + bD l (bH (i + 6)) 10) (by omega) (by omega)
 have w9:=nL (n:=1 + bD l (bH (i + 9)) 6) (by omega) (by omega)
 have wb:=nL (n:=1 + bD l (bH (i + 11)) 15) (by omega) (by omega)
 have wd:=nL (n:=1 + bD l (bH (i + 11)) 15 + bD l (bH (i + 13)) 30) (by omega) (by omega)
 have w8:=nL (n:=bD l (bH (i + 8)) 4 + 1) (by omega) (by omega)
 have hlim:∃ v:Int,[10000,400,20].getD (bD l (bH (i + 14)) 3).toNat 0=v∧20≤v∧v≤10000:=by
  have:(bD l (bH (i + 14)) 3).toNat=0∨(bD l (bH (i + 14)) 3).toNat=1∨(bD l (bH (i + 14)) 3).toNat=2:=by omega
  rcases this with h|h|h<;>rw [h]
  ·exact ⟨10000,rfl,by decide,by decide⟩
  ·exact ⟨400,rfl,by decide,by decide⟩
  ·exact ⟨20,rfl,by decide,by decide⟩
 obtain ⟨v,hv,v1,v2⟩:=hlim
 have wl:=nL (n:=bD l (bH (i + 8)) 4 + 1 + v) (by omega) (by omega)
 have td:=oG hg h8 k0 k1
 have te:=oG hg h8 k2 k3
 refine ⟨?_,?_,?_,?_,?_,?_,?_,?_⟩<;>simp only [jK,e0,e1,e2,e3,e5,en,w6,w9,wb,wd,w8,hv,wl]
 ·have hbits:∀ j,j < 64→tb (gy .i64 (d7 .i64 (bD l (bH (i + 7)) 256) (bH (bH (1 * 2 ^ min (IntKind.u64.wrap (n:Int)).toNat 64) - 1))) (iw t' a0 a1)) j=true→j < n∧tb (iw t' a0 a1) j=false:=by
   intro j hj h
   rw [uA _ _ _ hj,B4,zg n (by omega) hn j hj] at h
   simp only [Bool.and_eq_true,Bool.not_eq_true',decide_eq_true_eq] at h
   exact ⟨h.1.2,h.2⟩
  refine ⟨?_,hbits⟩
  have e:gy .i64 (d7 .i64 (bD l (bH (i + 7)) 256) (bH (bH (1 * 2 ^ min (IntKind.u64.wrap (n:Int)).toNat 64) - 1))) (iw t' a0 a1)=IntKind.i64.wrap ((bv (d7 .i64 (bD l (bH (i + 7)) 256) (bH (bH (1 * 2 ^ min (IntKind.u64.wrap (n:Int)).toNat 64) - 1))) &&& ~~~ bv (iw t' a0 a1)).toNat:Int):=rfl
  rw [e]
  refine oE fun j h1 h2=>?_
  have h3:=uA (d7 .i64 (bD l (bH (i + 7)) 256) (bH (bH (1 * 2 ^ min (IntKind.u64.wrap (n:Int)).toNat 64) - 1))) (iw t' a0 a1) j h2
  have h4:=zg n (by omega) hn j h2
  have h5:¬ j < n:=by omega
  have h6:=B4 (bD l (bH (i + 7)) 256) (bH (bH (1 * 2 ^ min (IntKind.u64.wrap (n:Int)).toNat 64) - 1)) j
  rw [h4] at h6
  simp only [h5,decide_false,Bool.and_false] at h6
  simp only [tb] at h6
  rw [BitVec.getLsbD_and,h6]; rfl
 ·split
  ·rename_i hp
   obtain ⟨p,hpn⟩:∃ p:Nat,bD l (bH (i + 4)) ((n:Int) + 1)=p:=⟨(bD l (bH (i + 4)) ((n:Int) + 1)).toNat,by omega⟩
   rw [hpn] at hp ⊢
   exact (oG hg h8 (by omega) k5).1
  ·exact Cm _ _
 ·exact td
 ·exact te
 ·split
  ·rename_i hp
   obtain ⟨p,hpn⟩:∃ p:Nat,bD l (bH (i + 4)) ((n:Int) + 1)=p:=⟨(bD l (bH (i + 4)) ((n:Int) + 1)).toNat,by omega⟩
   rw [hpn] at hp ⊢
   exact .inl ⟨by omega,by omega,(oG hg h8 (by omega) k5).2⟩
  ·exact .inr ⟨rfl,rfl⟩
 ·omega
 ·split
  ·right; omega
  ·left; rfl
 ·omega
theorem Co (l:Option (List Int)):((bE l).aL.getD []).length≤2∧∀ r∈(bE l).aL.getD [],Cn (bE l) (nT l) r:=by
 have e:(bE l).aL=aX (cI { ji with groups:=some (cm l).1 } l (cm l).2 ((bD l 176 4).tmod 3) ((bD l 176 4).tmod 3).toNat):=rfl
 have h:=Int.tmod_lt_of_pos (bD l 176 4) (b:=3) (by decide)
 rw [e,bP]
 refine ⟨by rw [nH]; omega,fun d hd=>?_⟩
 rw [cI,List.mem_map] at hd
 obtain ⟨k,_,rfl⟩:=hd
 exact EM rfl _ _ (xd l).1 (xd l).2
end Go.Eng
namespace Go.Eng
open Go
theorem EN {x y:Int} (hy:Can y):Can (d7 .i64 x y):=by
 have e:d7 .i64 x y=IntKind.i64.wrap ((bv x &&& bv y).toNat:Int):=rfl
 rw [e]
 refine oE fun i h8 h64=>?_
 have a:=j7 hy h8 h64
 simp only [tb] at a
 rw [BitVec.getLsbD_and,a,Bool.and_false]
theorem EO:Can 255:=⟨by decide,by decide⟩
theorem FO:Can 0:=⟨by decide,by decide⟩
def sH (s:Pr) (k:Nat):Int:=s.held.getD k 0
def EP (t:Tb):Option (List Rl):=t.aL.map (·.take 4)
def nR (t:Tb):Nat:=min (t.aL.getD []).length 4
theorem ER (t:Tb):((EP t).getD []).length=nR t:=by
 unfold EP nR; cases t.aL with
 | none=>rfl
 | some l=>simp [Nat.min_comm]
theorem vG (t:Tb) {k:Nat} (hk:k < nR t):((EP t).getD [])[k]? = some (uD t k):=by
 unfold nR at hk; unfold EP uD
 cases h:t.aL with
 | none=>rw [h] at hk; simp at hk
 | some l =>
  rw [h] at hk
  simp only [Option.getD_some] at hk
  simp only [Option.map_some,Option.getD_some]
  have h1:k < l.length:=by omega
  rw [List.getElem?_take,if_pos (by omega)]
  simp [h1]
theorem Pr.len {s:Pr} (h:s.held.length=4):s.cells.length=8:=by simp [Pr.cells,h]
theorem Pr.whole {s:Pr} (h:s.held.length=4):aU s.cells 0 (some 8)=some (.agg s.cells):=by
 have:=Pr.len h
 simp [aU,this]
 rw [← this,List.take_length]
theorem x7 {s:Pr} (h:s.held.length=4):s.held=[sH s 0,sH s 1,sH s 2,sH s 3]:=by
 match hs:s.held,h with
 | [a,b,c,d],_=>simp [sH,hs]
theorem vH {s:Int} {k:Nat} (hk:k < 4):d7 .i64 (s.fdiv (2 ^ k)) 1=if tb s k then 1 else 0:=by
 have h1:tb (s.fdiv (2 ^ k)) 0=tb s k:=by
  rw [su _ (by omega),su _ (by omega)]
  simp
 rw [wX,h1]
theorem vI {k:Nat} (hk:k < 4):min ((k:Int)).toNat IntKind.i64.bits=k:=by
 have:IntKind.i64.bits=64:=rfl
 rw [this]; omega
end Go.Eng
namespace Go.Eng
open Go
open Go.RowKit (Below)
section
variable {C:bI} {Q:Exit→S→Prop} {K:SV→S→Prop} {J:S→Prop} {X:AV→S→Prop}
variable (sl:List (Nat × SV)) (bx:List (Nat × bA)) (lv:List (Nat × Nat)) (nx:Nat)
theorem HT (b i:Nat):ct C b i [] J X ⟨sl,bx,lv,nx⟩=J ⟨sl,bx,lv,nx⟩:=rfl
theorem Lu (b i:Nat) (d:Option Nat) (o:AJ) (r:List XO):ct C b i (⟨d,o,none⟩ :: r) J X ⟨sl,bx,lv,nx⟩=bz C (b + i) o (fun v s'=>ct C b (i + 1) r J X (s'.put d v)) X ⟨sl,bx,lv,nx⟩:=rfl
theorem HU (b i t:Nat) (w:Bool) (d:Option Nat) (o:AJ) (r:List XO):ct C b i (⟨d,o,some (t,w)⟩ :: r) J X ⟨sl,bx,lv,nx⟩ =
  gQ w (bz C (b + i) o (fun v s'=>ct C b (i + 1) r J X (s'.put d v)) X ⟨sl,bx,lv,nx⟩) (ct C b (i + 1) r J X (S.put ⟨sl,bx,lv,nx⟩ d .undef)) (lk t sl):=by
 simp only [ct,cv,gQ]
 cases lk t sl with
 | none=>rfl
 | some v=>cases v with
  | dat a q=>cases a<;>rfl
  | _=>rfl
theorem N5 (id:Nat) (c:aZ):bz C id (.o c) K X ⟨sl,bx,lv,nx⟩=aV C id c K ⟨sl,bx,lv,nx⟩:=rfl
def zh (k:Exit→S→Prop) (n:Nat):AV→S→Prop:=fun p s=>k (.panic (gn p)) { s with nx:=n }
theorem Lv (ops:List XO):aw C (.eI ops) Q ⟨sl,bx,lv,nx⟩=ct C nx 0 ops (z5 (Q .normal) (nx + ops.length)) (zh Q (nx + ops.length)) ⟨sl,bx,lv,nx⟩:=rfl
theorem HV (k:Exit→S→Prop) (n:Nat) (p:AV):zh k n p ⟨sl,bx,lv,nx⟩=k (.panic (gn p)) ⟨sl,bx,lv,n⟩:=rfl
class KX where
 run:SV→List (Nat × bA)→List (Nat × Nat)→Prop
 rx:AV→List (Nat × bA)→Prop
def sI (C:bI) (f:Nat) (as:List AV) (id:Nat) (bx:List (Nat × bA)) (lv:List (Nat × Nat)) (k:SV→List (Nat × bA)→List (Nat × Nat)→Prop) (x:AV→List (Nat × bA)→Prop):Prop :=
 qd C f as id lv (fun v l=>k v bx l)∨(∃ cs,C.n f as cs∧k (.ptr id 0) ((id,⟨cs,[]⟩) :: bx) lv)∨∃ p,C.q f [] (as.map some) p []∧x p bx
def NB (C:bI) (f:Nat) (as:List AV) (id:Nat) (bx:List (Nat × bA)) (lv:List (Nat × Nat)) [k:KX]:Prop:=sI C f as id bx lv k.run k.rx
theorem Lw (f:Nat) (as:List AV) (id:Nat) (bx:List (Nat × bA)) (lv:List (Nat × Nat)) (k:SV→List (Nat × bA)→List (Nat × Nat)→Prop) (x:AV→List (Nat × bA)→Prop):sI C f as id bx lv k x=@NB C f as id bx lv ⟨k,x⟩:=rfl
@[congr] theorem Lx (f:Nat) {as as':List AV} (id:Nat) (bx:List (Nat × bA)) (lv:List (Nat × Nat)) (k:SV→List (Nat × bA)→List (Nat × Nat)→Prop) (x:AV→List (Nat × bA)→Prop) (h:as=as'):sI C f as id bx lv k x=sI C f as' id bx lv k x:=by rw [h]
theorem l9 {f:Nat} {as:List AV} {id:Nat} {bx:List (Nat × bA)} {lv:List (Nat × Nat)} {k:SV→List (Nat × bA)→List (Nat × Nat)→Prop} {x:AV→List (Nat × bA)→Prop} {r:AV} (h:C.c f as r none) (hk:k (.dat r none) bx lv):@NB C f as id bx lv ⟨k,x⟩:=.inl ⟨r,none,h,hk⟩
theorem HW (id f:Nat) (args:List aQ):bz C id (.call f args) K X ⟨sl,bx,lv,nx⟩=ah (bQ ⟨sl,bx,lv,nx⟩ args) fun as=>sI C f as id bx lv (fun v b l=>K v ⟨sl,b,l,nx⟩) (fun p b=>X p ⟨sl,b,lv,nx⟩):=by
 simp only [bz,aV]
 cases bQ ⟨sl,bx,lv,nx⟩ args with
 | none=>simp
 | some as=>rfl
def mJ (C:bI) (f:Nat) (css:List (List AV)) (as:List (Option AV)) (ids:List Nat) (id:Nat) (bx:List (Nat × bA)) (lv:List (Nat × Nat)) (k:SV→List (Nat × bA)→List (Nat × Nat)→Prop) (x:AV→List (Nat × bA)→Prop):Prop :=
 rP C f css as ids id bx lv k∨∃ v css',C.q f css as v css'∧x v (cJ ids css' bx)
def Ly (C:bI) (f:Nat) (css:List (List AV)) (as:List (Option AV)) (ids:List Nat) (id:Nat) (bx:List (Nat × bA)) (lv:List (Nat × Nat)) [k:KX]:Prop:=mJ C f css as ids id bx lv k.run k.rx
theorem HX (f:Nat) (css:List (List AV)) (as:List (Option AV)) (ids:List Nat) (id:Nat) (bx:List (Nat × bA)) (lv:List (Nat × Nat)) (k:SV→List (Nat × bA)→List (Nat × Nat)→Prop) (x:AV→List (Nat × bA)→Prop):mJ C f css as ids id bx lv k x=@Ly C f css as ids id bx lv ⟨k,x⟩:=rfl
@[congr] theorem I1 (f:Nat) {css css':List (List AV)} {as as':List (Option AV)} {ids ids':List Nat} (id:Nat) (bx:List (Nat × bA)) (lv:List (Nat × Nat)) (k:SV→List (Nat × bA)→List (Nat × Nat)→Prop) (x:AV→List (Nat × bA)→Prop) (h1:css=css') (h2:as=as') (h3:ids=ids'):mJ C f css as ids id bx lv k x=mJ C f css' as' ids' id bx lv k x:=by rw [h1,h2,h3]
theorem dQ {f:Nat} {css:List (List AV)} {as:List (Option AV)} {ids:List Nat} {id:Nat} {bx:List (Nat × bA)} {lv:List (Nat × Nat)} {k:SV→List (Nat × bA)→List (Nat × Nat)→Prop} {x:AV→List (Nat × bA)→Prop} {r:AV} {css':List (List AV)} (h:C.p f css as r none css') (hk:k (.dat r none) (cJ ids css' bx) lv):@Ly C f css as ids id bx lv ⟨k,x⟩:=.inl ⟨r,none,css',h,hk⟩
def oH (C:bI) (f id:Nat) (bx:List (Nat × bA)) (lv:List (Nat × Nat)) (as':List (Option AV)) (bs:List Nat) (k:SV→List (Nat × bA)→List (Nat × Nat)→Prop) (x:AV→List (Nat × bA)→Prop) (p:List (Option AV) × List Nat):Prop :=
 cu (p.2++bs)=true∧ah (aR bx (p.2++bs)) fun css=>mJ C f css (p.1++as') (p.2++bs) id bx lv k x
theorem Cp (f id:Nat) (as as':List (Option AV)) (ids bs:List Nat) (k:SV→List (Nat × bA)→List (Nat × Nat)→Prop) (x:AV→List (Nat × bA)→Prop):oH C f id bx lv as' bs k x (as,ids)=(cu (ids++bs)=true∧ah (aR bx (ids++bs)) fun css=>mJ C f css (as++as') (ids++bs) id bx lv k x):=rfl
theorem ES (id f:Nat) (args:List aQ):bz C id (.dX f args) K X ⟨sl,bx,lv,nx⟩=ah (bZ ⟨sl,bx,lv,nx⟩ args) (oH C f id bx lv [] [] (fun v b l=>K v ⟨sl,b,l,nx⟩) (fun p b=>X p ⟨sl,b,lv,nx⟩)):=by
 simp only [bz,aV]
 cases bZ ⟨sl,bx,lv,nx⟩ args with
 | none=>simp
 | some p =>
  simp only [aq,oH,List.append_nil]
  cases aR bx p.2 with
  | none=>simp
  | some css =>
   exact (propext and_or_left).symm
def mK (C:bI) (id:Nat) (b:Bool) (g:aQ) (args:List aQ) (K:SV→S→Prop) (X:AV→S→Prop) (s:S):Option SV→Prop
 | some (.kY f as bs)=>ah (bZ s args) (oH C f id s.boxes s.live as bs (fun v b l=>K v ⟨s.slots,b,l,s.nx⟩) (fun p b=>X p ⟨s.slots,b,s.live,s.nx⟩))
 | _=>aV C id (if b then .dD g args else .dw g args) K s
theorem ET (id:Nat) (b:Bool) (g:aQ) (args:List aQ):bz C id (.dw b g args) K X ⟨sl,bx,lv,nx⟩=mK C id b g args K X ⟨sl,bx,lv,nx⟩ (bw ⟨sl,bx,lv,nx⟩ g):=by
 simp only [bz]
 cases bw ⟨sl,bx,lv,nx⟩ g with
 | none=>rfl
 | some v=>cases v<;>rfl
@[congr] theorem I2 (id:Nat) (b:Bool) (g:aQ) (args:List aQ) (K:SV→S→Prop) (X:AV→S→Prop) (s:S) {v v':Option SV} (h:v=v'):mK C id b g args K X s v=mK C id b g args K X s v':=by rw [h]
theorem Cq (id:Nat) (b:Bool) (g:aQ) (args:List aQ) (f:Nat) (as:List (Option AV)) (bs:List Nat):mK C id b g args K X ⟨sl,bx,lv,nx⟩ (some (.kY f as bs))=ah (bZ ⟨sl,bx,lv,nx⟩ args) (oH C f id bx lv as bs (fun v b l=>K v ⟨sl,b,l,nx⟩) (fun p b=>X p ⟨sl,b,lv,nx⟩)):=rfl
theorem Cr (id:Nat) (g:aQ) (args:List aQ) (s:S) (a:AV) (q:Option Nat):mK C id true g args K X s (some (.dat a q))=aV C id (.dD g args) K s:=rfl
theorem Ct (id:Nat) (g:aQ) (args:List aQ) (s:S) (a:AV) (q:Option Nat):mK C id false g args K X s (some (.dat a q))=aV C id (.dw g args) K s:=rfl
def EU (f:Nat) (k:SV→Prop) (p:List (Option AV) × List Nat):Prop:=k (.kY f p.1 p.2)
theorem Lz (id f:Nat) (caps:List aQ):bz C id (.IL f caps) K X ⟨sl,bx,lv,nx⟩=ah (bZ ⟨sl,bx,lv,nx⟩ caps) (EU f fun v=>K v ⟨sl,bx,lv,nx⟩):=rfl
theorem HY (f:Nat) (k:SV→Prop) (as:List (Option AV)) (bs:List Nat):EU f k (as,bs)=k (.kY f as bs):=rfl
theorem LA (id:Nat) (x:aQ):bz C id (.I7 x) K X ⟨sl,bx,lv,nx⟩=ah (ax ⟨sl,bx,lv,nx⟩ x) fun a=>lp a=true∧X a ⟨sl,bx,lv,nx⟩:=rfl
theorem LB (id t:Nat) (x:aQ):bz C id (.I8 t x) K X ⟨sl,bx,lv,nx⟩=ah (ax ⟨sl,bx,lv,nx⟩ x) fun a=>eK a none=true∧K (.dat (.iface t a) none) ⟨sl,bx,lv,nx⟩:=rfl
theorem LC (id t:Nat) (z:AV) (x:aQ):bz C id (.I9 t z x) K X ⟨sl,bx,lv,nx⟩=ah (ax ⟨sl,bx,lv,nx⟩ x) fun a=>ah (xw t z a) fun v=>K (.dat v none) ⟨sl,bx,lv,nx⟩:=rfl
theorem LD (id:Nat) (neg:Bool) (x:aQ):bz C id (.IM neg x) K X ⟨sl,bx,lv,nx⟩=ah (ax ⟨sl,bx,lv,nx⟩ x) fun a=>ah (zC neg a) fun v=>K (.dat (.bool v) none) ⟨sl,bx,lv,nx⟩:=rfl
theorem LF (id:Nat) (neg:Bool) (x:aQ):bz C id (.IN neg x) K X ⟨sl,bx,lv,nx⟩=ah (bw ⟨sl,bx,lv,nx⟩ x) fun a=>ah (tC neg a) fun v=>K (.dat (.bool v) none) ⟨sl,bx,lv,nx⟩:=rfl
theorem LG (id e bytes:Nat) (l c:aQ):bz C id (.Ja e bytes l c) K X ⟨sl,bx,lv,nx⟩=ah (ax ⟨sl,bx,lv,nx⟩ l) fun a=>ah (idxOf a) fun l=>ah (ax ⟨sl,bx,lv,nx⟩ c) fun b=>ah (idxOf b) fun c=>(0≤l∧l≤c∧c * bytes≤140737488355328)∧K (.raw id l.toNat) ⟨sl,bx,(id,e) :: lv,nx⟩:=rfl
def EX (e id:Nat) (s:S) (b:Option AV) (k:SV→S→Prop):SV→Prop
 | .raw q n=>ah b fun b=>ah (rowsOf b) fun ys=>(ys.length=n∧∀ r∈ys,r.length=1)∧cw q s.live=some e∧k (.dat (.int .i64 n) none) { s with slots:=tD q n (.sl ys) id s.slots,live:=(id,e) :: iN q s.live }
 | _=>False
theorem LH (id e:Nat) (x y:aQ):bz C id (.Jb e x y) K X ⟨sl,bx,lv,nx⟩=ah (bw ⟨sl,bx,lv,nx⟩ x) (EX e id ⟨sl,bx,lv,nx⟩ (ax ⟨sl,bx,lv,nx⟩ y) K):=by
 show ah _ _=ah _ _
 cases bw ⟨sl,bx,lv,nx⟩ x with
 | none=>rfl
 | some v=>cases v<;>rfl
theorem HZ (id e q n:Nat) (b:Option AV):EX e id ⟨sl,bx,lv,nx⟩ b K (.raw q n)=ah b fun b=>ah (rowsOf b) fun ys=>(ys.length=n∧∀ r∈ys,r.length=1)∧cw q lv=some e∧K (.dat (.int .i64 n) none) ⟨tD q n (.sl ys) id sl,bx,(id,e) :: iN q lv,nx⟩:=rfl
@[congr] theorem M4 (e id:Nat) (s:S) {b b':Option AV} (k:SV→S→Prop) {v v':SV} (h:b=b') (hv:v=v'):EX e id s b k v=EX e id s b' k v':=by rw [h,hv]
theorem EY (q n:Nat) (a:AV) (id:Nat):tD q n a id []=[]:=rfl
theorem H6 (q n:Nat) (a:AV) (id t:Nat) (v:SV) (r:List (Nat × SV)):tD q n a id ((t,v) :: r)=(t,qU q n a id v) :: tD q n a id r:=rfl
theorem H7 (q n:Nat) (a:AV) (id:Nat):qU q n a id (.raw q n)=.dat a (some id):=by simp [qU]
theorem H8 (q n:Nat) (a b:AV) (id:Nat) (m:Option Nat):qU q n a id (.dat b m)=.dat b m:=rfl
theorem H9 (q n:Nat) (a:AV) (id b o:Nat):qU q n a id (.ptr b o)=.ptr b o:=rfl
theorem Ia (q n:Nat) (a:AV) (id:Nat) (cs:List AV):qU q n a id (.rp cs)=.rp cs:=rfl
theorem Ib (q n:Nat) (a:AV) (id:Nat):qU q n a id .undef=.undef:=rfl
theorem Ic (b:Nat) (cs:List AV) (q n:Nat):ki b cs (.raw q n)=.raw q n:=rfl
theorem Ie (t:Nat) (z:AV):xw t z .gj=some (.oS [z,.bool false]):=rfl
theorem Ig (t:Nat) (z a:AV):xw t z (.iface t a)=some (.oS [a,.bool true]):=by simp [xw]
theorem Ih (neg:Bool):zC neg .gj=some !neg:=rfl
theorem Ii (neg:Bool) (t:Nat) (a:AV):zC neg (.iface t a)=some neg:=rfl
theorem Ij (neg:Bool) (b o:Nat):tC neg (.ptr b o)=some neg:=rfl
theorem Ik (neg:Bool) (cs:List AV):tC neg (.rp cs)=some neg:=rfl
theorem Il (neg:Bool) (q:Option Nat):tC neg (.dat .qk q)=some !neg:=rfl
theorem LI (b:Nat) (cs:List AV) (f:Nat) (as:List (Option AV)) (bs:List Nat):ki b cs (.kY f as bs)=.kY f as bs:=rfl
theorem M5 (t:Nat) (a:AV) (q:Option Nat):eK (.iface t a) q=true:=rfl
theorem LJ (q:Option Nat):eK .gj q=true:=rfl
theorem EZ (t:Nat) (a:AV):AV.cells (.iface t a)=[.iface t a]:=rfl
theorem LK (t:Nat) (a:AV):eO (.iface t a)=.dat (.iface t a) none:=rfl
theorem Im:eO .gj=.dat .gj none:=rfl
theorem Io (k:S→Prop) (s:S) (c:List PanicEntry):gk k Q (.panic c) s=Q (.panic c) s:=rfl
theorem LL (id:Nat) (s:S) (c:List PanicEntry):dF id Q (.panic c) s=Q (.panic c) s:=rfl
theorem M6 (l:Nat) (k:S→Prop) (s:S) (c:List PanicEntry):iO l k Q (.panic c) s=Q (.panic c) s:=rfl
theorem M7 (s:S) (c:List PanicEntry):ql Q (.panic c) s=Q (.panic c) s:=rfl
theorem LM (t:Nat) (k k':IntKind) (x y:Int):lp (.iface t (.agg [.int k x,.int k' y]))=true:=rfl
@[congr] theorem M8 (id:Nat) (o:AJ) (s:S):bz C id o K X s=bz C id o K X s:=rfl
@[congr] theorem Mj (b i:Nat) (l:List XO) (s:S):ct C b i l J X s=ct C b i l J X s:=rfl
@[congr] theorem Mk (n:Nat) (p:AV) (s:S):zh Q n p s=zh Q n p s:=rfl
@[congr] theorem M9 (f:Nat) (k:SV→Prop) {p p':List (Option AV) × List Nat} (h:p=p'):EU f k p=EU f k p':=by rw [h]
end
def th :=
 And.intro @HT (And.intro @Lu (And.intro @HU (And.intro @N5 (And.intro @Lv (And.intro @HV (And.intro @HW (And.intro @Cp (And.intro @ES (And.intro @ET (And.intro @Cq (And.intro @Cr (And.intro @Ct (And.intro @Lz (And.intro @HY (And.intro @LA (And.intro @LB (And.intro @LC (And.intro @LD (And.intro @LF (And.intro @LG (And.intro @LH (And.intro @HZ (And.intro @EY (And.intro @H6 (And.intro @H7 (And.intro @H8 (And.intro @H9 (And.intro @Ia (@Ib)))))))))))))))))))))))))))))
def tj :=
 And.intro @Ic (And.intro @Ie (And.intro @Ig (And.intro @Ih (And.intro @Ii (And.intro @Ij (And.intro @Ik (And.intro @Il (And.intro @LI (And.intro @M5 (And.intro @LJ (And.intro @EZ (And.intro @LK (And.intro @Im (And.intro @Io (And.intro @LL (And.intro @M6 (And.intro @M7 (@LM))))))))))))))))))
def tq:=And.intro @Lw @HX
def LN (p:AV) (css:List (List AV)):Exit→S→Prop
 | .panic c,s=>c=gn p∧gm s.boxes 0 css
 | _,_=>False
theorem Ip (p:AV) (css:List (List AV)) (s:S):LN p css (.panic (gn p)) s=gm s.boxes 0 css:=by simp [LN]
end Go.Eng
namespace Go.Eng
open Go
open Go.RowKit (Below)
structure N6 where
 nt:Nat
 d:Nat
 ops:List XO
 code:aK
def LO (css:List (List AV)):Exit→S→Prop
 | .normal,s | .ret,s=>gm s.boxes 0 css
 | _,_=>False
theorem E0 (css:List (List AV)) (s:S):LO css .normal s=gm s.boxes 0 css:=rfl
theorem E1 (css:List (List AV)) (s:S):LO css .ret s=gm s.boxes 0 css:=rfl
end Go.Eng
namespace Go.Eng
open Go
open Go.RowKit (Below)
structure E2 where
 nt:Nat
 res:List eA
 pre:aK
 g:Nat
 caps:List aQ
 t:Nat
 code:aK
def E3 (C:bI) (res:List eA) (r:AV) (fr:Option Nat) (css:List (List AV)) (t g:Nat) (as:List (Option AV)) (bs:List Nat) (rv:AV) (s:S):Prop :=
 lk t s.slots=some (.kY g as bs)∧cu bs=true∧ah (aR s.boxes bs) fun cs=>∃ cs',C.d g rv cs as cs'∧zT res r fr css .ret { s with boxes:=cJ bs cs' s.boxes }
def Au (C:bI) (res:List eA) (r:AV) (fr:Option Nat) (css:List (List AV)) (t g:Nat) (as:List (Option AV)) (bs:List Nat):Exit→S→Prop
 | .normal,s | .ret,s=>E3 C res r fr css t g as bs .gj s
 | .panic c,s=>∃ p,c=gn p∧lp p=true∧E3 C res r fr css t g as bs p s
 | _,_=>False
theorem Iq (C:bI) (res:List eA) (r:AV) (fr:Option Nat) (css:List (List AV)) (t g:Nat) (as:List (Option AV)) (bs:List Nat) (s:S):Au C res r fr css t g as bs .normal s=E3 C res r fr css t g as bs .gj s:=rfl
theorem Ir (C:bI) (res:List eA) (r:AV) (fr:Option Nat) (css:List (List AV)) (t g:Nat) (as:List (Option AV)) (bs:List Nat) (s:S):Au C res r fr css t g as bs .ret s=E3 C res r fr css t g as bs .gj s:=rfl
def N7 (C:bI) (cf:E2) (r:AV) (fr:Option Nat) (css:List (List AV)) (s:S):Prop :=
 aw C cf.pre (nU fun s1=>ah (bZ s1 cf.caps) fun p=>aw C cf.code (Au C cf.res r fr css cf.t cf.g p.1 p.2) { (s1.put (some cf.t) (.kY cf.g p.1 p.2)) with nx:=s1.nx + 2 }) s
def dK (C:bI) (res:List eA) (r:AV) (fr:Option Nat) (css:List (List AV)) (g:Nat) (caps:List aQ) (t:Nat) (code:aK):S→Prop:=fun s1=>ah (bZ s1 caps) fun p=>aw C code (Au C res r fr css t g p.1 p.2) { (s1.put (some t) (.kY g p.1 p.2)) with nx:=s1.nx + 2 }
def Ml (C:bI) (res:List eA) (r:AV) (fr:Option Nat) (css:List (List AV)) (g:Nat) (t:Nat) (code:aK) (s:S) (p:List (Option AV) × List Nat):Prop:=aw C code (Au C res r fr css t g p.1 p.2) { (s.put (some t) (.kY g p.1 p.2)) with nx:=s.nx + 2 }
theorem LP {C:bI} (nt:Nat) (res:List eA) (pre:aK) (g:Nat) (caps:List aQ) (t:Nat) (code:aK) (r:AV) (fr:Option Nat) (css:List (List AV)) (s:S):N7 C ⟨nt,res,pre,g,caps,t,code⟩ r fr css s=aw C pre (nU (dK C res r fr css g caps t code)) s:=rfl
theorem Na {C:bI} (res:List eA) (r:AV) (fr:Option Nat) (css:List (List AV)) (g:Nat) (caps:List aQ) (t:Nat) (code:aK) (sl:List (Nat × SV)) (bx:List (Nat × bA)) (lv:List (Nat × Nat)) (nx:Nat) :
  dK C res r fr css g caps t code ⟨sl,bx,lv,nx⟩=ah (bZ ⟨sl,bx,lv,nx⟩ caps) (Ml C res r fr css g t code ⟨sl,bx,lv,nx⟩):=rfl
theorem LQ {C:bI} (res:List eA) (r:AV) (fr:Option Nat) (css:List (List AV)) (g:Nat) (t:Nat) (code:aK) (sl:List (Nat × SV)) (bx:List (Nat × bA)) (lv:List (Nat × Nat)) (nx:Nat) (as:List (Option AV)) (bs:List Nat) :
  Ml C res r fr css g t code ⟨sl,bx,lv,nx⟩ (as,bs)=aw C code (Au C res r fr css t g as bs) ⟨(t,.kY g as bs) :: sl,bx,lv,nx + 2⟩:=rfl
@[congr] theorem N8 {C:bI} (res:List eA) (r:AV) (fr:Option Nat) (css:List (List AV)) (g:Nat) (caps:List aQ) (t:Nat) (code:aK) (s:S):dK C res r fr css g caps t code s=dK C res r fr css g caps t code s:=rfl
@[congr] theorem NC {C:bI} (res:List eA) (r:AV) (fr:Option Nat) (css:List (List AV)) (g:Nat) (t:Nat) (code:aK) (s:S) {p p':List (Option AV) × List Nat} (h:p=p'):Ml C res r fr css g t code s p=Ml C res r fr css g t code s p':=by rw [h]
theorem E4 (nt:Nat) (res:List eA) (pre:aK) (g:Nat) (caps:List aQ) (t:Nat) (code:aK) (keep:List Nat):({ (⟨nt,res,pre,g,caps,t,code⟩:E2) with code:=(flat keep 0 (⟨nt,res,pre,g,caps,t,code⟩:E2).code).1 }:E2)=⟨nt,res,pre,g,caps,t,(flat keep 0 code).1⟩:=rfl
section
variable {P:Program}
def tr:=And.intro @LP (And.intro @Na (And.intro @LQ (And.intro @E4 (And.intro @Iq (And.intro @Ir (And.intro @Ip (And.intro @E0 @E1)))))))
end
end Go.Eng
namespace Go.Eng
open Go
section
open Z
def bB:List AV:=[.int .i64 0,.int .i64 0,.int .i64 0,.int .i64 0,.int .i64 0,.int .i64 0,.int .i64 0,.int .i64 0,.int .i64 0,.int .i64 0,.bool false,.bool false,.int .i64 0,.int .i64 0,.int .i64 0,.int .i64 0,.int .i64 0,.int .i64 0,.int .i64 0,.int .i64 0,.int .i64 0,.int .i64 0,.bool false,.bool false,.int .i64 0,.int .i64 0,.int .i64 0,.int .i64 0,.int .i64 0,.int .i64 0,.int .i64 0,.int .i64 0,.int .i64 0,.int .i64 0,.bool false,.bool false,.int .i64 0,.int .i64 0,.int .i64 0,.int .i64 0,.int .i64 0,.int .i64 0,.int .i64 0,.int .i64 0,.int .i64 0,.int .i64 0,.bool false,.bool false,.int .i64 0,.int .i64 0,.int .i64 0,.int .i64 0,.int .i64 0,.int .i64 0,.int .i64 0,.int .i64 0,.int .i64 0,.int .i64 0,.bool false,.bool false,.int .i64 0,.int .i64 0,.int .i64 0,.int .i64 0,.int .i64 0,.int .i64 0,.int .i64 0,.int .i64 0,.int .i64 0,.int .i64 0,.bool false,.bool false,.int .i64 0,.int .i64 0,.int .i64 0,.int .i64 0,.int .i64 0,.int .i64 0,.int .i64 0,.int .i64 0,.int .i64 0,.int .i64 0,.bool false,.bool false,.int .i64 0,.int .i64 0,.int .i64 0,.int .i64 0,.int .i64 0,.int .i64 0,.int .i64 0,.int .i64 0,.int .i64 0,.int .i64 0,.bool false,.bool false,.int .i64 0,.int .i64 0,.int .i64 0,.int .i64 0,.int .i64 0,.int .i64 0,.bool false,.int .i64 0,.int .i64 0,.int .i64 0,.int .i64 0,.int .i64 0,.int .i64 0,.int .i64 0,.int .i64 0,.int .i64 0,.int .i64 0,.int .i64 0,.int .i64 0,.int .i64 0,.int .i64 0,.int .i64 0,.int .i64 0,.aN,.int .i64 0,.int .i64 0,.int .i64 0,.int .i64 0,.int .i64 0,.int .i64 0,.int .i64 0,.int .i64 0,.int .i64 0,.int .i64 0,.int .i64 0,.int .i64 0,.int .i64 0,.int .i64 0,.int .i64 0,.int .i64 0,.int .i64 0,.int .i64 0]
def dM (g0 g1 g2 g3 g4 g5:Nat):eV:=⟨48,[.tmp 4],r [V 4 (F)] (j (r [M 7 1,o 8 (h 7),o 9 (bb .gtr 8 (i 60))] (c 9 (r [o 10 (.call g0 []),M 4 10] y) z)) (j (r [V 5 (i 0)] (u 0 (.loop (j (r [M 11 5,M 12 1,o 13 (h 12),o 14 (b .lss 11 13)] (c 14 z (.exit 0))) (j (u 1 (j (r [M 17 1,M 18 5,o 19 (a 17 18 6),o 20 (f 19 0),o 21 (l 20),o 22 (h 21),o 23 (bb .gtr 22 (i 20))] (c 23 (r [o 24 (.call g0 []),M 4 24] y) z)) (r [M 25 1,M 26 5,o 27 (a 25 26 6),o 28 (L 27 6),o 29 (.call g1 [t 28]),M 30 1,M 31 5,o 32 (a 30 31 6),o 33 (L 32 6),o 34 (.call g2 [t 33]),o 35 (.bb true (t 29) (t 34))] (c 35 (r [V 4 (F)] y) z)))) (R [M 15 5,o 16 (bb .add 15 (i 1)),M 5 16])))))) (r [M 36 0,o 37 (.call g3 [t 36]),o 6 (.alloc bq),n (s 6 37 131)] (r [o 38 (L 6 131),M 39 1,o 40 (.call g4 [t 38,t 39]),o 41 (L 6 131),M 42 1,o 43 (.call g5 [t 41,t 42]),o 44 (.bb false (t 40) (t 43)),M 45 44,p 46 (.call g0 []) 45,o 47 (P 45 46),M 4 47] y))))⟩
def eo (g0 g1 g2 g3 g4:Nat):eV:=⟨17,[.tmp 4],r [V 4 (F)] (r [M 6 0,o 7 (.call g0 [t 6]),o 5 (.alloc bq),n (s 5 7 131)] (r [o 8 (L 5 131),o 9 (L 5 131),M 10 1,o 11 (.call g1 [t 10,k (F)]),o 12 (.call g2 [t 9,t 11]),o 13 (.call g3 [t 8,t 12]),M 14 13,p 15 (.call g4 []) 14,o 16 (P 14 15),M 4 16] y))⟩
def gu (g0:Nat):eV:=⟨6,[.cell 2 (some 138)],r [o 1 (w 0),o 2 (.alloc bB)] (r [o 3 (L 1 131),o 4 (.call g0 [t 3]),o 5 (.build bB [(0,1,k (i 1)),(3,117,t 4)]),n (s 2 5 138)] y)⟩
def gW (f_cabinet_Good f_cabinet_counts f_lamp_Pattern f_cabinet_reds f_cabinet_more f_cabinet_tick f_cabinet_Step_1:Nat):eV:=⟨145,[.cell 6 (some 138),.cell 7 (some 8),.tmp 8],
  .seq (.eI [
    ⟨(some 3),.o (.box (.t 0)),none⟩,
    ⟨(some 4),.o (.box (.t 1)),none⟩,
    ⟨(some 5),.o (.box (.t 2)),none⟩,
    ⟨(some 6),.o (.alloc bB),none⟩,
    ⟨(some 7),.o (.alloc [(.int .i64 0),(.int .i64 0),(.int .i64 0),(.int .i64 0),(.int .i64 0),(.int .i64 0),(.int .i64 0),(.int .i64 0)]),none⟩,
    ⟨(some 8),.o (.mv (.k .aN)),none⟩])
  (.seq (.AK [
    ⟨(some 15),.ld (.t 4) (some 138),none⟩,
    ⟨(some 16),.ld (.t 5) (some 6),none⟩,
    ⟨(some 17),.call f_cabinet_Good [(.t 16)],none⟩,
    ⟨(some 9),.alloc bB,none⟩,
    ⟨none,.st (.t 9) (.t 15) 138,none⟩,
    ⟨(some 10),.mv (.t 17),none⟩])
  (.seq (.eI [
    ⟨(some 18),.o (.ld (.t 5) (some 6)),none⟩,
    ⟨(some 19),.o (.fa (.t 4) 136),none⟩,
    ⟨(some 20),.o (.ld (.t 19) none),none⟩,
    ⟨(some 21),.call f_cabinet_counts [(.t 18),(.t 20)],none⟩,
    ⟨none,.o (.st (.t 5) (.t 21) 6),none⟩])
  (.seq (.eI [
    ⟨(some 22),.o (.fa (.t 4) 137),none⟩,
    ⟨(some 23),.o (.ld (.t 22) none),none⟩,
    ⟨(some 24),.o (.bin .add (.t 23) (.k (.int .i64 1))),none⟩,
    ⟨(some 25),.o (.fa (.t 4) 137),none⟩,
    ⟨none,.o (.st (.t 25) (.t 24) 1),none⟩])
  (.seq (.eI [
    ⟨(some 26),.o (.fa (.t 5) 3),none⟩,
    ⟨(some 27),.o (.ld (.t 26) none),none⟩,
    ⟨(some 28),.o (.fa (.t 4) 136),none⟩,
    ⟨none,.o (.st (.t 28) (.t 27) 1),none⟩])
  (.seq (.eI [
    ⟨(some 29),.o (.ld (.t 3) (some 131)),none⟩,
    ⟨(some 30),.call f_lamp_Pattern [(.t 29)],none⟩,
    ⟨(some 11),.o (.alloc [(.int .i64 0),(.int .i64 0),(.int .i64 0),(.int .i64 0),(.int .i64 0),(.int .i64 0),(.int .i64 0),(.int .i64 0)]),none⟩,
    ⟨none,.o (.st (.t 11) (.t 30) 8),none⟩])
  (.join (.seq (.eI [
     ⟨(some 31),.o (.fa (.t 4) 0),none⟩,
     ⟨(some 32),.o (.ld (.t 31) none),none⟩])
   (.block 0 (.seq (.eI [
      ⟨(some 50),.o (.bin .eql (.t 32) (.k (.int .i64 1))),none⟩,
      ⟨(some 49),.o (.mv (.t 50)),none⟩])
    (.cond (.t 49) (.seq (.eI [
       ⟨(some 51),.call f_cabinet_reds [],none⟩,
       ⟨none,.o (.st (.t 11) (.t 51) 8),none⟩])
     (.seq (.eI [
       ⟨(some 52),.o (.fa (.t 4) 1),none⟩,
       ⟨(some 53),.o (.ld (.t 52) none),none⟩,
       ⟨(some 54),.call f_cabinet_more [(.t 53)],none⟩,
       ⟨(some 55),.o (.fa (.t 4) 1),none⟩,
       ⟨none,.o (.st (.t 55) (.t 54) 1),none⟩])
     (.seq (.eI [
       ⟨(some 56),.o (.fa (.t 4) 1),none⟩,
       ⟨(some 57),.o (.ld (.t 56) none),none⟩,
       ⟨(some 58),.o (.fa (.t 3) 118),none⟩,
       ⟨(some 59),.o (.ld (.t 58) none),none⟩,
       ⟨(some 60),.o (.bin .geq (.t 57) (.t 59)),none⟩])
     (.cond (.t 60) (.eI [
        ⟨(some 61),.o (.fa (.t 4) 0),none⟩,
        ⟨none,.o (.st (.t 61) (.k (.int .i64 2)) 1),none⟩,
        ⟨(some 62),.o (.fa (.t 4) 1),none⟩,
        ⟨none,.o (.st (.t 62) (.k (.int .i64 0)) 1),none⟩])
      (.skip)))))
     (.seq (.eI [
       ⟨(some 64),.o (.bin .eql (.t 32) (.k (.int .i64 2))),none⟩,
       ⟨(some 63),.o (.mv (.t 64)),none⟩])
     (.cond (.t 63) (.eI [
        ⟨(some 66),.o (.ld (.t 3) (some 131)),none⟩,
        ⟨(some 67),.o (.ld (.t 4) (some 138)),none⟩,
        ⟨(some 68),.o (.ld (.t 5) (some 6)),none⟩,
        ⟨(some 69),.call f_cabinet_tick [(.t 66),(.t 67),(.t 68)],none⟩,
        ⟨(some 65),.o (.mv (.t 69)),none⟩,
        ⟨(some 70),.o (.ext (.t 65) 0),none⟩,
        ⟨(some 71),.o (.ext (.t 65) 1),none⟩,
        ⟨none,.o (.st (.t 4) (.t 70) 138),none⟩,
        ⟨none,.o (.st (.t 11) (.t 71) 8),none⟩])
      (.seq (.eI [
        ⟨(some 33),.o (.fa (.t 4) 1),none⟩,
        ⟨(some 34),.o (.ld (.t 33) none),none⟩,
        ⟨(some 35),.call f_cabinet_more [(.t 34)],none⟩,
        ⟨(some 36),.o (.fa (.t 4) 1),none⟩,
        ⟨none,.o (.st (.t 36) (.t 35) 1),none⟩])
      (.seq (.eI [
        ⟨(some 37),.o (.fa (.t 4) 1),none⟩,
        ⟨(some 38),.o (.ld (.t 37) none),none⟩,
        ⟨(some 39),.o (.fa (.t 3) 120),none⟩,
        ⟨(some 40),.o (.ld (.t 39) none),none⟩,
        ⟨(some 41),.o (.bin .geq (.t 38) (.t 40)),none⟩,
        ⟨(some 42),.o (.mv (.t 41)),none⟩,
        ⟨(some 43),.o (.fa (.t 5) 5),(some (42,true))⟩,
        ⟨(some 44),.o (.ld (.t 43) none),(some (42,true))⟩,
        ⟨(some 45),.o (.pick (.t 42) (.t 44) (.k (.bool false))),none⟩])
      (.cond (.t 45) (.eI [
         ⟨(some 46),.o (.fa (.t 4) 0),none⟩,
         ⟨none,.o (.st (.t 46) (.k (.int .i64 1)) 1),none⟩,
         ⟨(some 47),.o (.fa (.t 4) 1),none⟩,
         ⟨none,.o (.st (.t 47) (.k (.int .i64 0)) 1),none⟩,
         ⟨(some 48),.o (.fa (.t 4) 2),none⟩,
         ⟨none,.o (.st (.t 48) (.k (.int .i64 0)) 1),none⟩])
       (.skip))))))))))
  (.seq (.eI [
    ⟨(some 12),.o (.alloc [.aN]),none⟩])
  (.seq (.eI [
    ⟨(some 72),.IL f_cabinet_Step_1 [(.t 12),(.t 4)],none⟩,
    ⟨(some 13),.o (.mv (.t 72)),none⟩])
  (.seq (.eI [
    ⟨(some 73),.o (.fa (.t 9) 0),none⟩,
    ⟨(some 74),.o (.ld (.t 73) none),none⟩,
    ⟨(some 75),.o (.bin .eql (.t 74) (.k (.int .i64 2))),none⟩,
    ⟨(some 76),.o (.mv (.t 75)),none⟩,
    ⟨(some 77),.o (.fa (.t 4) 0),(some (76,true))⟩,
    ⟨(some 78),.o (.ld (.t 77) none),(some (76,true))⟩,
    ⟨(some 79),.o (.bin .eql (.t 78) (.k (.int .i64 2))),(some (76,true))⟩,
    ⟨(some 80),.o (.pick (.t 76) (.t 79) (.k (.bool false))),none⟩,
    ⟨(some 14),.o (.mv (.t 80)),none⟩])
  (.seq (.eI [
    ⟨(some 81),.o (.mv (.t 13)),none⟩,
    ⟨(some 82),.o (.mv (.t 10)),none⟩,
    ⟨(some 83),.o (.un .not (.t 82)),none⟩,
    ⟨(some 84),.dw false (.t 81) [(.t 83),(.k (.int .i64 5)),(.k (.int .i64 0))],none⟩])
  (.seq (.eI [
    ⟨(some 85),.o (.mv (.t 13)),none⟩,
    ⟨(some 86),.o (.fa (.t 9) 0),none⟩,
    ⟨(some 87),.o (.ld (.t 86) none),none⟩,
    ⟨(some 88),.o (.bin .eql (.t 87) (.k (.int .i64 2))),none⟩,
    ⟨(some 89),.o (.mv (.t 88)),none⟩,
    ⟨(some 90),.o (.fa (.t 4) 0),(some (89,true))⟩,
    ⟨(some 91),.o (.ld (.t 90) none),(some (89,true))⟩,
    ⟨(some 92),.o (.bin .eql (.t 91) (.k (.int .i64 3))),(some (89,true))⟩,
    ⟨(some 93),.o (.pick (.t 89) (.t 92) (.k (.bool false))),none⟩,
    ⟨(some 94),.o (.fa (.t 4) 2),none⟩,
    ⟨(some 95),.o (.ld (.t 94) none),none⟩,
    ⟨(some 96),.dw false (.t 85) [(.t 93),(.k (.int .i64 2)),(.t 95)],none⟩])
  (.seq (.eI [
    ⟨(some 97),.o (.mv (.t 13)),none⟩,
    ⟨(some 98),.o (.fa (.t 4) 0),none⟩,
    ⟨(some 99),.o (.ld (.t 98) none),none⟩,
    ⟨(some 100),.o (.fa (.t 9) 0),none⟩,
    ⟨(some 101),.o (.ld (.t 100) none),none⟩,
    ⟨(some 102),.o (.bin .neq (.t 99) (.t 101)),none⟩,
    ⟨(some 103),.o (.fa (.t 4) 0),none⟩,
    ⟨(some 104),.o (.ld (.t 103) none),none⟩,
    ⟨(some 105),.dw false (.t 97) [(.t 102),(.k (.int .i64 1)),(.t 104)],none⟩])
  (.seq (.eI [
    ⟨(some 106),.o (.mv (.t 13)),none⟩,
    ⟨(some 107),.o (.mv (.t 14)),none⟩,
    ⟨(some 108),.o (.mv (.t 107)),none⟩,
    ⟨(some 109),.o (.fa (.t 4) 3),(some (108,true))⟩,
    ⟨(some 110),.o (.fa (.t 109) 106),(some (108,true))⟩,
    ⟨(some 111),.o (.fa (.t 110) 0),(some (108,true))⟩,
    ⟨(some 112),.o (.ld (.t 111) none),(some (108,true))⟩,
    ⟨(some 113),.o (.fa (.t 9) 3),(some (108,true))⟩,
    ⟨(some 114),.o (.fa (.t 113) 106),(some (108,true))⟩,
    ⟨(some 115),.o (.fa (.t 114) 0),(some (108,true))⟩,
    ⟨(some 116),.o (.ld (.t 115) none),(some (108,true))⟩,
    ⟨(some 117),.o (.bin .neq (.t 112) (.t 116)),(some (108,true))⟩,
    ⟨(some 118),.o (.pick (.t 108) (.t 117) (.k (.bool false))),none⟩,
    ⟨(some 119),.o (.fa (.t 4) 3),none⟩,
    ⟨(some 120),.o (.fa (.t 119) 106),none⟩,
    ⟨(some 121),.o (.fa (.t 120) 0),none⟩,
    ⟨(some 122),.o (.ld (.t 121) none),none⟩,
    ⟨(some 123),.dw false (.t 106) [(.t 118),(.k (.int .i64 3)),(.t 122)],none⟩])
  (.seq (.eI [
    ⟨(some 124),.o (.mv (.t 13)),none⟩,
    ⟨(some 125),.o (.mv (.t 14)),none⟩,
    ⟨(some 126),.o (.mv (.t 125)),none⟩,
    ⟨(some 127),.o (.fa (.t 4) 3),(some (126,true))⟩,
    ⟨(some 128),.o (.fa (.t 127) 96),(some (126,true))⟩,
    ⟨(some 129),.o (.fa (.t 128) 0),(some (126,true))⟩,
    ⟨(some 130),.o (.ld (.t 129) none),(some (126,true))⟩,
    ⟨(some 131),.o (.fa (.t 9) 3),(some (126,true))⟩,
    ⟨(some 132),.o (.fa (.t 131) 96),(some (126,true))⟩,
    ⟨(some 133),.o (.fa (.t 132) 0),(some (126,true))⟩,
    ⟨(some 134),.o (.ld (.t 133) none),(some (126,true))⟩,
    ⟨(some 135),.o (.bin .neq (.t 130) (.t 134)),(some (126,true))⟩,
    ⟨(some 136),.o (.pick (.t 126) (.t 135) (.k (.bool false))),none⟩,
    ⟨(some 137),.o (.fa (.t 4) 3),none⟩,
    ⟨(some 138),.o (.fa (.t 137) 96),none⟩,
    ⟨(some 139),.o (.fa (.t 138) 0),none⟩,
    ⟨(some 140),.o (.ld (.t 139) none),none⟩,
    ⟨(some 141),.dw false (.t 124) [(.t 136),(.k (.int .i64 4)),(.t 140)],none⟩])
  (.seq (.vW [
    ⟨(some 142),.ld (.t 4) (some 138),none⟩,
    ⟨(some 143),.ld (.t 11) (some 8),none⟩,
    ⟨(some 144),.ld (.t 12) none,none⟩,
    ⟨none,.st (.t 6) (.t 142) 138,none⟩,
    ⟨none,.st (.t 7) (.t 143) 8,none⟩,
    ⟨(some 8),.mv (.t 144),none⟩] [(1,3),(2,3),(2,4)])
  (.ret))))))))))))))))⟩
def je (g0 g1 g2:Nat):eV:=⟨37,[.tmp 0],r [V 0 (F)] (r [o 7 (.call g0 []),o 1 (.alloc bq),n (s 1 7 131)] (r [o 8 (L 1 131),o 9 (.call g1 [t 8]),o 2 (.alloc bB),n (s 2 9 138)] (j (r [V 3 (i 0)] (u 0 (.loop (j (r [M 10 3,o 11 (bb .lss 10 (i 60))] (c 11 z (.exit 0))) (j (u 1 (j (r [o 14 (f 2 0),o 15 (l 14),o 16 (bb .neq 15 (i 1))] (c 16 (r [V 0 (F)] y) z)) (r [o 18 (L 1 131),o 19 (L 2 138),o 20 (.build [.aN,i 0,i 0,i 0,i 0,F] []),o 21 (.call g2 [t 18,t 19,t 20]),M 17 21,o 22 (e 17 0),o 23 (e 17 1),o 24 (e 17 2),o 4 (.alloc bB),o 5 (.alloc [i 0,i 0,i 0,i 0,i 0,i 0,i 0,i 0]),n (s 4 22 138),n (s 5 23 8),M 6 24] (j (r [o 25 (.ym (t 5) (k (i 3)) 8 1),o 26 (l 25),o 27 (bb .neq 26 (i 1))] (c 27 (r [V 0 (F)] y) z)) (R [o 28 (L 4 138),n (s 2 28 138)]))))) (R [M 12 3,o 13 (bb .add 12 (i 1)),M 3 13])))))) (r [o 29 (f 2 0),o 30 (l 29),o 31 (bb .eql 30 (i 2)),M 32 31,p 33 (f 2 137) 32,p 34 (l 33) 32,p 35 (bb .eql 34 (i 60)) 32,o 36 (P 32 35),M 0 36] y))))⟩
def jL (g0:Nat):eV:=⟨27,[.tmp 2],r [o 1 (w 0),V 2 (F)] (r [o 3 (f 1 0),o 4 (l 3),o 5 (h 4),o 6 (bb .leq 5 (i 16)),M 7 6,p 8 (f 1 1) 7,p 9 (l 8) 7,p 10 (.call g0 [t 9,k (i 256)]) 7,o 11 (P 7 10),M 12 11,p 13 (f 1 4) 12,p 14 (l 13) 12,p 15 (.call g0 [t 14,k (i 256)]) 12,o 16 (P 12 15),M 17 16,p 18 (f 1 2) 17,p 19 (l 18) 17,p 20 (.call g0 [t 19,k (i 16)]) 17,o 21 (P 17 20),M 22 21,p 23 (f 1 3) 22,p 24 (l 23) 22,p 25 (.call g0 [t 24,k (i 16)]) 22,o 26 (P 22 25),M 2 26] y)⟩
def gX (g0:Nat):eV:=⟨32,[.tmp 2],r [o 1 (w 0),V 2 (F)] (r [V 3 (.fn (.func g0) [] [])] (r [o 4 (f 1 0),o 5 (l 4),o 6 (h 5),o 7 (bb .leq 6 (i 16)),M 8 7,p 9 (m 3) 8,p 10 (f 1 1) 8,p 11 (l 10) 8,p 12 (.dw (t 9) [t 11,k (i 255)]) 8,o 13 (P 8 12),M 14 13,p 15 (m 3) 14,p 16 (f 1 4) 14,p 17 (l 16) 14,p 18 (.dw (t 15) [t 17,k (i 255)]) 14,o 19 (P 14 18),M 20 19,p 21 (m 3) 20,p 22 (f 1 2) 20,p 23 (l 22) 20,p 24 (.dw (t 21) [t 23,k (i 15)]) 20,o 25 (P 20 24),M 26 25,p 27 (m 3) 26,p 28 (f 1 3) 26,p 29 (l 28) 26,p 30 (.dw (t 27) [t 29,k (i 15)]) 26,o 31 (P 26 30),M 2 31] y))⟩
def gY (g0 g1 g2 g3:Nat):eV:=⟨68,[.tmp 4],r [o 2 (w 0),V 4 (F)] (r [V 5 (i 0),V 6 (i 0)] (r [V 7 .aN] (j (r [M 12 1,o 13 (h 12),V 14 (i 0)] (u 0 (.loop (r [o 15 (b .lss 14 13)] (j (c 15 z (.exit 0)) (j (u 1 (r [o 16 (a 12 14 6),o 17 (L 16 6),o 9 (.alloc [.aN,i 0,i 0,i 0,i 0,F]),n (s 9 17 6)] (r [o 18 (L 9 6),M 19 5,o 20 (.call g0 [t 18,t 19]),n (s 9 20 6)] (r [o 21 (f 9 3),o 22 (l 21),M 23 6,o 24 (f 9 4),o 25 (l 24),o 26 (b .or 23 25),M 5 22,M 6 26] (R [M 27 7,M 28 5,o 29 (.iM g1 1 [t 28]),o 30 (.app g1 1 8 (t 27) (t 29)),M 7 30]))))) (R [o 31 (bb .add 14 (i 1)),M 14 31]))))))) (j (r [o 32 (f 2 114),o 33 (l 32),o 34 (f 2 114),o 35 (l 34),o 36 (h 35),o 37 (.mm false [t 36,k (i 4)]),o 38 (.F2 11 (t 33) none (some (t 37))),o 39 (h 38),V 40 (i 0)] (u 2 (.loop (r [o 41 (b .lss 40 39)] (j (c 41 z (.exit 2)) (j (u 3 (r [M 42 40,o 43 (a 38 40 11),o 44 (L 43 11),o 11 (.alloc cN),M 10 42,n (s 11 44 11)] (r [M 45 7,M 46 10,o 47 (.call g2 [t 45,t 46]),o 48 (f 11 10),o 49 (l 48),o 50 (b .gtr 47 49)] (c 50 (r [V 4 (F)] y) z)))) (R [o 51 (bb .add 40 (i 1)),M 40 51]))))))) (r [M 52 6,o 53 (bb .eql 52 (i 0)),M 54 53,p 55 (f 2 114) 54,p 56 (l 55) 54,p 57 (h 56) 54,p 58 (bb .eql 57 (i 0)) 54,p 59 (m 58) 54,q 60 (L 2 131) 59,q 61 (m 7) 59,q 62 (.call g3 [t 60,t 61]) 59,q 63 (f 2 130) 59,q 64 (l 63) 59,q 65 (b .leq 62 64) 59,p 66 (Q 59 65) 54,o 67 (P 54 66),M 4 67] y)))))⟩
def jM (g0 g1:Nat):eV:=⟨104,[.tmp 4],r [o 2 (w 0),V 4 (F)] (r [V 5 (i 0)] (r [o 6 (.alloc [i 0,i 0,i 0,i 0])] (r [V 7 .aN] (r [o 15 (f 2 114),o 16 (l 15),o 17 (h 16),o 18 (.mm false [t 17,k (i 4)]),M 8 18] (j (r [V 9 (i 0)] (u 0 (.loop (j (r [M 19 9,M 20 1,o 21 (h 20),o 22 (b .lss 19 21)] (c 22 z (.exit 0))) (j (u 1 (r [M 25 1,M 26 9,o 27 (a 25 26 6),o 28 (L 27 6),M 29 5,o 30 (.call g0 [t 28,t 29]),o 10 (.alloc [.aN,i 0,i 0,i 0,i 0,F]),n (s 10 30 6)] (r [o 31 (f 10 3),o 32 (l 31),M 5 32] (j (r [o 33 (f 10 4),o 34 (l 33),o 35 (bb .neq 34 (i 0))] (c 35 (r [V 4 (F)] y) z)) (r [V 11 (i 0)] (j (r [V 12 (i 0)] (u 2 (.loop (j (r [M 36 12,M 37 8,o 38 (b .lss 36 37)] (c 38 z (.exit 2))) (j (u 3 (j (r [M 41 5,M 42 12,o 43 (.kg .u64 (t 42)),o 44 (b .shr 41 43),o 45 (bb .and 44 (i 1)),o 46 (bb .eql 45 (i 1))] (c 46 (r [V 11 (i 1)] (R [M 47 12,o 48 (A 6 47 4 1),o 49 (l 48),o 50 (bb .add 49 (i 1)),o 51 (A 6 47 4 1),n (s 51 50 1)])) (R [M 52 12,o 53 (A 6 52 4 1),n (ss 53 (i 0) 1)]))) (r [M 54 12,o 55 (A 6 54 4 1),o 56 (l 55),o 57 (f 2 114),o 58 (l 57),M 59 12,o 60 (a 58 59 11),o 61 (f 60 10),o 62 (l 61),o 63 (b .gtr 56 62)] (c 63 (r [V 4 (F)] y) z)))) (R [M 39 12,o 40 (bb .add 39 (i 1)),M 12 40])))))) (R [M 64 7,M 65 11,o 66 (.iM g1 1 [t 65]),o 67 (.app g1 1 8 (t 64) (t 66)),M 7 67]))))))) (R [M 23 9,o 24 (bb .add 23 (i 1)),M 9 24])))))) (j (r [M 68 8,o 69 (bb .eql 68 (i 0)),M 70 69,q 71 (f 2 129) 70,q 72 (l 71) 70,q 73 (bb .lss 72 (i 1)) 70,o 74 (Q 70 73)] (c 74 (r [V 4 (T)] y) z)) (r [V 13 (i 0)] (j (r [V 14 (i 0)] (u 4 (.loop (j (r [M 75 14,M 76 7,o 77 (h 76),o 78 (b .lss 75 77)] (c 78 z (.exit 4))) (j (u 5 (r [M 81 13,M 82 7,M 83 14,o 84 (a 82 83 1),o 85 (l 84),o 86 (b .add 81 85),M 13 86] (j (r [M 87 14,o 88 (f 2 129),o 89 (l 88),o 90 (b .geq 87 89)] (c 90 (R [M 91 13,M 92 7,M 93 14,o 94 (f 2 129),o 95 (l 94),o 96 (b .sub 93 95),o 97 (a 92 96 1),o 98 (l 97),o 99 (b .sub 91 98),M 13 99]) z)) (r [M 100 13,o 101 (f 2 130),o 102 (l 101),o 103 (b .gtr 100 102)] (c 103 (r [V 4 (F)] y) z))))) (R [M 79 14,o 80 (bb .add 79 (i 1)),M 14 80])))))) (r [V 4 (T)] y)))))))))⟩
def jN (g0:Nat):eV:=⟨87,[.tmp 4],r [o 2 (w 0),V 4 .aN] (r [V 5 .aN] (r [o 12 (f 2 130),o 13 (l 12),M 6 13] (r [o 7 (.alloc [i 0,i 0,i 0,i 0])] (j (r [V 8 (i 0)] (u 0 (.loop (j (r [M 14 8,M 15 1,o 16 (h 15),o 17 (b .lss 14 16)] (c 17 z (.exit 0))) (j (u 1 (r [M 20 1,M 21 8,o 22 (a 20 21 6),o 23 (L 22 6),o 9 (.alloc [.aN,i 0,i 0,i 0,i 0,F]),n (s 9 23 6)] (r [o 24 (f 9 4),n (ss 24 (i 0) 1)] (r [o 25 (f 9 1),o 26 (l 25),o 27 (bb .and 26 (i 255)),o 28 (f 9 1),n (s 28 27 1)] (r [V 10 (F)] (j (r [V 11 (i 0)] (u 2 (.loop (j (r [M 29 11,o 30 (f 2 114),o 31 (l 30),o 32 (h 31),o 33 (b .lss 29 32)] (c 33 z (.exit 2))) (j (u 3 (j (r [o 36 (f 9 3),o 37 (l 36),M 38 11,o 39 (.kg .u64 (t 38)),o 40 (b .shr 37 39),o 41 (bb .and 40 (i 1)),o 42 (bb .eql 41 (i 1))] (c 42 (R [M 43 11,o 44 (A 7 43 4 1),o 45 (l 44),o 46 (bb .add 45 (i 1)),o 47 (A 7 43 4 1),n (s 47 46 1)]) (R [M 48 11,o 49 (A 7 48 4 1),n (ss 49 (i 0) 1)]))) (R [M 50 10,M 51 50,q 52 (m 11) 51,q 53 (A 7 52 4 1) 51,q 54 (l 53) 51,q 55 (f 2 114) 51,q 56 (l 55) 51,q 57 (m 11) 51,q 58 (a 56 57 11) 51,q 59 (f 58 10) 51,q 60 (l 59) 51,q 61 (b .gtr 54 60) 51,o 62 (Q 51 61),M 10 62]))) (R [M 34 11,o 35 (bb .add 34 (i 1)),M 11 35])))))) (j (r [o 63 (f 9 3),o 64 (l 63),o 65 (bb .and 64 (i 15)),o 66 (bb .neq 65 (i 0)),M 67 66,p 68 (m 6) 67,p 69 (bb .eql 68 (i 0)) 67,p 70 (m 69) 67,q 71 (m 10) 70,p 72 (Q 70 71) 67,o 73 (P 67 72)] (c 73 (r [o 74 (f 9 3),n (ss 74 (i 0) 1)] (R [o 75 (.build [i 0,i 0,i 0,i 0] []),n (s 7 75 4)])) z)) (j (r [o 76 (f 9 3),o 77 (l 76),o 78 (bb .and 77 (i 15)),o 79 (bb .neq 78 (i 0))] (c 79 (R [M 80 6,o 81 (bb .sub 80 (i 1)),M 6 81]) z)) (R [M 82 5,o 83 (L 9 6),o 84 (.iM g0 6 [t 83]),o 85 (.app g0 6 64 (t 82) (t 84)),M 5 85]))))))))) (R [M 18 8,o 19 (bb .add 18 (i 1)),M 8 19])))))) (r [M 86 5,M 4 86] y)))))⟩
def ga (g0:Nat):eV:=⟨11,[.cell 4 (some 6)],r [o 2 (w 0),o 4 (.alloc [.aN,i 0,i 0,i 0,i 0,F])] (j (r [o 5 (L 2 6),o 6 (.call g0 [t 5]),o 7 (.un .not (t 6))] (c 7 (r [M 8 1,o 9 (.build [.aN,i 0,i 0,i 0,i 0,F] [(3,1,t 8)]),n (s 4 9 6)] y) z)) (r [o 10 (L 2 6),n (s 4 10 6)] y))⟩
def gZ:eV:=⟨23,[.cell 2 (some 8)],r [o 1 (w 0),o 2 (.alloc [i 0,i 0,i 0,i 0,i 0,i 0,i 0,i 0])] (r [o 3 (.alloc [i 0,i 0,i 0,i 0,i 0,i 0,i 0,i 0])] (j (r [o 6 (f 1 121),o 7 (L 6 8),V 8 (i 0)] (u 0 (.loop (r [o 9 (bb .lss 8 (i 8))] (j (c 9 z (.exit 0)) (j (u 1 (r [M 10 8,o 11 (.C2 (t 7) (t 8) 8 1 none),M 4 10,M 5 11] (r [M 12 5] (u 2 (r [o 14 (bb .eql 12 (i 1)),M 13 14] (c 13 (R [M 15 4,o 16 (A 3 15 8 1),n (ss 16 (i 33) 1)]) (r [o 18 (bb .eql 12 (i 2)),M 17 18] (c 17 (R [M 19 4,o 20 (A 3 19 8 1),n (ss 20 (i 34) 1)]) z)))))))) (R [o 21 (bb .add 8 (i 1)),M 8 21]))))))) (r [o 22 (L 3 8),n (s 2 22 8)] y)))⟩
def hJ:eV:=⟨10,[.cell 0 (some 8)],r [o 0 (.alloc [i 0,i 0,i 0,i 0,i 0,i 0,i 0,i 0])] (r [o 1 (.alloc [i 0,i 0,i 0,i 0,i 0,i 0,i 0,i 0])] (j (r [V 3 (i 0)] (u 0 (.loop (r [o 4 (bb .lss 3 (i 8))] (j (c 4 z (.exit 0)) (j (u 1 (r [M 5 3,M 2 5] (R [M 6 2,o 7 (A 1 6 8 1),n (ss 7 (i 1) 1)]))) (R [o 8 (bb .add 3 (i 1)),M 3 8]))))))) (r [o 9 (L 1 8),n (s 0 9 8)] y)))⟩
def hY:eV:=⟨7,[.tmp 2],r [V 2 (i 0)] (r [M 3 0,o 4 (.mm true [t 3,k (i 0)]),o 5 (.mm false [t 4,k (i 9999)]),o 6 (bb .add 5 (i 1)),M 2 6] y)⟩
def cQ (e_api_Event:Nat):eV:=⟨17,[],
  .seq (.eI [
    ⟨(some 8),.o (.mv (.t 0)),none⟩])
  (.cond (.t 8) (.eI [
     ⟨(some 9),.o (.ld (.t 3) none),none⟩,
     ⟨(some 10),.o (.fa (.t 4) 137),none⟩,
     ⟨(some 11),.o (.ld (.t 10) none),none⟩,
     ⟨(some 12),.o (.mv (.t 1)),none⟩,
     ⟨(some 13),.o (.mv (.t 2)),none⟩,
     ⟨(some 14),.o (.build [(.int .i64 0),(.int .i64 0),(.int .i64 0)] [(0,1,(.t 11)),(1,1,(.t 12)),(2,1,(.t 13))]),none⟩,
     ⟨(some 15),.o (.iM e_api_Event 3 [(.t 14)]),none⟩,
     ⟨(some 16),.o (.app e_api_Event 3 24 (.t 9) (.t 15)),none⟩,
     ⟨none,.o (.st (.t 3) (.t 16) 1),none⟩])
   (.skip))⟩
def ia (g0:Nat):eV:=⟨10,[.cell 4 (some 6)],r [o 2 (w 0),o 4 (.alloc [.aN,i 0,i 0,i 0,i 0,F])] (j (r [o 5 (L 2 6),o 6 (.call g0 [t 5])] (c 6 (r [o 7 (L 2 6),n (s 4 7 6)] y) z)) (r [M 8 1,o 9 (.build [.aN,i 0,i 0,i 0,i 0,F] [(3,1,t 8)]),n (s 4 9 6)] y))⟩
def ic (g0 g1 g2 g3 g4:Nat):eV:=⟨78,[.cell 0 (some 131)],r [o 0 (.alloc bq)] (r [o 1 (.alloc bq)] (j (r [V 2 (i 0)] (u 0 (.loop (j (r [M 3 2,o 4 (bb .lss 3 (i 8))] (c 4 z (.exit 0))) (j (u 1 (r [M 7 2,o 8 (.build bX [(0,1,k (T)),(1,1,k (i 50)),(2,1,k (i 20)),(3,1,k (i 200)),(4,1,k (i 300)),(5,1,k (i 50)),(6,1,k (i 35)),(7,1,k (i 10)),(11,1,k (T))]),o 9 (f 1 0),o 10 (A 9 7 8 13),n (s 10 8 13)] (j (r [M 11 2,o 12 (bb .rem 11 (i 2)),o 13 (bb .eql 12 (i 1))] (c 13 (r [M 14 2,o 15 (f 1 0),o 16 (A 15 14 8 13),o 17 (f 16 8),n (ss 17 (i 70) 1)] (R [M 18 2,o 19 (f 1 0),o 20 (A 19 18 8 13),o 21 (f 20 9),n (ss 21 (i 80) 1)])) z)) (r [M 22 2,o 23 (f 1 121),o 24 (A 23 22 8 1),n (ss 24 (i 1) 1)] (r [o 25 (f 1 113),o 26 (l 25),M 27 2,o 28 (.build [i 0,.float .f64 0,.float .f64 0,.float .f64 0,.float .f64 0,i 0,i 0] [(0,1,t 27),(1,1,k (.float .f64 4621819117588971520)),(2,1,k (.float .f64 4617315517961601024)),(4,1,k (.float .f64 4602678819172646912)),(5,1,k (i 6000))]),o 29 (.iM g0 7 [t 28]),o 30 (.app g0 7 56 (t 26) (t 29)),o 31 (f 1 113),n (s 31 30 1)] (R [M 32 2,M 33 2,o 34 (bb .quo 33 (i 2)),o 35 (bb .mul 34 (i 2)),o 36 (bb .xor 35 (i 4)),o 37 (.kg .u64 (t 36)),o 38 (.bin .shl (k (i 3)) (t 37)),o 39 (.bin .andNot (k (i 255)) (t 38)),M 40 2,o 41 (.kg .u64 (t 40)),o 42 (.bin .shl (k (i 1)) (t 41)),o 43 (b .andNot 39 42),o 44 (f 1 105),o 45 (A 44 32 8 1),n (s 45 43 1)])))))) (R [M 5 2,o 6 (bb .add 5 (i 1)),M 2 6])))))) (r [o 46 (f 1 0),o 47 (.ym (t 46) (k (i 1)) 8 13),o 48 (f 47 10),n (ss 48 (i 1) 1)] (r [o 49 (f 1 0),o 50 (.ym (t 49) (k (i 5)) 8 13),o 51 (f 50 10),n (ss 51 (i 1) 1)] (r [o 52 (f 1 121),o 53 (.ym (t 52) (k (i 1)) 8 1),n (ss 53 (i 2) 1)] (r [o 54 (f 1 121),o 55 (.ym (t 54) (k (i 5)) 8 1),n (ss 55 (i 2) 1)] (r [o 56 (.iM g1 1 [k (i 0),k (i 1)]),o 57 (.iM g1 1 [k (i 4),k (i 5)]),o 58 (.build [.aN,.aN] [(0,1,t 56),(1,1,t 57)]),o 59 (.iM g1 1 [k (i 2),k (i 3)]),o 60 (.iM g1 1 [k (i 6),k (i 7)]),o 61 (.build [.aN,.aN] [(0,1,t 59),(1,1,t 60)]),o 62 (.iM g2 2 [t 58,t 61]),o 63 (f 1 104),n (s 63 62 1)] (r [o 64 (.build cN [(0,1,k (i 204)),(1,1,k (i 136)),(2,1,k (i 34)),(3,1,k (i 68)),(4,1,k (i 5)),(5,1,k (i 20)),(6,1,k (i 30)),(7,1,k (i 100)),(8,1,k (i 100)),(9,1,k (i 3000)),(10,1,k (i 4000))]),o 65 (.iM g3 11 [t 64]),o 66 (f 1 114),n (s 66 65 1)] (r [o 67 (.build [i 0,i 0] [(0,1,k (i 34)),(1,1,k (i 600))]),o 68 (.iM g4 2 [t 67]),o 69 (f 1 115),n (s 69 68 1)] (r [o 70 (f 1 116),n (ss 70 (i 100) 1)] (r [o 71 (f 1 117),n (ss 71 (i 200) 1)] (r [o 72 (f 1 118),n (ss 72 (i 60) 1)] (r [o 73 (f 1 119),n (ss 73 (i 20) 1)] (r [o 74 (f 1 120),n (ss 74 (i 100) 1)] (r [o 75 (f 1 129),n (ss 75 (i 8640000) 1)] (r [o 76 (f 1 130),n (ss 76 (i 600) 1)] (r [o 77 (L 1 131),n (s 0 77 131)] y)))))))))))))))))⟩
def mb:eV:=⟨12,[.tmp 4],r [V 4 (F)] (r [M 5 0,o 6 (bb .geq 5 (i 0)),M 7 6,p 8 (m 0) 7,p 9 (m 1) 7,p 10 (b .lss 8 9) 7,o 11 (P 7 10),M 4 11] y)⟩
def gb:eV:=⟨12,[.tmp 4],r [V 4 (F)] (r [M 5 0,o 6 (bb .geq 5 (i 0)),M 7 6,p 8 (m 0) 7,p 9 (m 1) 7,p 10 (b .leq 8 9) 7,o 11 (P 7 10),M 4 11] y)⟩
def fe:eV:=⟨27,[.tmp 4],r [V 4 (i 0)] (r [V 5 (i 0),V 6 (i 0)] (j (r [M 9 0,o 10 (h 9),V 11 (i 0)] (u 0 (.loop (r [o 12 (b .lss 11 10)] (j (c 12 z (.exit 0)) (j (u 1 (r [o 13 (a 9 11 1),o 14 (l 13),M 8 14] (r [M 15 6,o 16 (bb .add 15 (i 1)),M 17 8,M 18 1,o 19 (b .shr 17 18),o 20 (bb .and 19 (i 1)),o 21 (b .mul 16 20),M 6 21] (R [M 22 5,M 23 6,o 24 (.mm true [t 22,t 23]),M 5 24])))) (R [o 25 (bb .add 11 (i 1)),M 11 25]))))))) (r [M 26 5,M 4 26] y)))⟩
def ff:eV:=⟨53,[.tmp 4],r [o 2 (w 0),V 4 (i 0)] (r [o 10 (f 2 114),o 11 (l 10),o 12 (h 11),o 13 (.mm false [t 12,k (i 4)]),o 14 (.bin .shl (k (i 1)) (t 13)),o 15 (bb .sub 14 (i 1)),M 5 15] (r [V 6 (i 0),V 7 (i 0)] (j (r [M 16 1,o 17 (h 16),V 18 (i 0)] (u 0 (.loop (r [o 19 (b .lss 18 17)] (j (c 19 z (.exit 0)) (j (u 1 (r [M 20 18,o 21 (a 16 18 1),o 22 (l 21),M 8 20,M 9 22] (j (r [M 23 9,M 24 5,o 25 (b .and 23 24),o 26 (bb .neq 25 (i 0))] (c 26 (R [M 27 7,o 28 (bb .add 27 (i 1)),M 7 28]) z)) (j (r [M 29 8,o 30 (f 2 129),o 31 (l 30),o 32 (b .geq 29 31),M 33 32,p 34 (m 1) 33,p 35 (m 8) 33,p 36 (f 2 129) 33,p 37 (l 36) 33,p 38 (.mm true [t 37,k (i 0)]) 33,p 39 (b .sub 35 38) 33,p 40 (a 34 39 1) 33,p 41 (l 40) 33,p 42 (m 5) 33,p 43 (b .and 41 42) 33,p 44 (bb .neq 43 (i 0)) 33,o 45 (P 33 44)] (c 45 (R [M 46 7,o 47 (bb .sub 46 (i 1)),M 7 47]) z)) (R [M 48 6,M 49 7,o 50 (.mm true [t 48,t 49]),M 6 50]))))) (R [o 51 (bb .add 18 (i 1)),M 18 51]))))))) (r [M 52 6,M 4 52] y))))⟩
end
end Go.Eng
namespace Go.Eng
open Go
structure Fm where
 samples:Option (List (List AV))
 push:Int
 ask:Int
 lines:Int
 cU:Int
 reset:Bool
 deriving Inhabited
def Mm (r:List AV):List AV:=r
def Fm.cells (x:Fm):List AV:=[az Mm x.samples,I x.push,I x.ask,I x.lines,I x.cU,B x.reset]
def vU (s all:Int):Bool:=decide (s ≥ 0) && decide (s≤all)
def mc (x:Fm):Bool:=(((decide (((x.samples.getD []).length:Int)≤16) && vU x.push 255) && vU x.cU 255) && vU x.ask 15) && vU x.lines 15
def cn (x:Fm) (lines:Int):Fm:=if mc x then x else ⟨none,0,0,lines,0,false⟩
theorem Fm.len (x:Fm):x.cells.length=6:=rfl
def gI (L:List Int) (k:Nat):Nat→Int × Int
 | 0=>(0,0)
 | i + 1 =>
  let n:=if tb (L.getD i 0) k then (gI L k i).2 + 1 else 0
  (if n > (gI L k i).1 then n else (gI L k i).1,n)
theorem x9 (L:List Int) (k:Nat):∀ i:Nat,0≤(gI L k i).2∧(gI L k i).2≤i
 | 0=>by simp [gI]
 | i + 1=>by have:=x9 L k i; simp only [gI]; split<;>omega
def jf (n:Nat) (s:Int):Bool:=(List.range n).any (tb s)
def uE (n:Nat):Int:=[0,1,3,7,15].getD n 0
def FP (m c:Int):Int × Int:=(if c > m then c else m,c)
def ie (W:Int) (n:Nat) (L:List Int):Nat→Int × Int
 | 0=>(0,0)
 | i + 1 =>
  FP (ie W n L i).1 ((ie W n L i).2 + (if jf n (L.getD i 0) then 1 else 0) - (if decide ((i:Int) ≥ W) && jf n (L.getD ((i:Int) - max W 0).toNat 0) then 1 else 0))
theorem ya (W:Int) (n:Nat) (L:List Int):∀ i:Nat,-i≤(ie W n L i).2∧(ie W n L i).2≤i
 | 0=>by simp [ie]
 | i + 1=>by have:=ya W n L i; simp only [ie,FP]; split<;>split<;>omega
theorem vJ:∀ n,n≤4→∀ i,i < 64→tb (uE n) i=decide (i < n)
 | 0,_=>by decide +kernel
 | 1,_=>by decide +kernel
 | 2,_=>by decide +kernel
 | 3,_=>by decide +kernel
 | 4,_=>by decide +kernel
 | n + 5,h=>by omega
theorem sJ {n:Nat} (hn:n≤4) (s:Int):(d7 .i64 s (uE n) != 0)=jf n s:=by
 rw [Bool.eq_iff_iff]
 simp only [bne_iff_ne,ne_eq,and_zero,jf,List.any_eq_true,List.mem_range]
 constructor
 ·intro h
  apply Classical.byContradiction
  intro hc
  apply h
  intro i hi
  rw [vJ n hn i hi]
  cases hb:tb s i
  ·rfl
  ·by_cases hin:i < n
   ·exact absurd ⟨i,hin,hb⟩ hc
   ·simp [hin]
 ·rintro ⟨i,hi,hb⟩ h
  have:=h i (by omega)
  rw [vJ n hn i (by omega),hb] at this
  simp [hi] at this
theorem Cv {n:Nat} (hn:n≤4):IntKind.i64.wrap (IntKind.i64.wrap (2 ^ min n IntKind.i64.bits) - 1)=uE n:=by
 have:n=0∨n=1∨n=2∨n=3∨n=4:=by omega
 rcases this with rfl|rfl|rfl|rfl|rfl<;>decide +kernel
theorem bf (b:Bool):b=false∨b=true:=by cases b<;>simp
def oI.Spec (C:bI) (f:Nat):Prop:=∀ s all:Int,C.c f [I s,I all] (B (vU s all)) none
def jg.Spec (C:bI) (f:Nat):Prop:=∀ x:Fm,C.c f [.agg x.cells] (B (mc x)) none
def gh.Spec (C:bI) (f:Nat):Prop:=∀ (x:Fm) (lines:Int),C.c f [.agg x.cells,I lines] (.agg (cn x lines).cells) none
def j8.Spec (C:bI) (f:Nat):Prop:=∀ (l:Option (List Int)) (k:Nat),k < 4→(l.getD []).length≤1000000→C.c f [az ak l,I k] (I (gI (l.getD []) k (l.getD []).length).1) none
def j9.Spec (C:bI) (f:Nat):Prop:=∀ (t:Tb) (l:Option (List Int)),t.Ok→(l.getD []).length≤1000000→C.c f [.agg t.cells,az ak l] (I (ie t.aG (nR t) (l.getD []) (l.getD []).length).1) none
section
variable {P:Program} (hm:P.follows .mixedOrders=true) {f:Nat}
include hm
theorem oI.ok (hc:bU P f=some gb):oI.Spec (Pure P) f:=by
 intro s all
 refine aD hm hc (by show 2≤12; decide) (aC (keep:=[]) (i:=0) ?_)
 try simp only [I,B,D,RX,↓ KW,seval,gb,Z.H]
 unfold vU
 refine aW (fun h=>?_) (fun h=>?_)<;>try simp only [I,B,D,RX,↓ KW,seval,h]
 all_goals simp [h]
theorem jg.ok {f1:Nat} (hc:bU P f=some (gX f1)) (h1:oI.Spec (Pure P) f1):jg.Spec (Pure P) f:=by
 intro x
 refine aD hm hc (by show 1≤32; decide) (aC (keep:=[]) (i:=0) ?_)
 try simp only [I,B,D,RX,↓ KW,seval,gX,Z.H,Fm.cells]
 unfold mc
 generalize decide (((x.samples.getD []).length:Int)≤16)=b0
 repeat' (first | ((first | refine aj (h1 x.push 255) ?_ | refine aj (h1 x.cU 255) ?_ | refine aj (h1 x.ask 15) ?_ | refine aj (h1 x.lines 15) ?_); try simp only [I,B,D,RX,↓ KW,seval,Bool.true_and,Bool.false_and,Bool.and_true,Bool.and_false]) | (((first | refine aW ?_ ?_ | refine an ?_ ?_ | refine bh ?_ ?_)<;>intro h)<;>try simp only [I,B,D,RX,↓ KW,seval,Bool.true_and,Bool.false_and,Bool.and_true,Bool.and_false,h]))
 all_goals simp [*]
theorem gh.ok {fG:Nat} (hc:bU P f=some (ga fG)) (hG:jg.Spec (Pure P) fG):gh.Spec (Pure P) f:=by
 intro x lines
 have hw:aU x.cells 0 (some 6)=some (.agg x.cells):=rfl
 have hG':=hG x
 unfold cn
 cases hg:mc x
 all_goals
  rw [hg] at hG'
  refine aD hm hc (by show 2≤11; decide) (aC (keep:=[]) (i:=0) ?_)
  try simp only [I,B,D,RX,↓ KW,seval,ga,Z.H,hw,Fm.len]
  refine aj hG' ?_
  try simp only [I,B,D,RX,↓ KW,seval,Bool.not_false,Bool.not_true,hw,Fm.len]
  try rfl
theorem j8.ok (hc:bU P f=some fe):j8.Spec (Pure P) f:=by
 intro l k hk hlen
 obtain ⟨L,hL⟩:∃ L,L=l.getD []:=⟨_,rfl⟩
 rw [← hL] at hlen ⊢
 refine aD hm hc (by show 2≤27; decide) (aC (keep:=[]) (i:=0) ?_)
 try simp only [I,B,D,RX,↓ KW,seval,fe,Z.H,← hL]
 refine aF (fun i:Nat=>(⟨[(11,.dat (I i) none),(10,.dat (I (L.length:Nat)) none),(9,.dat (az ak l) none),(6,.dat (I (gI L k i).2) none),(1,.dat (I k) none),(5,.dat (I (gI L k i).1) none)],[],[],400⟩:S)) (fun i=>L.length - i) (fun i=>i≤L.length) ?_ 0 (by omega) ?_
 rotate_left
 ·refine ai (by decide) ?_ ?_ ?_ ?_<;>simp [LX,I,B,D,gI,hL]
 intro i hi A back
 have hwr:=aB (k:=i) (by omega)
 have hle:=x9 L k i
 try simp only [I,B,D,RX,↓ KW,seval]
 refine an (fun h=>?_) (fun h=>?_)<;>try simp only [I,B,D,RX,↓ KW,seval,h]
 ·have h1:i < L.length:=by have:=of_decide_eq_true h; omega
  obtain ⟨d,hd⟩:∃ d,L[i]? = some d:=⟨L[i],by simp [h1]⟩
  have hD:L.getD i 0=d:=by simp [hd]
  have hb0:0≤(i:Int):=by omega
  have hb1:(i:Int) < (L.length:Int):=by omega
  have hw0:IntKind.i64.wrap 0=0:=rfl
  have hm1:min k IntKind.i64.bits=k:=by have:=vI hk; simpa using this
  have hb:=vH (s:=d) hk
  have hw1:IntKind.i64.wrap ((gI L k i).2 + 1)=(gI L k i).2 + 1:=aE (by omega) (by omega)
  have hnx:gI L k (i + 1)=(if (if tb d k then (gI L k i).2 + 1 else 0) > (gI L k i).1 then (if tb d k then (gI L k i).2 + 1 else 0) else (gI L k i).1,if tb d k then (gI L k i).2 + 1 else 0):=by simp only [gI,hD]
  cases ht:tb d k<;>simp only [ht,if_true,if_false,Bool.false_eq_true] at hnx hb
  all_goals try simp only [I,B,D,RX,↓ KW,seval,hb0,hb1,← hL,hd,ak,hm1,hb,hw1,hw0,Int.mul_zero,Int.mul_one]
  ·refine ⟨by omega,?_⟩
   refine back (i + 1) _ (by omega) (by omega) (ai (by decide) ?_ ?_ ?_ ?_)<;>simp [LX,I,B,D,hnx,hwr,ht,hw0]
  ·refine ⟨by omega,?_⟩
   refine back (i + 1) _ (by omega) (by omega) (ai (by decide) ?_ ?_ ?_ ?_)<;>simp [LX,I,B,D,hnx,hwr,ht,hw1]
 ·have h1:i=L.length:=by have:=of_decide_eq_false h; omega
  subst h1
  try simp only [I,B,D,RX,↓ KW,seval]
  try rfl
theorem j9.ok (hc:bU P f=some ff):j9.Spec (Pure P) f:=by
 intro t l ht hlen
 obtain ⟨L,hL⟩:∃ L,L=l.getD []:=⟨_,rfl⟩
 rw [← hL] at hlen ⊢
 have hl:=Tb.len ht
 have hp:=Tb.whole ht
 have hg:=Tb.ja ht
 have hw:=ht.ln.BZ
 have hmn:(if (4:Int) < ((t.aL.getD []).length:Int) then (4:Int) else ((t.aL.getD []).length:Int))=(nR t:Int):=by unfold nR; split<;>omega
 have hn4:nR t≤4:=by unfold nR; omega
 have hmv:=Cv hn4
 refine aD hm hc (by show 2≤53; decide) (aC (keep:=[]) (i:=0) ?_)
 try simp only [I,B,D,RX,↓ KW,seval,ff,Z.H,hp,hl,hg,hmn,← hL]
 refine ⟨by omega,?_⟩
 try simp only [I,B,D,RX,↓ KW,seval,hmv]
 refine aF (fun i:Nat=>(⟨[(18,.dat (I i) none),(17,.dat (I (L.length:Nat)) none),(16,.dat (az ak l) none),(5,.dat (I (uE (nR t))) none),(7,.dat (I (ie t.aG (nR t) L i).2) none),(2,.ptr 4 0),(1,.dat (az ak l) none),(6,.dat (I (ie t.aG (nR t) L i).1) none)],[(4,⟨t.cells,[]⟩)],[],400⟩:S)) (fun i=>L.length - i) (fun i=>i≤L.length) ?_ 0 (by omega) ?_
 rotate_left
 ·refine ai (by decide) ?_ ?_ ?_ ?_<;>simp [LX,I,B,D,ie,hL,hmv]
 intro i hi A back
 have hwr:=aB (k:=i) (by omega)
 have hle:=ya t.aG (nR t) L i
 try simp only [I,B,D,RX,↓ KW,seval]
 refine an (fun h=>?_) (fun h=>?_)<;>try simp only [I,B,D,RX,↓ KW,seval,h]
 ·have h1:i < L.length:=by have:=of_decide_eq_true h; omega
  obtain ⟨d,hd⟩:∃ d,L[i]? = some d:=⟨L[i],by simp [h1]⟩
  have hD:L.getD i 0=d:=by simp [hd]
  have hb0:0≤(i:Int):=by omega
  have hb1:(i:Int) < (L.length:Int):=by omega
  have hac:=sJ hn4 d
  have hnx:ie t.aG (nR t) L (i + 1)=FP (ie t.aG (nR t) L i).1 ((ie t.aG (nR t) L i).2 + (if jf (nR t) (L.getD i 0) then 1 else 0) - (if decide ((i:Int) ≥ t.aG) && jf (nR t) (L.getD ((i:Int) - max t.aG 0).toNat 0) then 1 else 0)):=rfl
  rw [hD] at hnx
  have hw1:IntKind.i64.wrap ((ie t.aG (nR t) L i).2 + 1)=(ie t.aG (nR t) L i).2 + 1:=aE (by omega) (by omega)
  have hw2:IntKind.i64.wrap ((ie t.aG (nR t) L i).2 - 1)=(ie t.aG (nR t) L i).2 - 1:=aE (by omega) (by omega)
  have hw3:IntKind.i64.wrap ((ie t.aG (nR t) L i).2 + 1 - 1)=(ie t.aG (nR t) L i).2 + 1 - 1:=aE (by omega) (by omega)
  generalize ie t.aG (nR t) L i=z at *
  obtain ⟨j,hj⟩:∃ j,j=((i:Int) - max t.aG 0).toNat:=⟨_,rfl⟩
  rw [← hj] at hnx
  have hjw:decide ((i:Int) ≥ t.aG)=true→IntKind.i64.wrap ((i:Int) - (if 0 > t.aG then 0 else t.aG))=(j:Int)∧j≤i:=by
   intro h
   have:=of_decide_eq_true h
   have e:(if 0 > t.aG then 0 else t.aG)=max t.aG 0:=by split<;>omega
   rw [e,aE (by omega) (by omega)]
   omega
  obtain ⟨d2,hd2⟩:∃ d2,j≤i→L[j]? = some d2:=by
   by_cases hji:j≤i
   ·exact ⟨L[j]'(by omega),fun _=>by simp⟩
   ·exact ⟨0,fun h=>absurd h hji⟩
  have hac2:=sJ hn4 d2
  generalize nR t=n at *
  rcases bf (jf n d) with ha|ha<;>rcases bf (decide ((i:Int) ≥ t.aG)) with hc|hc
  all_goals
   rw [ha] at hac
   simp only [ha,hc,if_true,if_false,Bool.false_eq_true,Bool.false_and,Bool.true_and] at hnx
  all_goals try simp only [I,B,D,RX,↓ KW,seval,hb0,hb1,← hL,hd,hac,ak,hw,hc,hw1,bne_self_eq_false]
  ·refine back (i + 1) _ (by omega) (by omega) (ai (by decide) ?_ ?_ ?_ ?_)<;>simp [LX,I,B,D,hnx,hwr,FP]
  ·obtain ⟨e1,e2⟩:=hjw hc
   have hd2':=hd2 e2
   have e3:L.getD j 0=d2:=by simp [hd2']
   rw [e3] at hnx
   rw [e1]
   refine ⟨⟨by omega,by omega⟩,?_⟩
   rcases bf (jf n d2) with h2|h2
   all_goals
    rw [h2] at hac2
    simp only [h2,if_true,if_false,Bool.false_eq_true] at hnx
    try simp only [I,B,D,RX,↓ KW,seval,hd2',hac2,ak,hw2,hw3]
    refine back (i + 1) _ (by omega) (by omega) (ai (by decide) ?_ ?_ ?_ ?_)<;>simp [LX,I,B,D,hnx,hwr,FP]
  ·refine back (i + 1) _ (by omega) (by omega) (ai (by decide) ?_ ?_ ?_ ?_)<;>simp [LX,I,B,D,hnx,hwr,FP]
  ·obtain ⟨e1,e2⟩:=hjw hc
   have hd2':=hd2 e2
   have e3:L.getD j 0=d2:=by simp [hd2']
   rw [e3] at hnx
   rw [e1]
   refine ⟨⟨by omega,by omega⟩,?_⟩
   rcases bf (jf n d2) with h2|h2
   all_goals
    rw [h2] at hac2
    simp only [h2,if_true,if_false,Bool.false_eq_true] at hnx
    try simp only [I,B,D,RX,↓ KW,seval,hd2',hac2,ak,hw2,hw3]
    refine back (i + 1) _ (by omega) (by omega) (ai (by decide) ?_ ?_ ?_ ?_)<;>simp [LX,I,B,D,hnx,hwr,FP]
 ·have h1:i=L.length:=by have:=of_decide_eq_false h; omega
  subst h1
  try simp only [I,B,D,RX,↓ KW,seval]
  try rfl
end
end Go.Eng
namespace Go.Eng
open Go
def bu (L:List Fm):Nat→Int × Int × List Int
 | 0=>(0,0,[])
 | i + 1 =>
  let x:=cn (L.getD i default) (bu L i).1
  (x.lines,tJ .i64 (bu L i).2.1 x.cU,(bu L i).2.2++[x.lines])
theorem ke (L:List Fm):∀ i,(bu L i).2.2.length=i
 | 0=>rfl
 | i + 1=>by simp [bu,ke L i]
def tO (t:Tb) (A:List Int) (k:Nat):Bool:=decide ((gI A k A.length).1 > (uD t k).limit)
def sK (t:Tb) (L:List Fm):Bool :=
 ((List.range (nR t)).all fun k=>!tO t (bu L L.length).2.2 k) && ((bu L L.length).2.1 == 0 && (((t.aL.getD []).length:Int) == 0 || decide ((ie t.aG (nR t) (bu L L.length).2.2 L.length).1≤t.share)))
def pL.Spec (C:bI) (f:Nat):Prop:=∀ (t:Tb) (l:Option (List Fm)),t.Ok→(l.getD []).length≤1000000→C.c f [.agg t.cells,az Fm.cells l] (B (sK t (l.getD []))) none
theorem xe {α:Type} (f:α→List AV) (q:List α) (t:Nat):uZ (some (aH f q t))=some (az f (aX q)):=by unfold aH aX; split<;>rfl
theorem Cw {α:Type} (f:α→List AV) (q:List α):mZ (az f (aX q))=some (I q.length):=by unfold aX; split<;>simp_all [az,mZ]
theorem jx {α:Type} (q:List α):(aX q).getD []=q:=by unfold aX; split<;>simp_all
theorem bM (x:Fm):setCells [.aN,.int .i64 0,.int .i64 0,.int .i64 0,.int .i64 0,.bool false] 0 x.cells=x.cells:=rfl
theorem bN (x y:Fm):setCells x.cells 0 y.cells=y.cells:=rfl
theorem Nb (t:Tb):zD (az Rl.cells t.aL) (List.map Rl.cells (t.aL.getD [])) 0 (nR t:Int)=az Rl.cells (EP t):=by
 unfold EP nR
 cases t.aL with
 | none=>rfl
 | some l =>
  simp only [Option.getD_some,az,zD,Option.map_some,AV.sl.injEq,Int.toNat_natCast,Int.toNat_zero,List.drop_zero,List.map_take]
  rcases Nat.lt_or_ge l.length 4 with h|h
  ·rw [Nat.min_eq_left (by omega),List.take_of_length_le (by simp),List.take_of_length_le (by simp; omega)]
  ·rw [Nat.min_eq_right h]
section
variable {P:Program} (hm:P.follows .mixedOrders=true) {f:Nat}
include hm
theorem pL.ok {fC e fL fB:Nat} (hc:bU P f=some (gY fC e fL fB)) (hC:gh.Spec (Pure P) fC) (hL:j8.Spec (Pure P) fL) (hB:j9.Spec (Pure P) fB):pL.Spec (Pure P) f:=by
  intro t l ht hlen
  obtain ⟨L,hLe⟩:∃ L,L=l.getD []:=⟨_,rfl⟩
  rw [← hLe] at hlen ⊢
  have hl:=Tb.len ht
  have hp:=Tb.whole ht
  have hg:=Tb.ja ht
  have hsh:=Tb.ov ht
  have hfl:∀ x:Fm,x.cells.length=6:=fun _=>rfl
  have hfw:∀ x:Fm,aU x.cells 0 (some 6)=some (.agg x.cells):=fun _=>rfl
  have hf3:∀ x:Fm,x.cells[3]? = some (I x.lines):=fun _=>rfl
  have hf4:∀ x:Fm,x.cells[4]? = some (I x.cU):=fun _=>rfl
  refine aD hm hc (by show 2≤68; decide) (aC (keep:=[]) (i:=0) ?_)
  try simp only [I,B,D,RY,↓ KW,seval,gY,Z.H,← hLe,hl,hp,hfl,hfw,bM,bN,hf3,hf4]
  refine aF (fun i:Nat=>(⟨[(14,.dat (I i) none),(13,.dat (I (L.length:Nat)) none),(12,.dat (az Fm.cells l) none),(5,.dat (I (bu L i).1) none),(6,.dat (I (bu L i).2.1) none),(7,aH ak (bu L i).2.2 0),(2,.ptr 4 0)],[(4,⟨t.cells,[]⟩)],aM (bu L i).2.2 0 e,400⟩:S)) (fun i=>L.length - i) (fun i=>i≤L.length) ?_ 0 (by omega) ?_
  rotate_left
  · refine ai (by decide) ?_ ?_ ?_ ?_<;>simp [LX,I,B,D,bu,hLe]
  intro i hi A back
  have hwr:=aB (k:=i) (by omega)
  have hnx:bu L (i + 1)=((cn (L.getD i default) (bu L i).1).lines,tJ .i64 (bu L i).2.1 (cn (L.getD i default) (bu L i).1).cU,(bu L i).2.2++[(cn (L.getD i default) (bu L i).1).lines]):=rfl
  have hql:=ke L i
  rcases bf (decide ((i:Int) < (L.length:Int))) with h|h
  · -- the end: the aL
    have h1:i=L.length:=by have:=of_decide_eq_false h; omega
    subst h1
    have hfe:sK t L=(((List.range (nR t)).all fun k=>!tO t (bu L L.length).2.2 k) && ((bu L L.length).2.1 == 0 && (((t.aL.getD []).length:Int) == 0 || decide ((ie t.aG (nR t) (bu L L.length).2.2 L.length).1≤t.share)))):=rfl
    generalize bu L L.length=p at *
    obtain ⟨ln,st,q⟩:=p
    simp only at hql hfe
    have hmn:(if (4:Int) < ((t.aL.getD []).length:Int) then (4:Int) else ((t.aL.getD []).length:Int))=(nR t:Int):=by unfold nR; split<;>omega
    try simp only [I,B,D,RY,↓ KW,seval,h,hg,hmn,hl,hp,hfl,hfw,bM,bN,hf3,hf4]
    refine ⟨⟨by omega,by unfold nR; omega⟩,fun r _=>rfl,?_⟩
    rw [Nb]
    have hn:=ER t
    have hz:=cN.length
    have hda:uZ (some (aH ak q 0))=some (az ak (aX q)):=xe ..
    have hrz:∀ r:Rl,setCells cN 0 r.cells=r.cells:=fun _=>rfl
    have hrl:∀ r:Rl,r.cells.length=11:=fun _=>rfl
    have hrw:∀ r:Rl,aU r.cells 0 (some 11)=some (.agg r.cells):=fun _=>rfl
    have hr10:∀ r:Rl,r.cells[10]? = some (I r.limit):=fun _=>rfl
    have hzl:cN.length=11:=rfl
    try simp only [I,B,D,RY,↓ KW,seval,hn,hl,hp,hfl,hfw,bM,bN,hf3,hf4]
    refine aF (fun k:Nat=>(⟨[(40,.dat (I k) none),(39,.dat (I (nR t)) none),(38,.dat (az Rl.cells (EP t)) none),(7,aH ak q 0),(6,.dat (I st) none),(2,.ptr 4 0)],[(4,⟨t.cells,[]⟩)],aM q 0 e,400⟩:S)) (fun k=>nR t - k) (fun k=>k≤nR t∧∀ j,j < k→tO t q j=false) ?_ 0 ⟨by omega,by omega⟩ ?_
    rotate_left
    · by_cases ho:q=[]
      all_goals refine ai (by decide) ?_ ?_ ?_ ?_<;>simp [LX,I,B,D,ho,aH,aM]
    rintro k ⟨hk,hno⟩ A2 back2
    have hwk:=aB (k:=k) (by unfold nR at *; omega)
    rcases bf (decide ((k:Int) < (nR t:Int))) with h2|h2
    · have h3:k=nR t:=by have:=of_decide_eq_false h2; omega
      subst h3
      have hall:((List.range (nR t)).all fun k=>!tO t q k)=true:=by
        simp only [List.all_eq_true,List.mem_range,Bool.not_eq_true']
        exact hno
      rw [hfe,hall,Bool.true_and]
      have cB:=hB t (aX q) ht (by rw [jx]; omega)
      rw [jx,hql] at cB
      try simp only [I,B,D,RY,↓ KW,seval,h2,hg,hda,hsh,hl,hp,hfl,hfw,bM,bN,hf3,hf4]
      rcases bf (st == 0) with z|z
      · try simp only [I,B,D,RY,↓ KW,seval,z,Bool.false_and,hl,hp,hfl,hfw,bM,bN,hf3,hf4]
      · rcases bf (((t.aL.getD []).length:Int) == 0) with y | y
        · try simp only [I,B,D,RY,↓ KW,seval,z,y,hg,hda,hsh,Bool.true_and,Bool.false_or,hl,hp,hfl,hfw,bM,bN,hf3,hf4]
          refine aj cB ?_
          try simp only [I,B,D,RY,↓ KW,seval,z,y,hg,hda,hsh,Bool.true_and,Bool.false_or,hl,hp,hfl,hfw,bM,bN,hf3,hf4]
        · try simp only [I,B,D,RY,↓ KW,seval,z,y,hg,hda,hsh,Bool.true_and,Bool.true_or,hl,hp,hfl,hfw,bM,bN,hf3,hf4]
    · have h3:k < nR t:=by have:=of_decide_eq_true h2; omega
      have h4:k < 4:=by unfold nR at h3; omega
      have hgt:=vG t h3
      have hk0:0≤(k:Int)∧(k:Int) < (nR t:Int):=by omega
      have cL:=hL (aX q) k h4 (by rw [jx]; omega)
      rw [jx,hql] at cL
      have hx:tO t q k=decide ((gI q k L.length).1 > (uD t k).limit):=by unfold tO; rw [hql]
      try simp only [I,B,D,RY,↓ KW,seval,h2,hn,hk0,hgt,hrz,hrl,hrw,hr10,hzl,hda,hl,hp,hfl,hfw,bM,bN,hf3,hf4]
      refine aj cL ?_
      try simp only [I,B,D,RY,↓ KW,seval,h2,hn,hk0,hgt,hrz,hrl,hrw,hr10,hzl,hda,hl,hp,hfl,hfw,bM,bN,hf3,hf4]
      rw [← hx]
      cases hlk:tO t q k
      · try simp only [I,B,D,RY,↓ KW,seval]
        refine back2 (k + 1) _ ⟨by omega,fun j hj=>?_⟩ (by omega) ?_
        · by_cases e:j=k
          · subst e; exact hlk
          · exact hno j (by omega)
        · by_cases ho:q=[]
          all_goals refine ai (by decide) ?_ ?_ ?_ ?_<;>simp [LX,I,B,D,hwk,ho,aH,aM]
      · have hall:((List.range (nR t)).all fun k=>!tO t q k)=false:=by
          rw [List.all_eq_false]
          exact ⟨k,List.mem_range.2 h3,by simp [hlk]⟩
        try simp only [I,B,D,RY,↓ KW,seval]
        rw [hfe,hall]
        rfl
  · have h1:i < L.length:=by have:=of_decide_eq_true h; omega
    obtain ⟨d,hd⟩:∃ d,L[i]? = some d:=⟨L[i],by simp [h1]⟩
    have hD:L.getD i default=d:=by simp [hd]
    have hb0:0≤(i:Int):=by omega
    have hb1:(i:Int) < (L.length:Int):=by omega
    rw [hD] at hnx
    generalize bu L i=p at *
    obtain ⟨ln,st,q⟩:=p
    simp only at hql hnx
    have cC:=hC d ln
    generalize cn d ln=x at *
    try simp only [I,B,D,RY,↓ KW,seval,h,hb0,hb1,← hLe,hd,hl,hp,hfl,hfw,bM,bN,hf3,hf4]
    refine aj cC ?_
    try simp only [I,B,D,RY,↓ KW,seval,hl,hp,hfl,hfw,bM,bN,hf3,hf4]
    by_cases ho:q=[]
    all_goals
      try simp only [I,B,D,RY,↓ KW,seval,ho,aH,aM,hl,hp,hfl,hfw,bM,bN,hf3,hf4]
      first
        | refine back (i + 1) _ (by omega) (by omega) ?_
        | refine ⟨by omega,back (i + 1) _ (by omega) (by omega) ?_⟩
      refine ai (by decide) ?_ ?_ ?_ ?_<;>simp [LX,I,B,D,hwr,hnx,ho,aH,aM]
end
end Go.Eng
namespace Go.Eng
open Go
def ep (L:List Fm):List Int:=(bu L L.length).2.2
theorem zi (L:List Fm) (j:Nat):∀ i,j < i→(bu L i).2.2.getD j 0=(bu L (j + 1)).1
 | 0,h=>by omega
 | i + 1,h=>by
  by_cases e:j=i
  ·subst e
   have:=ke L j
   simp [bu,List.getD_eq_getElem?_getD,this]
  ·rw [← zi L j i (by omega)]
   have:=ke L i
   simp only [bu,List.getD_eq_getElem?_getD]
   rw [List.getElem?_append_left (by omega)]
theorem zj (L:List Fm) {j:Nat} (h:j < L.length):(ep L).getD j 0=(bu L (j + 1)).1:=zi L j L.length h
theorem E5 (L:List Fm):(ep L).length=L.length:=ke L _
theorem Cx (x y:Int) (hx:0≤x∧x < 256) (hy:0≤y∧y < 256):tJ .i64 x y=0↔x=0∧y=0:=by
 constructor
 ·intro h
  have hb:∀ i,i < 8→tb x i=false∧tb y i=false:=by
   intro i hi
   have:=FJ x y i
   rw [h,iI] at this
   simpa using this.symm
  exact ⟨zb hx FO fun i hi=>by rw [(hb i hi).1,iI],zb hy FO fun i hi=>by rw [(hb i hi).2,iI]⟩
 ·rintro ⟨rfl,rfl⟩; decide +kernel
theorem E6 {x y:Int} (hx:0≤x∧x < 256) (hy:0≤y∧y < 256):0≤tJ .i64 x y∧tJ .i64 x y < 256:=HS hx hy
theorem oJ (x:Fm) (l:Int):0≤(cn x l).cU∧(cn x l).cU < 256:=by
 unfold cn
 split
 ·rename_i h
  simp only [mc,vU,Bool.and_eq_true,decide_eq_true_eq] at h
  omega
 ·simp
def qx (L:List Fm) (j:Nat):Int:=(cn (L.getD j default) (bu L j).1).cU
theorem Cy (L:List Fm):∀ i,0≤(bu L i).2.1∧(bu L i).2.1 < 256
 | 0=>by simp [bu]
 | i + 1=>E6 (Cy L i) (oJ _ _)
theorem zk (L:List Fm):∀ i,(bu L i).2.1=0↔∀ j,j < i→qx L j=0
 | 0=>by simp [bu]
 | i + 1=>by
  have e:(bu L (i + 1)).2.1=tJ .i64 (bu L i).2.1 (qx L i):=rfl
  rw [e,Cx _ _ (Cy L i) (show 0≤qx L i∧qx L i < 256 from oJ _ _),zk L i]
  constructor
  ·rintro ⟨h1,h2⟩ j hj
   by_cases e:j=i
   ·subst e; exact h2
   ·exact h1 j (by omega)
  ·intro h; exact ⟨fun j hj=>h j (by omega),h i (by omega)⟩
theorem FQ {A:List Int} {k:Nat} {c:Int} (hc:0≤c):∀ m,(gI A k m).1≤c↔∀ i,i≤m→(gI A k i).2≤c
 | 0=>by simp [gI,hc]
 | m + 1=>by
  have ih:=FQ (A:=A) (k:=k) hc m
  have e:(gI A k (m + 1)).1=if (gI A k (m + 1)).2 > (gI A k m).1 then (gI A k (m + 1)).2 else (gI A k m).1:=rfl
  constructor
  ·intro h i hi
   by_cases ei:i=m + 1
   ·subst ei; rw [e] at h; split at h<;>omega
   ·refine ih.1 ?_ i (by omega); rw [e] at h; split at h<;>omega
  ·intro h
   have h1:=h (m + 1) (by omega)
   have h2:=ih.2 fun i hi=>h i (by omega)
   rw [e]; split<;>omega
theorem FR {W:Int} {n:Nat} {A:List Int} {c:Int} (hc:0≤c):∀ m,(ie W n A m).1≤c↔∀ i,i≤m→(ie W n A i).2≤c
 | 0=>by simp [ie,hc]
 | m + 1=>by
  have ih:=FR (W:=W) (n:=n) (A:=A) hc m
  have e:(ie W n A (m + 1)).1=if (ie W n A (m + 1)).2 > (ie W n A m).1 then (ie W n A (m + 1)).2 else (ie W n A m).1:=rfl
  constructor
  ·intro h i hi
   by_cases ei:i=m + 1
   ·subst ei; rw [e] at h; split at h<;>omega
   ·refine ih.1 ?_ i (by omega); rw [e] at h; split at h<;>omega
  ·intro h
   have h1:=h (m + 1) (by omega)
   have h2:=ih.2 fun i hi=>h i (by omega)
   rw [e]; split<;>omega
theorem zm {W:Int} (hW:W < 1) (n:Nat) (A:List Int):∀ i,(ie W n A i).2=0
 | 0=>rfl
 | i + 1=>by
  have e:((i:Int) - max W 0).toNat=i:=by omega
  simp only [ie,FP,zm hW n A i,e]
  have h:decide ((i:Int) ≥ W)=true:=by simp; omega
  rw [h]; cases jf n (A.getD i 0)<;>simp
structure uF (t:Tb):Prop where
 Is:∀ k,k < nR t→0≤(uD t k).limit
 share:0≤t.share
theorem xg {t:Tb} (h:uF t) (L:List Fm):sK t L=true↔(∀ j,j < L.length→qx L j=0)∧(∀ k,k < nR t→∀ i,i≤L.length→(gI (ep L) k i).2≤(uD t k).limit)∧(nR t=0∨∀ i,i≤L.length→(ie t.aG (nR t) (ep L) i).2≤t.share):=by
 have e0:(((t.aL.getD []).length:Int) == 0)=decide (nR t=0):=by rw [Bool.eq_iff_iff]; simp [nR]
 unfold sK
 rw [e0]
 simp only [Bool.and_eq_true,Bool.or_eq_true,decide_eq_true_eq,List.all_eq_true,List.mem_range,Bool.not_eq_true',beq_iff_eq]
 rw [zk]
 have h1:(∀ k,k < nR t→tO t (bu L L.length).2.2 k=false)↔∀ k,k < nR t→∀ i,i≤L.length→(gI (ep L) k i).2≤(uD t k).limit:=by
  refine forall_congr' fun k=>imp_congr_right fun hk=>?_
  rw [← FQ (h.Is k hk),tO,show (bu L L.length).2.2=ep L from rfl,E5]
  simp
 have h2:(ie t.aG (nR t) (bu L L.length).2.2 L.length).1≤t.share↔∀ i,i≤L.length→(ie t.aG (nR t) (ep L) i).2≤t.share:=FR h.share _
 rw [h1,h2]
 constructor
 ·rintro ⟨a,b,c⟩; exact ⟨b,a,c⟩
 ·rintro ⟨b,a,c⟩; exact ⟨a,b,c⟩
end Go.Eng
namespace Go.Eng
open Go
def kf (n:Nat) (s:Int):Int:=if jf n s then 1 else 0
def dN (n:Nat) (A:List Int) (i:Nat):List Int:=(List.range i).map fun j=>kf n (A.getD j 0)
def I3 (n:Nat) (A:List Int) (i:Nat):List Int:=(List.range 4).map fun k=>if k < n then (gI A k i).2 else 0
def zn (n:Nat) (A:List Int) (i k:Nat):List Int:=(List.range 4).map fun j=>if j < k then (gI A j (i + 1)).2 else if j < n then (gI A j i).2 else 0
theorem Cz (n:Nat) (A:List Int) (i:Nat):zn n A i 0=I3 n A i:=by simp [zn,I3]
theorem CA {n:Nat} (A:List Int) (i:Nat) (hn:n≤4):zn n A i n=I3 n A (i + 1):=by
 unfold zn I3
 apply List.map_congr_left
 intro j _
 by_cases h:j < n<;>simp [h]
theorem CB {n k:Nat} (A:List Int) (i:Nat) (hk:k < 4):(zn n A i (k + 1)).map I=setCells ((zn n A i k).map I) k [I (gI A k (i + 1)).2]:=by
 have e:k=0∨k=1∨k=2∨k=3:=by omega
 rcases e with rfl|rfl|rfl|rfl<;>simp [zn,setCells,List.range_succ]
theorem It {n k:Nat} (A:List Int) (i:Nat) (hk:k < 4) (hn:k < n):((zn n A i k).map I)[k]? = some (I (gI A k i).2):=by
 have e:k=0∨k=1∨k=2∨k=3:=by omega
 rcases e with rfl|rfl|rfl|rfl<;>simp [zn,List.range_succ]<;>omega
theorem E7 {n k:Nat} (A:List Int) (i:Nat) (hk:k < 4):((zn n A i (k + 1)).map I)[k]? = some (I (gI A k (i + 1)).2):=by
 have e:k=0∨k=1∨k=2∨k=3:=by omega
 rcases e with rfl|rfl|rfl|rfl<;>simp [zn,List.range_succ]
theorem Av (k:Nat) (s:Int):kf (k + 1) s=if tb s k then 1 else kf k s:=by
 have:jf (k + 1) s=(jf k s || tb s k):=by simp [jf,List.range_succ]
 unfold kf; rw [this]
 cases tb s k<;>simp
theorem xh (n:Nat) (A:List Int) (i:Nat):(dN n A i).length=i:=by simp [dN]
theorem CC (n:Nat) (A:List Int) {i j:Nat} (h:j < i):(dN n A i)[j]? = some (kf n (A.getD j 0)):=by simp [dN,h]
theorem Aw (n:Nat) (A:List Int) (i:Nat):dN n A (i + 1)=dN n A i++[kf n (A.getD i 0)]:=by simp [dN,List.range_succ]
def LR.Spec (C:bI) (f:Nat):Prop:=∀ s b:Int,C.c f [I s,I b] (B (decide (s ≥ 0) && decide (s < b))) none
def sL.Spec (C:bI) (f:Nat):Prop:=∀ (t:Tb) (l:Option (List Fm)),t.Ok→uF t→(l.getD []).length≤1000000→C.c f [.agg t.cells,az Fm.cells l] (B (sK t (l.getD []))) none
theorem Iu (s:Int):vU s 255=(decide (s ≥ 0) && decide (s < 256)):=by unfold vU; congr 1; rw [decide_eq_decide]; omega
theorem LS (s:Int):vU s 15=(decide (s ≥ 0) && decide (s < 16)):=by unfold vU; congr 1; rw [decide_eq_decide]; omega
section
variable {P:Program} (hm:P.follows .mixedOrders=true) {f:Nat}
include hm
theorem LR.ok (hc:bU P f=some mb):LR.Spec (Pure P) f:=by
 intro s b
 rcases bf (decide (s ≥ 0)) with h|h
 all_goals
  rw [h]
  refine aD hm hc (by show 2≤12; decide) (aC (keep:=[]) (i:=0) ?_)
  try simp only [I,B,D,RX,↓ KW,seval,mb,Z.H,h,Bool.true_and,Bool.false_and]
  try rfl
theorem Iv.ok {f1:Nat} (hc:bU P f=some (jL f1)) (h1:LR.Spec (Pure P) f1):jg.Spec (Pure P) f:=by
 intro x
 have hge:mc x=((((decide (((x.samples.getD []).length:Int)≤16) && (decide (x.push ≥ 0) && decide (x.push < 256))) && (decide (x.cU ≥ 0) && decide (x.cU < 256))) && (decide (x.ask ≥ 0) && decide (x.ask < 16))) && (decide (x.lines ≥ 0) && decide (x.lines < 16))):=by
  unfold mc; simp only [Iu,LS]
 rw [hge]
 refine aD hm hc (by show 1≤27; decide) (aC (keep:=[]) (i:=0) ?_)
 try simp only [I,B,D,RX,↓ KW,seval,jL,Z.H,Fm.cells]
 generalize decide (((x.samples.getD []).length:Int)≤16)=b0
 repeat' (first | ((first | refine aj (h1 x.push 256) ?_ | refine aj (h1 x.cU 256) ?_ | refine aj (h1 x.ask 16) ?_ | refine aj (h1 x.lines 16) ?_); try simp only [I,B,D,RX,↓ KW,seval,Bool.true_and,Bool.false_and,Bool.and_true,Bool.and_false]) | (((first | refine aW ?_ ?_ | refine an ?_ ?_ | refine bh ?_ ?_)<;>intro h)<;>try simp only [I,B,D,RX,↓ KW,seval,Bool.true_and,Bool.false_and,Bool.and_true,Bool.and_false,h]))
 all_goals simp [*]
theorem CD.ok {fG:Nat} (hc:bU P f=some (ia fG)) (hG:jg.Spec (Pure P) fG):gh.Spec (Pure P) f:=by
 intro x lines
 have hw:aU x.cells 0 (some 6)=some (.agg x.cells):=rfl
 have hG':=hG x
 unfold cn
 cases hg:mc x
 all_goals
  rw [hg] at hG'
  refine aD hm hc (by show 2≤10; decide) (aC (keep:=[]) (i:=0) ?_)
  try simp only [I,B,D,RX,↓ KW,seval,ia,Z.H,hw,Fm.len]
  refine aj hG' ?_
  try simp only [I,B,D,RX,↓ KW,seval,Bool.not_false,Bool.not_true,hw,Fm.len]
  try rfl
theorem sL.ok {fC e:Nat} (hc:bU P f=some (jM fC e)) (hC:gh.Spec (Pure P) fC):sL.Spec (Pure P) f:=by
  intro t l ht hft hlen
  have hiff:=xg hft (l.getD [])
  obtain ⟨L,hLe⟩:∃ L,L=l.getD []:=⟨_,rfl⟩
  rw [← hLe] at hlen hiff ⊢
  obtain ⟨F,hF⟩:∃ F,F=sK t L:=⟨_,rfl⟩
  rw [← hF] at hiff ⊢
  have hl:=Tb.len ht
  have hp:=Tb.whole ht
  have hg:=Tb.ja ht
  have hsh:=Tb.ov ht
  have hwi:=ht.ln.BZ
  have hz4:([.int .i64 0,.int .i64 0,.int .i64 0,.int .i64 0]:List AV)=[I 0,I 0,I 0,I 0]:=rfl
  have hfl:∀ x:Fm,x.cells.length=6:=fun _=>rfl
  have hfw:∀ x:Fm,aU x.cells 0 (some 6)=some (.agg x.cells):=fun _=>rfl
  have hf3:∀ x:Fm,x.cells[3]? = some (I x.lines):=fun _=>rfl
  have hf4:∀ x:Fm,x.cells[4]? = some (I x.cU):=fun _=>rfl
  have hmn:(if (4:Int) < ((t.aL.getD []).length:Int) then (4:Int) else ((t.aL.getD []).length:Int))=(nR t:Int):=by unfold nR; split<;>omega
  have hn4:nR t≤4:=by unfold nR; omega
  have hno:∀ {p:Prop},F≠true→p=p→F=false:=fun h _=>by simpa using h
  refine aD hm hc (by show 2≤104; decide) (aC (keep:=[]) (i:=0) ?_)
  try simp only [I,B,D,RY,↓ KW,seval,jM,Z.H,← hLe,hg,hmn,hl,hp,hfl,hfw,bM,bN,hf3,hf4]
  refine aF (fun i:Nat=>(⟨[(9,.dat (I i) none),(1,.dat (az Fm.cells l) none),(5,.dat (I (bu L i).1) none),(8,.dat (I (nR t)) none),(6,.ptr 7 0),(2,.ptr 4 0),(7,aH ak (dN (nR t) (ep L) i) 0)],[(7,⟨(I3 (nR t) (ep L) i).map I,[]⟩),(4,⟨t.cells,[]⟩)],aM (dN (nR t) (ep L) i) 0 e,400⟩:S)) (fun i=>L.length - i)
    (fun i=>i≤L.length∧(∀ j,j < i→qx L j=0)∧∀ k,k < nR t→∀ j,j≤i→(gI (ep L) k j).2≤(uD t k).limit) ?_ 0 ⟨by omega,by omega,fun k hk j hj=>by rw [show j=0 by omega]; exact hft.Is k hk⟩ ?_
  rotate_left
  · refine ai (by decide) ?_ ?_ ?_ ?_<;>simp [LX,I,B,D,bu,hLe,I3,gI,dN,hz4,List.range_succ]
  rintro i ⟨hi,hst,hlm⟩ A back
  have hwr:=aB (k:=i) (by omega)
  rcases bf (decide ((i:Int) < (L.length:Int))) with h|h
  · -- the windows
    have h1:i=L.length:=by have:=of_decide_eq_false h; omega
    subst h1
    have hac:=xh (nR t) (ep L) L.length
    have hda:uZ (some (aH ak (dN (nR t) (ep L) L.length) 0))=some (az ak (aX (dN (nR t) (ep L) L.length))):=xe ..
    have hln:mZ (az ak (aX (dN (nR t) (ep L) L.length)))=some (I L.length):=by rw [Cw,hac]
    try simp only [I,B,D,RY,↓ KW,seval,h,← hLe,hl,hp,hfl,hfw,bM,bN,hf3,hf4]
    rcases bf (((nR t:Nat):Int) == 0) with z|z
    rotate_left
    · have hn0:nR t=0:=by have:=of_decide_eq_true z; omega
      have:F=true:=hiff.2 ⟨hst,hlm,.inl hn0⟩
      rw [this]
      try simp only [I,B,D,RY,↓ KW,seval,z,Bool.true_or]
    have hn0:¬ nR t=0:=by intro h0; rw [h0] at z; simp at z
    rcases bf (decide (t.aG < 1)) with y|y
    rotate_left
    · have hw0:=of_decide_eq_true y
      have:F=true:=hiff.2 ⟨hst,hlm,.inr fun i _=>by rw [zm hw0]; exact hft.share⟩
      rw [this]
      try simp only [I,B,D,RY,↓ KW,seval,z,y,hwi,Bool.false_or,hl,hp,hfl,hfw,bM,bN,hf3,hf4]
    have hw1:1≤t.aG:=by have:=of_decide_eq_false y; omega
    try simp only [I,B,D,RY,↓ KW,seval,z,y,hwi,Bool.false_or,hl,hp,hfl,hfw,bM,bN,hf3,hf4]
    obtain ⟨q,hq⟩:∃ q,q=dN (nR t) (ep L) L.length:=⟨_,rfl⟩
    have hqg:∀ j,j < L.length→q[j]? = some (kf (nR t) ((ep L).getD j 0)):=fun j hj=>by rw [hq]; exact CC _ _ hj
    rw [← hq] at hac hda hln
    have hmg:(aX q).getD []=q:=jx q
    refine aF (fun i:Nat=>(⟨[(14,.dat (I i) none),(7,aH ak q 0),(13,.dat (I (ie t.aG (nR t) (ep L) i).2) none),(2,.ptr 4 0)],[(4,⟨t.cells,[]⟩)],aM q 0 e,400⟩:S)) (fun i=>L.length - i) (fun i=>i≤L.length∧∀ j,j≤i→(ie t.aG (nR t) (ep L) j).2≤t.share) ?_ 0 ⟨by omega,fun j hj=>by rw [show j=0 by omega]; exact hft.share⟩ ?_
    rotate_left
    · rw [← hq]
      by_cases ho:q=[]
      all_goals refine ai (by decide) ?_ ?_ ?_ ?_<;>simp [LX,I,B,D,ho,ie,aH,aM]
    rintro i ⟨hi2,hbz⟩ A3 back3
    have hwi2:=aB (k:=i) (by omega)
    have hble:=ya t.aG (nR t) (ep L) i
    have hnx:(ie t.aG (nR t) (ep L) (i + 1)).2=((ie t.aG (nR t) (ep L) i).2 + (if jf (nR t) ((ep L).getD i 0) then 1 else 0) - (if decide ((i:Int) ≥ t.aG) && jf (nR t) ((ep L).getD ((i:Int) - max t.aG 0).toNat 0) then 1 else 0)):=rfl
    rcases bf (decide ((i:Int) < (L.length:Int))) with h2|h2
    · have:F=true:=hiff.2 ⟨hst,hlm,.inr fun j hj=>hbz j (by have:=of_decide_eq_false h2; omega)⟩
      rw [this]
      try simp only [I,B,D,RY,↓ KW,seval,h2,hda,hln,hl,hp,hfl,hfw,bM,bN,hf3,hf4]
    · have h3:i < L.length:=by have:=of_decide_eq_true h2; omega
      have hi0:0≤(i:Int)∧(i:Int) < (L.length:Int):=by omega
      have hqi:=hqg i h3
      have ha1:0≤kf (nR t) ((ep L).getD i 0)∧kf (nR t) ((ep L).getD i 0)≤1:=by unfold kf; split<;>omega
      have hnx2:(ie t.aG (nR t) (ep L) (i + 1)).2=(ie t.aG (nR t) (ep L) i).2 + kf (nR t) ((ep L).getD i 0) - (if decide ((i:Int) ≥ t.aG) then kf (nR t) ((ep L).getD ((i:Int) - max t.aG 0).toNat 0) else 0):=by
        rw [hnx]; unfold kf
        cases decide ((i:Int) ≥ t.aG)<;>simp
      obtain ⟨b2,hb2⟩:∃ b2,b2=(ie t.aG (nR t) (ep L) (i + 1)).2:=⟨_,rfl⟩
      have hend:decide (b2 > t.share)=true→F=false:=by
        intro h
        have h:=of_decide_eq_true h
        cases hFF:F with
        | false=>rfl
        | true =>
          rcases (hiff.1 hFF).2.2 with h5|h5
          · exact absurd h5 hn0
          · have:=h5 (i + 1) (by omega); omega
      have hgo:decide (b2 > t.share)=false→∀ j,j≤i + 1→(ie t.aG (nR t) (ep L) j).2≤t.share:=by
        intro h j hj
        have h:=of_decide_eq_false h
        by_cases ej:j=i + 1
        · subst ej; omega
        · exact hbz j (by omega)
      rw [← hb2] at hnx2
      generalize (ie t.aG (nR t) (ep L) i).2=b1 at *
      generalize kf (nR t) ((ep L).getD i 0)=a1 at *
      have hw2:IntKind.i64.wrap (b1 + a1)=b1 + a1:=aE (by omega) (by omega)
      try simp only [I,B,D,RY,↓ KW,seval,h2,hi0,hda,hln,hac,hmg,hqi,ak,hw2,hwi,hsh,hl,hp,hfl,hfw,bM,bN,hf3,hf4]
      rcases bf (decide ((i:Int) ≥ t.aG)) with h4|h4
      · rw [h4] at hnx2
        simp only [if_false,Bool.false_eq_true] at hnx2
        rw [Int.sub_zero] at hnx2
        try simp only [I,B,D,RY,↓ KW,seval,h4,← hnx2,hsh,hl,hp,hfl,hfw,bM,bN,hf3,hf4]
        refine an (fun h5=>?_) (fun h5=>?_)
        · rw [hend h5]
          try simp only [I,B,D,RY,↓ KW,seval,h5]
        · try simp only [I,B,D,RY,↓ KW,seval,h5]
          refine back3 (i + 1) _ ⟨by omega,hgo h5⟩ (by omega) ?_
          by_cases ho:q=[]
          all_goals refine ai (by decide) ?_ ?_ ?_ ?_<;>simp [LX,I,B,D,hwi2,← hb2,ho,aH,aM]
      · rw [h4] at hnx2
        simp only [if_true] at hnx2
        obtain ⟨j,hj,hjw⟩:∃ j:Nat,((i:Int) - max t.aG 0).toNat=j∧(i:Int) - t.aG=j∧j < L.length:=⟨_,rfl,by have:=of_decide_eq_true h4; omega,by have:=of_decide_eq_true h4; omega⟩
        rw [hj] at hnx2
        have hqj:=hqg j hjw.2
        have hj0:0≤(j:Int)∧(j:Int) < (L.length:Int):=by omega
        have hwj:IntKind.i64.wrap ((i:Int) - t.aG)=(j:Int):=by rw [hjw.1,BT (by omega)]
        have ha2:0≤kf (nR t) ((ep L).getD j 0)∧kf (nR t) ((ep L).getD j 0)≤1:=by unfold kf; split<;>omega
        generalize kf (nR t) ((ep L).getD j 0)=a2 at *
        have hw3:IntKind.i64.wrap (b1 + a1 - a2)=b2:=by rw [hnx2]; exact aE (by omega) (by omega)
        try simp only [I,B,D,RY,↓ KW,seval,h4,hwj,hj0,hda,hln,hac,hmg,hqj,ak,hw3,hwi,hsh,hl,hp,hfl,hfw,bM,bN,hf3,hf4]
        refine an (fun h5=>?_) (fun h5=>?_)
        · rw [hend h5]
          try simp only [I,B,D,RY,↓ KW,seval,h5]
        · try simp only [I,B,D,RY,↓ KW,seval,h5]
          refine back3 (i + 1) _ ⟨by omega,hgo h5⟩ (by omega) ?_
          by_cases ho:q=[]
          all_goals refine ai (by decide) ?_ ?_ ?_ ?_<;>simp [LX,I,B,D,hwi2,← hb2,ho,aH,aM]
  · have h1:i < L.length:=by have:=of_decide_eq_true h; omega
    obtain ⟨d,hd⟩:∃ d,L[i]? = some d:=⟨L[i],by simp [h1]⟩
    have hD:L.getD i default=d:=by simp [hd]
    have hb0:0≤(i:Int):=by omega
    have hb1:(i:Int) < (L.length:Int):=by omega
    have cC:=hC d (bu L i).1
    have hx1:(cn d (bu L i).1).lines=(bu L (i + 1)).1:=by rw [← hD]; rfl
    have hx2:(cn d (bu L i).1).cU=qx L i:=by rw [← hD]; rfl
    generalize cn d (bu L i).1=x at *
    try simp only [I,B,D,RY,↓ KW,seval,h,hb0,hb1,← hLe,hd,hl,hp,hfl,hfw,bM,bN,hf3,hf4]
    refine aj cC ?_
    try simp only [I,B,D,RY,↓ KW,seval,hx1,hx2,hl,hp,hfl,hfw,bM,bN,hf3,hf4]
    rcases bf (qx L i != 0) with hs|hs
    rotate_left
    · try simp only [I,B,D,RY,↓ KW,seval,hs]
      have:F=false:=by
        cases hFF:F with
        | false=>rfl
        | true=>have:=(hiff.1 hFF).1 i h1; simp [this] at hs
      rw [this]
    have hs0:qx L i=0:=by simpa using hs
    try simp only [I,B,D,RY,↓ KW,seval,hs,hl,hp,hfl,hfw,bM,bN,hf3,hf4]
    obtain ⟨ln,hln⟩:∃ ln,ln=(bu L (i + 1)).1:=⟨_,rfl⟩
    have hAg:(ep L).getD i 0=ln:=by rw [hln]; exact zj L h1
    rw [← hln]
    have hlg:∀ k,(gI (ep L) k (i + 1)).2=if tb ln k then (gI (ep L) k i).2 + 1 else 0:=fun k=>by simp only [gI,hAg]
    refine aF (fun k:Nat=>(⟨[(12,.dat (I k) none),(8,.dat (I (nR t)) none),(5,.dat (I ln) none),(6,.ptr 7 0),(2,.ptr 4 0),(7,aH ak (dN (nR t) (ep L) i) 0),(11,.dat (I (kf k ln)) none),(9,.dat (I i) none),(1,.dat (az Fm.cells l) none)],[(7,⟨(zn (nR t) (ep L) i k).map I,[]⟩),(4,⟨t.cells,[]⟩)],aM (dN (nR t) (ep L) i) 0 e,400⟩:S)) (fun k=>nR t - k)
      (fun k=>k≤nR t∧∀ j,j < k→(gI (ep L) j (i + 1)).2≤(uD t j).limit) ?_ 0 ⟨by omega,by omega⟩ ?_
    rotate_left
    · by_cases ho:dN (nR t) (ep L) i=[]
      all_goals refine ai (by decide) ?_ ?_ ?_ ?_<;>simp [LX,I,B,D,Cz,kf,jf,ho,aH,aM]
    rintro k ⟨hk,hlk⟩ A2 back2
    have hwk:=aB (k:=k) (by omega)
    rcases bf (decide ((k:Int) < (nR t:Int))) with h2|h2
    · have h3:k=nR t:=by have:=of_decide_eq_false h2; omega
      subst h3
      have hac:=Aw (nR t) (ep L) i
      rw [hAg] at hac
      have hdf:=CA (n:=nR t) (ep L) i hn4
      have hlm2:∀ k,k < nR t→∀ j,j≤i + 1→(gI (ep L) k j).2≤(uD t k).limit:=by
        intro k hk j hj
        by_cases ej:j=i + 1
        · subst ej; exact hlk k hk
        · exact hlm k hk j (by omega)
      have hst2:∀ j,j < i + 1→qx L j=0:=by
        intro j hj
        by_cases ej:j=i
        · subst ej; exact hs0
        · exact hst j (by omega)
      by_cases ho:dN (nR t) (ep L) i=[]
      all_goals
        try simp only [I,B,D,RY,↓ KW,seval,h2,ho,aH,aM,hl,hp,hfl,hfw,bM,bN,hf3,hf4]
        first
          | refine back (i + 1) _ ⟨by omega,hst2,hlm2⟩ (by omega) ?_
          | refine ⟨by rw [xh]; omega,back (i + 1) _ ⟨by omega,hst2,hlm2⟩ (by omega) ?_⟩
        refine ai (by decide) ?_ ?_ ?_ ?_<;>simp [LX,I,B,D,hwr,hac,hdf,← hln,ho,aH,aM]
    · have h3:k < nR t:=by have:=of_decide_eq_true h2; omega
      have h4:k < 4:=by omega
      have hm1:min k IntKind.i64.bits=k:=by have:=vI h4; simpa using this
      have hb:=vH (s:=ln) h4
      have hy:0≤(k:Int)∧(k:Int) < 4:=by omega
      have hy2:(k:Int) < ((t.aL.getD []).length:Int):=by unfold nR at h3; omega
      have huk:IntKind.u64.wrap (k:Int)=(k:Int):=wrap_u64 (by omega)
      have hle:=x9 (ep L) k i
      have hw1:IntKind.i64.wrap ((gI (ep L) k i).2 + 1)=(gI (ep L) k i).2 + 1:=aE (by omega) (by omega)
      have g1:=It (n:=nR t) (ep L) i h4 h3
      have g2:=E7 (n:=nR t) (ep L) i h4
      have g3:=CB (n:=nR t) (ep L) i h4
      have g4:=hlg k
      have g5:=Av k ln
      have g6:(t.aL.getD [])[k]? = some (uD t k):=by
        have:=vG t h3
        unfold EP at this
        cases hr:t.aL with
        | none=>rw [hr] at hy2; simp at hy2; omega
        | some r=>rw [hr] at this; simp only [Option.map_some,Option.getD_some] at this ⊢; rw [List.getElem?_take] at this; split at this<;>simp_all
      have hdl:∀ i k,(zn (nR t) (ep L) i k).length=4:=fun _ _=>by simp [zn]
      have hrq:∀ r:Rl,(r.cells.drop 10)[0]? = some (I r.limit):=fun _=>rfl
      have hk3:k≤3:=by omega
      cases htb:tb ln k
      all_goals
        rw [htb] at hb g4 g5
        simp only [if_true,if_false,Bool.false_eq_true] at hb g4 g5
        rw [g4] at g2 g3
        try simp only [I,B,D,RY,↓ KW,seval,h2,huk,hm1,hb,hy,hy2,g1,g2,← g3,g6,hrq,hw1,hdl,hg,hk3,Rl.len,hl,hp,hfl,hfw,bM,bN,hf3,hf4]
        have hval:(gI (ep L) k (i + 1)).2=_:=g4
        have hgo:∀ v:Int,v=(gI (ep L) k (i + 1)).2→decide ((uD t k).limit < v)=false→∀ j,j < k + 1→(gI (ep L) j (i + 1)).2≤(uD t j).limit:=by
          intro v hv h j hj
          have h:=of_decide_eq_false h
          by_cases ej:j=k
          · subst ej; omega
          · exact hlk j (by omega)
        have hend:∀ v:Int,v=(gI (ep L) k (i + 1)).2→decide ((uD t k).limit < v)=true→F=false:=by
          intro v hv h
          have h:=of_decide_eq_true h
          cases hFF:F with
          | false=>rfl
          | true=>have:=(hiff.1 hFF).2.1 k h3 (i + 1) (by omega); omega
        refine an (fun h7=>?_) (fun h7=>?_)
        · rw [hend _ g4.symm h7]
          try simp only [I,B,D,RY,↓ KW,seval,h7]
        · try simp only [I,B,D,RY,↓ KW,seval,h7]
          refine back2 (k + 1) _ ⟨by omega,hgo _ g4.symm h7⟩ (by omega) ?_
          by_cases ho:dN (nR t) (ep L) i=[]
          all_goals refine ai (by decide) ?_ ?_ ?_ ?_<;>simp [LX,I,B,D,hwk,g5,g3,ho,aH,aM]
end
end Go.Eng
