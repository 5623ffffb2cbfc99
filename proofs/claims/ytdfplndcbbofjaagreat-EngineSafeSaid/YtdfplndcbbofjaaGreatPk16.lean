/- The engine and the library,part 16 of 16: what the proofs of this seat need of them. -/
import Derived.Test.YtdfplndcbbofjaaGreatPk15
set_option linter.unnecessarySimpa false
set_option linter.unusedSimpArgs false
set_option linter.unusedVariables false
set_option linter.defProp false
set_option maxRecDepth 10000
set_option maxHeartbeats 4000000
namespace Go.Eng
open Go
structure M9 (t:Tb) (x:Pr):Prop where
 VC:0≤x.aq∧x.aq < 6
 which:x.aq≠0→0≤x.which∧x.which < (nR t:Int)
 zero:x.aq=0→x.which=0
theorem BC {t:Tb} {x y:Pr} (h:x.which=y.which):bu t x=bu t y:=by rw [bu,bu,h]
theorem FX {t:Tb} {x y:Pr} {l:List Rn} (h:x.which=y.which):iL t x l=iL t y l:=by rw [iL,iL,BC h]
theorem CJ {t:Tb} {x y:Pr} {l:List Rn} (h:x.which=y.which):gx t x l=gx t y l:=by rw [gx,gx,BC h]
theorem KQ {t:Tb} {x:Pr} (lines:Int) (l:List Rn) (h:M9 t x):M9 t (jb t x lines l).1 ∧
    (((jb t x lines l).2=⟨0,0,0,true,false⟩∧x.aq=0∧(jb t x lines l).1.aq=0) ∨
     ((jb t x lines l).2=iL t x l∧x.aq=5∧(jb t x lines l).1.aq=0∧gx t x l=0) ∨
     (1≤(jb t x lines l).1.aq∧(jb t x lines l).1.aq < 6∧(jb t x lines l).2=mJ t (jb t x lines l).1 l (jb t x lines l).1.aq)):=by
  have hx:=h.VC
  have hw:=h.which
  have hz:=h.zero
  have hu:AM (jv t x lines)=jv t x lines:=if_neg (by show ¬ (x.aq < 0∨6≤x.aq); omega)
  have e1:(jv t x lines).aq=x.aq:=rfl
  have e2:(jv t x lines).which=x.which:=rfl
  have hr:jb t x lines l=ja t (jv t x lines) l:=by rw [jb,MS,hu]
  rw [hr]
  have e3:=FX (t:=t) (l:=l) e2
  have e4:=CJ (t:=t) (l:=l) e2
  generalize jv t x lines=u at *
  rw [← e1,← e2] at hw
  rw [← e1] at hx
  rw [← e1,← e2] at hz
  rw [← e3,← e4,← e1]
  clear e1 e2 e3 e4 hr hu
  unfold ja
  split
  · rename_i hk
    obtain ⟨h1,h2⟩:=FU hk
    have hrr:=Bz t u
    exact ⟨⟨by show (0:Int)≤1∧(1:Int) < 6; omega,fun _=>(by show 0≤aJ t u∧aJ t u < _; omega),fun e=>(by cases e)⟩,.inr (.inr ⟨by show (1:Int)≤1; omega,by show (1:Int) < 6; omega,rfl⟩)⟩
  · split
    · rename_i _ h5
      have e:aA t u l=(gx t u l,u):=by rw [aA,if_neg (by omega),if_neg (by omega),if_neg (by omega),if_neg (by omega),if_neg (by omega)]
      rw [e] at h5 ⊢
      exact ⟨⟨by show (0:Int)≤0∧(0:Int) < 6; omega,fun e=>absurd rfl e,fun _=>rfl⟩,.inr (.inl ⟨rfl,h5.1,rfl,h5.2⟩)⟩
    · rename_i _ h5
      have hrng:=jW t u l
      have hwhich:(aA t u l).1≠0→0≤(aA t u l).2.which∧(aA t u l).2.which < (nR t:Int):=by
        intro hne
        have hs0:u.aq≠0:=by
          intro e
          apply hne
          simp [aA,e]
        have hk:=hw hs0
        unfold aA
        repeat' split
        all_goals first | exact hk | skip
        unfold gZ
        have hsw:(eU t u).which=u.which:=by unfold eU; split<;>rfl
        split
        · exact hk
        · split
          · rename_i h0
            have hrr:=Bz t (eU t u)
            exact ⟨h0,by show aJ t (eU t u) < _; omega⟩
          · rw [hsw]; exact hk
      have hzero:(aA t u l).1=0→u.aq=0∧(aA t u l).2=u:=by
        intro e0
        by_cases e:u.aq=0
        · exact ⟨e,by simp [aA,e]⟩
        exfalso
        revert e0 h5
        simp only [aA,pP,nw,lV,gZ]
        repeat' split
        all_goals (simp only []; omega)
      refine ⟨⟨hrng,fun hne=>hwhich hne,fun e0=>?_⟩,?_⟩
      · obtain ⟨a,b⟩:=hzero e0
        show (aA t u l).2.which=0
        rw [b]; exact hz a
      · by_cases e0:(aA t u l).1=0
        · obtain ⟨a,b⟩:=hzero e0
          refine .inl ⟨?_,a,e0⟩
          show mJ t _ l (aA t u l).1=_
          rw [e0]; rfl
        · exact .inr (.inr ⟨by show 1≤(aA t u l).1; omega,hrng.2,rfl⟩)
end Go.Eng
namespace Go.Eng
open Go
structure KR (p:Ph) (r:Rn):Prop where
 col:0≤r.aC∧r.aC≤3
 dc:0≤r.fst∧r.fst≤2
 stop:r.fst=0→r.cq=0
 off:r.aC≠1→r.fst=0
 done:r.aC=1→r.done=true→p.min≤r.time∧r.fst=0
theorem BD (p:Ph) (st time:Int) (b:Bool):(El p st time b=(2,1)∧st=1∧p.walk≤time)∨(El p st time b=(0,0)∧st=2∧p.dQ≤time)∨(El p st time b=(1,ck time)∧st=1∧time < p.walk)∨(El p st time b=(2,ck time)∧st=2∧time < p.dQ)∨((El p st time b=(1,1)∨El p st time b=(0,0))∧st≠1∧st≠2):=by
 unfold El
 by_cases h1:st=1
 ·subst h1
  by_cases h:time ≥ p.walk
  ·left; simp [h]
  ·right; right; left; simp [h]; omega
 ·by_cases h2:st=2
  ·subst h2
   by_cases h:time ≥ p.dQ
   ·right; left; simp [h]
   ·right; right; right; left; simp [h]; omega
  ·right; right; right; right
   refine ⟨?_,h1,h2⟩
   simp only [show (st == 1)=false by simpa using h1,show (st == 2)=false by simpa using h2,Bool.false_and,Bool.false_eq_true,if_false,Bool.or_self]
   split
   ·exact .inl rfl
   ·exact .inr rfl
theorem wO (p:Ph) (r:Rn) (c:Cu):(CW p r c=(2,1)∧r.fst=1∧(p.walk≤r.cq∨c.cut=true))∨(CW p r c=(0,0)∧r.fst=2∧p.dQ≤r.cq)∨(CW p r c=(1,ck r.cq)∧r.fst=1∧r.cq < p.walk)∨(CW p r c=(2,ck r.cq)∧r.fst=2∧r.cq < p.dQ)∨((CW p r c=(1,1)∨CW p r c=(0,0))∧r.fst≠1∧r.fst≠2):=by
 unfold CW
 split
 ·rename_i h
  simp only [Bool.and_eq_true,beq_iff_eq] at h
  left
  exact ⟨by rw [Iq,h.2]; rfl,h.2,.inr h.1⟩
 ·rcases BD p r.fst r.cq (c.push && !c.cE) with ⟨a,b,d⟩ | h
  ·exact .inl ⟨a,b,.inl d⟩
  ·exact .inr h
theorem Na {x m:Int} (h:m≤x) (h2:m≤9999):m≤ck x:=by
 have:ck x=lM x 0 9999 + 1:=aY (by unfold lM; split<;>(try split)<;>omega) (by unfold lM; split<;>(try split)<;>omega)
 rw [this]; unfold lM; split
 ·omega
 ·split<;>omega
structure Tu (p:Ph) (r:Rn) (c:Cu) (r':Rn):Prop where
 green:r.aC=1→c.fin=false→r'.aC=1∧r'.time=ck r.time∧r'.fst=(CW p r c).1∧r'.cq=(CW p r c).2
 fin:r.aC=1→c.fin=true→r'.aC=2∧r'.time=1∧r'.fst=0∧r'.cq=0
 dP:r.aC=2→(r'.fst=0∧r'.cq=0)∧((r.time < p.dP∧r'.aC=2∧r'.time=ck r.time)∨(p.dP≤r.time∧0 < p.red∧r'.aC=3∧r'.time=1)∨(p.dP≤r.time∧p.red≤0∧r'.aC=0∧r'.time=1))
 clear:r.aC=3→(r'.fst=0∧r'.cq=0)∧((r.time < p.red∧r'.aC=3∧r'.time=ck r.time)∨(p.red≤r.time∧r'.aC=0∧r'.time=1))
 red:cn r=true→c.start=false→r'.aC=0∧r'.time=ck r.time∧r'.fst=0∧r'.cq=0
 start:cn r=true→c.start=true→r'.aC=1∧r'.time=1∧((r'.fst=1∧r'.cq=1)∨(r'.fst=0∧r'.cq=0))∧r'.done=false
theorem FY (p:Ph) (r:Rn) (c:Cu):Tu p r c (c7 p r c):=by
 have red3:cn r=true↔(r.aC≠1∧r.aC≠2∧r.aC≠3):=by simp [cn]
 constructor
 ·intro h1 h2
  have e:c7 p r c=jy p r c:=by simp [c7,h1]
  rw [e,jy,h2]
  simp only [Bool.false_eq_true,if_false]
  split
  ·exact ⟨rfl,rfl,rfl,rfl⟩
  ·split<;>exact ⟨rfl,rfl,rfl,rfl⟩
 ·intro h1 h2
  have e:c7 p r c=jy p r c:=by simp [c7,h1]
  rw [e,jy,h2]
  simp only [if_true]
  split<;>exact ⟨rfl,rfl,rfl,rfl⟩
 ·intro h1
  have e:c7 p r c=pZ p r:=by simp [c7,h1]
  rw [e,pZ]
  split
  ·exact ⟨⟨rfl,rfl⟩,.inl ⟨by assumption,rfl,rfl⟩⟩
  ·split
   ·exact ⟨⟨rfl,rfl⟩,.inr (.inl ⟨by omega,by omega,rfl,rfl⟩)⟩
   ·exact ⟨⟨rfl,rfl⟩,.inr (.inr ⟨by omega,by omega,rfl,rfl⟩)⟩
 ·intro h1
  have e:c7 p r c=wH p r:=by simp [c7,h1]
  rw [e,wH]
  split
  ·exact ⟨⟨rfl,rfl⟩,.inl ⟨by assumption,rfl,rfl⟩⟩
  ·exact ⟨⟨rfl,rfl⟩,.inr ⟨by omega,rfl,rfl⟩⟩
 ·intro h1 h2
  obtain ⟨a,b,d⟩:=red3.1 h1
  have e:c7 p r c=Em p r c:=by simp [c7,a,b,d]
  rw [e,Em,h2]
  exact ⟨rfl,rfl,rfl,rfl⟩
 ·intro h1 h2
  obtain ⟨a,b,d⟩:=red3.1 h1
  have e:c7 p r c=Em p r c:=by simp [c7,a,b,d]
  rw [e,Em,h2]
  simp only [if_true]
  refine ⟨rfl,rfl,?_,rfl⟩
  show ((El p 0 0 c.push).1=1∧(El p 0 0 c.push).2=1)∨((El p 0 0 c.push).1=0∧(El p 0 0 c.push).2=0)
  rcases BD p 0 0 c.push with ⟨_,h,_⟩|⟨_,h,_⟩|⟨_,h,_⟩|⟨_,h,_⟩|⟨h,_⟩
  ·cases h
  ·cases h
  ·cases h
  ·cases h
  ·rcases h with h | h<;>rw [h]<;>simp
theorem BE {r:Rn} (h:0≤r.aC∧r.aC≤3):(r.aC=0∧cn r=true)∨(r.aC=1∧cn r=false)∨(r.aC=2∧cn r=false)∨(r.aC=3∧cn r=false):=by
 have:r.aC=0∨r.aC=1∨r.aC=2∨r.aC=3:=by omega
 rcases this with e|e|e|e<;>simp [cn,e]
theorem Nb {p:Ph} {r:Rn} (c:Cu) (hm:p.min≤9999) (h:KR p r):KR p (c7 p r c):=by
 have o:=FY p r c
 have hd:(c7 p r c).aC=1→r.aC=1→c.fin=false→(c7 p r c).done=true→p.min≤(c7 p r c).time∧(c7 p r c).fst=0:=by
  intro _ h1 h2 h3
  obtain ⟨g1,g2,g3,g4⟩:=o.green h1 h2
  have hf:=wO p r c
  have e:c7 p r c=jy p r c:=by simp [c7,h1]
  have hdd:(cU p (gQ p r c) c=true)∨(gQ p r c).done=true:=by
   rw [e,jy,h2] at h3
   simp only [Bool.false_eq_true,if_false] at h3
   split at h3
   ·exact .inr h3
   ·split at h3
    ·rename_i hh; exact .inl hh
    ·exact .inr h3
  have hft:=h.dc
  rcases hdd with hdd|hdd
  ·simp only [cU,Bool.and_eq_true,decide_eq_true_eq,Bool.not_eq_true',eK,Bool.or_eq_false_iff,beq_eq_false_iff_ne] at hdd
   obtain ⟨⟨⟨_,k1⟩,k2⟩,_⟩:=hdd
   refine ⟨by rw [g2]; exact k1,?_⟩
   have k3:(CW p r c).1≠1∧(CW p r c).1≠2:=k2
   rw [g3]
   rcases hf with ⟨a,_⟩|⟨a,_⟩|⟨a,_⟩|⟨a,_⟩|⟨a|a,_⟩<;>rw [a] at k3 ⊢<;>simp at k3 ⊢
  ·have hpd:(if bG p r c then false else r.done)=true:=hdd
   have hcl:bG p r c=false:=by
    cases hc:bG p r c
    ·rfl
    ·rw [hc] at hpd; cases hpd
   rw [hcl] at hpd
   obtain ⟨m1,m2⟩:=h.done h1 hpd
   refine ⟨by rw [g2]; exact Na m1 hm,?_⟩
   rw [g3]
   have hcl2:(CW p r c).1≠1:=by
    simp only [bG,eK,m2] at hcl
    simpa using hcl
   rcases hf with ⟨a,b,_⟩|⟨a,b,_⟩|⟨a,b,_⟩|⟨a,b,_⟩|⟨a|a,_⟩
   ·omega
   ·rw [a]
   ·omega
   ·omega
   ·rw [a] at hcl2; exact absurd rfl hcl2
   ·rw [a]
 have hft:=h.dc
 have hst:=h.stop
 rcases BE h.col with ⟨e,er⟩|⟨e,er⟩|⟨e,er⟩|⟨e,er⟩
 ·cases hc:c.start
  ·obtain ⟨a,b,d,g⟩:=o.red er hc
   exact ⟨by omega,by omega,fun _=>g,fun _=>d,fun k=>by omega⟩
  ·obtain ⟨a,b,d,g⟩:=o.start er hc
   exact ⟨by omega,by omega,fun k=>by omega,fun k=>by omega,fun _ k=>by rw [g] at k; cases k⟩
 ·cases hc:c.fin
  ·obtain ⟨a,b,d,g⟩:=o.green e hc
   refine ⟨by omega,?_,fun k=>?_,fun k=>absurd a k,fun k1 k2=>hd k1 e hc k2⟩
   ·rw [d]
    rcases wO p r c with ⟨x,_⟩|⟨x,_⟩|⟨x,_⟩|⟨x,_⟩|⟨x|x,_⟩<;>rw [x]<;>simp
   ·rw [d] at k
    rw [g]
    rcases wO p r c with ⟨x,_⟩|⟨x,_⟩|⟨x,_⟩|⟨x,_⟩|⟨x|x,_⟩<;>rw [x] at k ⊢<;>simp at k ⊢
  ·obtain ⟨a,b,d,g⟩:=o.fin e hc
   exact ⟨by omega,by omega,fun _=>g,fun _=>d,fun k=>by omega⟩
 ·obtain ⟨⟨d,g⟩,a⟩:=o.dP e
  exact ⟨by omega,by omega,fun _=>g,fun _=>d,fun k=>by omega⟩
 ·obtain ⟨⟨d,g⟩,a⟩:=o.clear e
  exact ⟨by omega,by omega,fun _=>g,fun _=>d,fun k=>by omega⟩
end Go.Eng
namespace Go.Eng
open Go
structure TG (t:Tb) (n:Nat):Prop where
 n8:n≤8
 on:∀ p:Nat,p < 8→(aO t p).on=decide (p < n)
 ph:∀ p:Nat,p < n→Kb (aO t p)
 off:∀ p:Nat,p < 8→n≤p→aO t p=default
 sym:∀ p q,p < 8→q < 8→tb (dY t p) q=tb (dY t q) p
 UN:∀ p q:Nat,p < 8→q < 8→tb (dY t p) q=true→p≠q∧cz t p q=false
 uq:Uq t
 wh:∀ p:Nat,p < n→(ay t p).2=true
 U7:∀ p:Nat,(ay t p).2=true→p < n
 rl:(t.bz.getD []).length≤2∧∀ r∈t.bz.getD [],CB t n r
theorem Tv (l:Option (List Int)):TG (bO l) (nT l) where
 n8:=(mG l).2
 on:=fun p hp=>by rw [UB l hp]; split<;>rename_i h<;>simp [h]; exact (GL _ _).on; rfl
 ph:=fun p hp=>by rw [UB l (by have:=(mG l).2; omega),if_pos hp]; exact GL _ _
 off:=fun p h8 hp=>by rw [UB l h8,if_neg (by omega)]
 sym:=fun p q hp hq=>Ii l hp hq
 UN:=fun p q hp hq h=>Il l hp hq h
 uq:=KN l
 wh:=fun p hp=>KD l hp
 U7:=fun p h=>by
  obtain ⟨h1,h2⟩:=EJ h
  have h3:(ay (bO l) p).1.p∈(bt (bO l)).map Sp.p:=List.mem_map_of_mem h1
  rw [CC,h2,cw] at h3
  simp only [List.mem_map,List.mem_range] at h3
  obtain ⟨i,hi,he⟩:=h3
  omega
 rl:=PM l
theorem TG.min {t:Tb} {n:Nat} (h:TG t n) {p:Nat} (hp:p < 8):(aO t p).min≤9999:=by
 by_cases e:p < n
 ·have:=(h.ph p e).min; omega
 ·rw [h.off p hp (by omega)]; decide
structure SI (t:Tb) (n:Nat) (s:bD):Prop where
 ok:s.Ok
 safe:∀ p q,p < 8→q < 8→tb (dY t p) q=true→cn (s.rn p)=true∨cn (s.rn q)=true
 run:∀ p:Nat,p < 8→KR (aO t p) (s.rn p)
 off:∀ p,p < 8→n≤p→cn (s.rn p)=true
 pre:M9 t s.pre
 ring:s.pre.aq=0→∀ p:Nat,p < 8→(s.rn p).aC=1→∃ k:Int,(k=0∨k=1)∧mV t s.rings k=p
structure EK (t:Tb) (n:Nat) (s:bD) (st fn ct:Int) (aq:Int) (rg:eH):Prop where
 start:∀ p,p < 8→tb st p=true→cn (s.rn p)=true∧p < n∧∀ q,q < 8→tb (dY t p) q=true→cn (s.rn q)=true
 two:∀ p q,p < 8→q < 8→tb st p=true→tb st q=true→tb (dY t p) q=false
 fin:∀ p:Nat,p < 8→tb fn p=true→(s.rn p).aC=1→((aO t p).min≤(s.rn p).time∧(s.rn p).fst=0)∨aq=1∨aq=3
 cut:∀ p,p < 8→tb ct p=true→aq=1∨aq=3
 ring:aq=0→∀ p:Nat,p < 8→((s.rn p).aC=1∧tb fn p=false)∨tb st p=true→∃ k:Int,(k=0∨k=1)∧mV t rg k=p
theorem Au {t:Tb} {l:List Rn} {p:Nat} (h:iB t l p=true):cn (aT l p)=true∧(aT l p).time ≥ t.revert∧∀ q,q < 8→tb (dY t p) q=true→cn (aT l q)=true:=by
 simp only [iB,Bool.and_eq_true,decide_eq_true_eq] at h
 exact ⟨h.1.1,h.1.2,rC.1 h.2⟩
def Nc (t:Tb) (r:eH) (l:List Rn) (want k:Int):Prop:=xZ t r l k=false∧ur t r want k ≥ 0∧iB t l (qg t r.group k (ur t r want k)).toNat=true
def Tw (t:Tb) (r:eH) (l:List Rn) (want k:Int):Prop:=xZ t r l k=true∧Bt t r l want k=true
def qR (t:Tb) (r:eH) (want k:Int):Int:=qg t r.group k (ur t r want k)
theorem sQ (t:Tb) (r:eH) (l:List Rn) (want k:Int) (x:eH × Int × Int) :
  (Tw t r l want k∧¬ Nc t r l want k∧qh t r l want k x=(x.1,x.2.1,cY x.2.2 (mV t r k)))∨(Nc t r l want k∧¬ Tw t r l want k∧qh t r l want k x=(x.1.put k (ur t r want k),cY x.2.1 (qR t r want k),x.2.2))∨(¬ Tw t r l want k∧¬ Nc t r l want k∧qh t r l want k x=x):=by
 unfold qh
 split
 ·rename_i h
  split
  ·rename_i h2
   exact .inl ⟨⟨h,h2⟩,fun h3=>(by rw [h3.1] at h; cases h),rfl⟩
  ·rename_i h2
   exact .inr (.inr ⟨fun h3=>h2 h3.2,fun h3=>(by rw [h3.1] at h; cases h),rfl⟩)
 ·rename_i h
  split
  ·rename_i h1
   split
   ·rename_i h2
    exact .inr (.inl ⟨⟨by simpa using h,h1,h2⟩,fun h3=>h h3.1,rfl⟩)
   ·rename_i h2
    exact .inr (.inr ⟨fun h3=>h h3.1,fun h3=>h2 h3.2.2,rfl⟩)
  ·rename_i h1
   exact .inr (.inr ⟨fun h3=>h h3.1,fun h3=>h1 h3.2.1,rfl⟩)
theorem kD {s:Int} {p:Int} (hp:0≤p∧p < 8) (i:Nat):tb (cY s p) i=(tb s i && decide (i < 8) || decide ((i:Int)=p)):=by
 obtain ⟨k,rfl⟩:∃ k:Nat,p=k:=⟨p.toNat,by omega⟩
 rw [lN (by omega)]
 congr 1
 exact decide_eq_decide.2 (by omega)
theorem rZ (t:Tb) (r:eH) (l:List Rn) (want:Int) {i:Nat} (hi:i < 8) :
  (tb (jA t r l want).2.1 i=true→∃ k:Int,(k=0∨k=1)∧Nc t r l want k∧(i:Int)=qR t r want k) ∧
  (tb (jA t r l want).2.2 i=true→∃ k:Int,(k=0∨k=1)∧Tw t r l want k∧(i:Int)=mV t r k):=by
 have q8:∀ k:Int,(k=0∨k=1)→Nc t r l want k→0≤qR t r want k∧qR t r want k < 8:=fun k hk h=>EF h.2.1 (by omega)
 have n8:∀ k:Int,Tw t r l want k→0≤mV t r k∧mV t r k < 8:=fun k h=>FJ h.1
 unfold jA
 have c1:=sQ t r l want 1 (qh t r l want 0 (r,0,0))
 have c0:=sQ t r l want 0 (r,0,0)
 rcases c0 with ⟨a,b,e⟩|⟨a,b,e⟩|⟨a,b,e⟩<;>rw [e] at c1 ⊢<;>rcases c1 with ⟨a1,b1,e1⟩|⟨a1,b1,e1⟩|⟨a1,b1,e1⟩<;>rw [e1] <;>
  constructor<;>intro h<;>simp only [eu] at h<;>(try (cases h; done))
 all_goals
  first
   | rw [kD (n8 1 a1),kD (n8 0 a)] at h
   | rw [kD (q8 1 (.inr rfl) a1),kD (q8 0 (.inl rfl) a)] at h
   | rw [kD (n8 1 a1)] at h
   | rw [kD (q8 1 (.inr rfl) a1)] at h
   | rw [kD (n8 0 a)] at h
   | rw [kD (q8 0 (.inl rfl) a)] at h
  simp only [eu,hi,decide_true,Bool.and_true,Bool.false_or,Bool.or_eq_true,decide_eq_true_eq] at h
  first
   |(rcases h with h | h
     ·exact ⟨0,.inl rfl,a,h⟩
     ·exact ⟨1,.inr rfl,a1,h⟩)
   | exact ⟨0,.inl rfl,a,h⟩
   | exact ⟨1,.inr rfl,a1,h⟩
theorem KS (t:Tb) (r:eH) (l:List Rn) (want:Int):(jA t r l want).1.group=r.group∧∀ k:Int,(k=0∨k=1)→(Nc t r l want k→(jA t r l want).1.at k=ur t r want k)∧(¬ Nc t r l want k→(jA t r l want).1.at k=r.at k):=by
 unfold jA
 have c1:=sQ t r l want 1 (qh t r l want 0 (r,0,0))
 have c0:=sQ t r l want 0 (r,0,0)
 rcases c0 with ⟨a,b,e⟩|⟨a,b,e⟩|⟨a,b,e⟩<;>rw [e] at c1 ⊢<;>rcases c1 with ⟨a1,b1,e1⟩|⟨a1,b1,e1⟩|⟨a1,b1,e1⟩<;>rw [e1] <;>
  refine ⟨rfl,fun k hk=>?_⟩<;>rcases hk with rfl | rfl<;>refine ⟨fun h=>?_,fun h=>?_⟩<;>first | rfl | exact absurd h (by assumption) | exact absurd (by assumption) h
theorem G8 {t:Tb} {r:eH} {k:Int} (hk:k=0∨k=1):mV t r k=qg t r.group k (r.at k):=by rw [mV,if_neg (by omega)]
theorem Qb {t:Tb} {r:eH} {l:List Rn} {want k:Int} (hk:k=0∨k=1) (h:Nc t r l want k) {i:Nat} (hi:(i:Int)=qR t r want k):iB t l i=true:=by
 have h2:=h.2.2
 rw [show qg t r.group k (ur t r want k)=qR t r want k from rfl,← hi,Int.toNat_natCast] at h2
 exact h2
theorem BF {t:Tb} {n:Nat} {s:bD} (g:TG t n) {r:eH} {want:Int} {p:Nat} (hp:p < 8) (h:tb (jA t r s.runs want).2.1 p=true):cn (s.rn p)=true∧p < n∧∀ q,q < 8→tb (dY t p) q=true→cn (s.rn q)=true:=by
 obtain ⟨k,hk,h1,h2⟩:=(rZ t r s.runs want hp).1 h
 obtain ⟨a,_,b⟩:=Au (Qb hk h1 h2)
 refine ⟨a,?_,b⟩
 have hw:=As g.uq (t:=t) (g:=r.group) (r:=k) (pl:=ur t r want k) (EF h1.2.1 (by omega)).1
 rw [show qg t r.group k (ur t r want k)=qR t r want k from rfl,← h2] at hw
 exact g.U7 p (by rw [hw])
theorem G9 {t:Tb} {n:Nat} {s:bD} (g:TG t n) {r:eH} {want:Int} {p q:Nat} (hp:p < 8) (hq:q < 8) (h:tb (jA t r s.runs want).2.1 p=true) (h':tb (jA t r s.runs want).2.1 q=true):tb (dY t p) q=false:=by
 obtain ⟨k,hk,h1,h2⟩:=(rZ t r s.runs want hp).1 h
 obtain ⟨j,hj,h3,h4⟩:=(rZ t r s.runs want hq).1 h'
 cases hc:tb (dY t p) q with
 | false=>rfl
 | true =>
  exfalso
  obtain ⟨c1,c2⟩:=g.UN p q hp hq hc
  have a1:=(EF h1.2.1 (by omega)).1
  have a2:=(EF h3.2.1 (by omega)).1
  rw [h2,h4] at c2
  rcases hk with rfl|rfl<;>rcases hj with rfl|rfl
  ·exact c1 (by have:=h2.trans h4.symm; omega)
  ·have:=BB g.uq a1 a2
   rw [show cz t (qR t r want 0) (qR t r want 1)=true from this] at c2; cases c2
  ·have:=BB g.uq a2 a1
   rw [t5,show cz t (qR t r want 0) (qR t r want 1)=true from this] at c2; cases c2
  ·exact c1 (by have:=h2.trans h4.symm; omega)
theorem He {t:Tb} {n:Nat} {s:bD} (I:SI t n s) {p:Nat} (hp:p < 8) (hc:(s.rn p).aC=1) (h:(s.rn p).done=true∨FF (aO t p) (s.rn p)=true):(aO t p).min≤(s.rn p).time∧(s.rn p).fst=0:=by
 have R:=I.run p hp
 rcases h with h|h
 ·exact R.done hc h
 ·simp only [FF,Bool.and_eq_true,decide_eq_true_eq,Bool.not_eq_true',Bool.or_eq_false_iff,beq_eq_false_iff_ne] at h
  have:=R.dc
  exact ⟨h.1.1.2,by omega⟩
theorem Nd {t:Tb} {n:Nat} {s:bD} (I:SI t n s) {r:eH} {want:Int} {p:Nat} (hp:p < 8) (h:tb (jA t r s.runs want).2.2 p=true):(aO t p).min≤(s.rn p).time∧(s.rn p).fst=0:=by
 obtain ⟨k,hk,h1,h2⟩:=(rZ t r s.runs want hp).2 h
 have he:=h1.2
 rw [Bt,← h2,Int.toNat_natCast] at he
 have he:((s.rn p).aC == 1 && (((s.rn p).done && decide (ur t r want k ≥ 0)) || (FF (aO t p) (s.rn p) && !dR want p)))=true:=he
 simp only [Bool.and_eq_true,Bool.or_eq_true,beq_iff_eq] at he
 refine He I hp he.1 ?_
 rcases he.2 with h|h
 ·exact .inl h.1
 ·exact .inr h.1
theorem Av {t:Tb} {s:bD} {r:eH} {p:Nat} {k:Int} (hc:(s.rn p).aC=1) (h:mV t r k=p):xZ t r s.runs k=true:=by
 rw [xZ,h,Int.toNat_natCast]
 have:cn (aT s.runs p)=false:=by show cn (s.rn p)=false; simp [cn,hc]
 rw [this]; simp
theorem Qc {t:Tb} {n:Nat} {s:bD} (g:TG t n) (I:SI t n s) (want:Int) (h0:s.pre.aq=0):EK t n s (EE t s.rings s.runs want).2.1 (EE t s.rings s.runs want).2.2 0 0 (EE t s.rings s.runs want).1:=by
 have z:∀ p,tb (0:Int) p=true→False:=fun p h=>by rw [eu] at h; cases h
 unfold EE
 split
 ·refine ⟨fun p _ h=>(z p h).elim,fun p q _ _ h=>(z p h).elim,fun p _ h=>(z p h).elim,fun p _ h=>(z p h).elim,fun _ p hp h=>?_⟩
  rcases h with h|h
  ·have hr:((List.range 8).all fun p=>cn (aT s.runs p))=false:=List.all_eq_false.2 ⟨p,List.mem_range.2 hp,by show ¬ cn (s.rn p)=true; simp [cn,h.1]⟩
   have e:ND t s.rings s.runs want=s.rings:=by rw [ND,hr]; rfl
   show ∃ k:Int,(k=0∨k=1)∧mV t (ND t s.rings s.runs want) k=p
   rw [e]
   exact I.ring h0 p hp h.1
  ·exact (z p h).elim
 ·have keep:∀ p:Nat,p < 8→(s.rn p).aC=1→∃ k:Int,(k=0∨k=1)∧mV t (jA t s.rings s.runs want).1 k=p:=by
   intro p hp hc
   obtain ⟨k,hk,hn⟩:=I.ring h0 p hp hc
   refine ⟨k,hk,?_⟩
   have hb:=Av hc hn
   have hns:¬ Nc t s.rings s.runs want k:=fun hs=>by rw [hs.1] at hb; cases hb
   obtain ⟨e1,e2⟩:=KS t s.rings s.runs want
   rw [G8 hk,e1,(e2 k hk).2 hns,← G8 hk,hn]
  have begun:∀ p:Nat,p < 8→tb (jA t s.rings s.runs want).2.1 p=true→∃ k:Int,(k=0∨k=1)∧mV t (jA t s.rings s.runs want).1 k=p:=by
   intro p hp h
   obtain ⟨k,hk,h1,h2⟩:=(rZ t s.rings s.runs want hp).1 h
   refine ⟨k,hk,?_⟩
   obtain ⟨e1,e2⟩:=KS t s.rings s.runs want
   rw [G8 hk,e1,(e2 k hk).1 h1,h2]; rfl
  split
  ·rename_i hcr
   simp only [MW,Bool.and_eq_true,beq_iff_eq] at hcr
   refine ⟨fun p hp h=>BF g hp h,fun p q hp hq h h'=>G9 g hp hq h h',fun p hp h hc=>.inl ?_,fun p _ h=>(z p h).elim,fun _ p hp h=>?_⟩
   ·obtain ⟨k,hk,hn⟩:=I.ring h0 p hp hc
    have hb:=Av hc hn
    have hset:xD t s.rings s.runs want k=true:=by rcases hk with rfl | rfl; exact hcr.2.1; exact hcr.2.2.1
    simp only [xD,vF,hb,hn,Int.toNat_natCast,Bool.not_true,Bool.false_or,Bool.and_eq_true] at hset
    exact He I hp hc (.inl hset.2.2)
   ·rcases h with h | h
    ·exact keep p hp h.1
    ·exact begun p hp h
  ·refine ⟨fun p hp h=>BF g hp h,fun p q hp hq h h'=>G9 g hp hq h h',fun p hp h _=>.inl (Nd I hp h),fun p _ h=>(z p h).elim,fun _ p hp h=>?_⟩
   rcases h with h|h
   ·exact keep p hp h.1
   ·exact begun p hp h
end Go.Eng
namespace Go.Eng
open Go
theorem Nf (r:eH) {k:Int} (hk:k=0∨k=1) (x:Int):(r.put k x).at k=x∧(r.put k x).group=r.group∧∀ j:Int,(j=0∨j=1)→j≠k→(r.put k x).at j=r.at j:=by
 rcases hk with rfl|rfl
 ·exact ⟨rfl,rfl,fun j hj hn=>by rcases hj with rfl | rfl; exact absurd rfl hn; rfl⟩
 ·exact ⟨rfl,rfl,fun j hj hn=>by rcases hj with rfl | rfl; rfl; exact absurd rfl hn⟩
theorem EL {t:Tb} {G:Int}:∀ (L:List Nat) (r:eH),(∀ p∈L,(ay t p).2=true∧(ay t p).1.group=G)→L.Pairwise (fun p q:Nat=>(ay t p).1.ring≠(ay t q).1.ring)→r.group=G→(∀ p∈L,r.at (ay t p).1.ring < 0) →
  (L.foldl (K4 t) r).group=G∧(∀ p∈L,(L.foldl (K4 t) r).at (ay t p).1.ring=(ay t p).1.pos)∧∀ k:Int,(k=0∨k=1)→(∀ p∈L,(ay t p).1.ring≠k)→(L.foldl (K4 t) r).at k=r.at k
 | [],r,_,_,hg,_=>⟨hg,fun p h=>(by cases h),fun _ _ _=>rfl⟩
 | p :: L,r,hw,hp,hg,hn=>by
  obtain ⟨w1,w2⟩:=hw p (by simp)
  have hr:=jY w1
  have hk:(ay t p).1.ring=0∨(ay t p).1.ring=1:=by omega
  obtain ⟨g1,g2,g3⟩:=Nf r hk (ay t p).1.pos
  have e:K4 t r p=r.put (ay t p).1.ring (ay t p).1.pos:=by
   rw [K4,w1,w2,hg,decide_eq_true (hn p (by simp))]; simp
  obtain ⟨hp1,hp2⟩:=List.pairwise_cons.1 hp
  obtain ⟨i1,i2,i3⟩:=EL L (K4 t r p) (fun q hq=>hw q (by simp [hq])) hp2 (by rw [e,g2,hg]) (fun q hq=>by
   have hq1:=jY (hw q (by simp [hq])).1
   rw [e,g3 _ (by omega) (fun h=>hp1 q hq h.symm)]
   exact hn q (by simp [hq]))
  rw [List.foldl_cons]
  refine ⟨i1,fun q hq=>?_,fun k hk2 hall=>?_⟩
  ·rcases List.mem_cons.1 hq with rfl | hq
   ·rw [i3 _ hk (fun q' hq' h=>hp1 q' hq' h.symm),e,g1]
   ·exact i2 q hq
  ·rw [i3 k hk2 (fun q hq=>hall q (by simp [hq])),e,g3 k hk2 (fun h=>hall p (by simp) h.symm)]
theorem xF {t:Tb} {p q:Int} (h:cz t p q=true):(ay t p).2=true∧(ay t q).2=true∧(ay t p).1.group=(ay t q).1.group∧(ay t p).1.ring≠(ay t q).1.ring:=by
 simp only [cz,Bool.and_eq_true,beq_iff_eq,bne_iff_ne] at h
 exact ⟨h.1.1.1,h.1.1.2,h.1.2,h.2⟩
theorem Ng {t:Tb} {n:Nat} (g:TG t n) {e:Int} (he:NB t n e) {p:Nat} (hp:p < 8) (h:tb e p=true):∃ k:Int,(k=0∨k=1)∧mV t (Iu t e) k=p:=by
 have hm:=zF hp h
 have hall:∀ q∈ei e,(ay t q).2=true:=fun q hq=>g.wh q (he.2.1 q (j6 hq) (pL hq))
 obtain ⟨p0,hf⟩:∃ p0,(ei e).head? = some p0:=by
  cases hs:ei e with
  | nil=>rw [hs] at hm; cases hm
  | cons a b=>exact ⟨a,rfl⟩
 have hm0:p0∈ei e:=List.mem_of_mem_head? hf
 have hfst:vz e=p0:=by rw [vz,hf]
 have hgrp:∀ q∈ei e,(ay t q).1.group=(ay t p0).1.group:=fun q hq=>by
  by_cases hne:q=p0
  ·rw [hne]
  ·exact (xF (he.2.2 q p0 (j6 hq) (j6 hm0) (pL hq) (pL hm0) hne)).2.2.1
 have hpw:(ei e).Pairwise (fun p q:Nat=>(ay t p).1.ring≠(ay t q).1.ring):=by
  refine List.Pairwise.imp_of_mem ?_ (FA e)
  intro a b ha hb hne
  exact (xF (he.2.2 a b (j6 ha) (j6 hb) (pL ha) (pL hb) hne)).2.2.2
 have hw0:=jY (hall p hm)
 have hk:(ay t p).1.ring=0∨(ay t p).1.ring=1:=by omega
 obtain ⟨a,b,_⟩:=EL (ei e) ⟨(ay t p0).1.group,-1,-1,false⟩ (fun q hq=>⟨hall q hq,hgrp q hq⟩) hpw rfl (fun q hq=>by
  have hq1:=jY (hall q hq)
  have:(ay t q).1.ring=0∨(ay t q).1.ring=1:=by omega
  rcases this with h|h<;>rw [h]<;>exact (by decide:(-1:Int) < 0))
 refine ⟨(ay t p).1.ring,hk,?_⟩
 rw [G8 hk,Iu,hfst,a,b p hm,← hgrp p hm]
 exact KO (hall p hm)
theorem NF {t:Tb} {n:Nat} (g:TG t n) {x:Pr} (h:0≤x.which∧x.which < (nR t:Int)):CB t n (bu t x):=by
 rw [bu,if_pos h]
 have hl:x.which.toNat < (t.bz.getD []).length:=by have:nR t≤(t.bz.getD []).length:=Nat.min_le_left _ _; omega
 refine g.rl.2 _ ?_
 rw [Ka,List.getD_eq_getElem?_getD,List.getElem?_eq_getElem hl]
 exact List.getElem_mem hl
theorem Qd {t:Tb} {x:Pr} (h:0≤x.which∧x.which < (nR t:Int)):M0 t x.which=(bu t x).exit:=by
 have:nR t≤(t.bz.getD []).length:=Nat.min_le_left _ _
 rw [M0,if_neg (by omega),bu,if_pos h]
theorem CL {t:Tb} {n:Nat} (g:TG t n) {e:Int} (he:NB t n e) {p q:Nat} (hp:p < 8) (hq:q < 8) (h1:tb e p=true) (h2:tb e q=true):tb (dY t p) q=false:=by
 cases hc:tb (dY t p) q with
 | false=>rfl
 | true =>
  obtain ⟨c1,c2⟩:=g.UN p q hp hq hc
  rw [he.2.2 p q hp hq h1 h2 c1] at c2; cases c2
theorem KT {t:Tb} {n:Nat} {s:bD} (g:TG t n) (I:SI t n s) (h5:s.pre.aq=5) (hl:gx t s.pre s.runs=0) :
  EK t n s (iL t s.pre s.runs).start (iL t s.pre s.runs).fin (iL t s.pre s.runs).cut 0 (Iu t (M0 t s.pre.which)):=by
 have hw:=I.pre.which (by rw [h5]; decide)
 have hg:=NF g hw
 have hex:=Qd (t:=t) hw
 have hall:nv s.runs (bf .i64 255 (bu t s.pre).exit)=true:=by
  unfold gx at hl
  split at hl
  ·rename_i h; simp only [Bool.and_eq_true] at h; exact h.1
  ·exact absurd hl (by decide)
 have hout:∀ q,q < 8→tb (bu t s.pre).exit q=false→cn (s.rn q)=true:=fun q hq h=>rC.1 hall q hq (by rw [P9 hq,h]; rfl)
 have hst:∀ p,p < 8→tb (iL t s.pre s.runs).start p=(tb (bu t s.pre).exit p && cn (s.rn p)):=fun p hp=>by
  show tb (t7 (bu t s.pre).exit fun p=>cn (aT s.runs p)) p=_
  rw [FV hp]; rfl
 have hz1:(iL t s.pre s.runs).fin=0:=by rw [iL]
 have hz2:(iL t s.pre s.runs).cut=0:=by rw [iL]
 rw [hex]
 refine ⟨fun p hp h=>?_,fun p q hp hq h h'=>?_,fun p _ h=>?_,fun p _ h=>?_,fun _ p hp h=>?_⟩
 ·rw [hst p hp,Bool.and_eq_true] at h
  refine ⟨h.2,hg.exit.1.2.1 p hp h.1,fun q hq hc=>?_⟩
  refine hout q hq ?_
  cases he:tb (bu t s.pre).exit q with
  | false=>rfl
  | true=>rw [CL g hg.exit.1 hp hq h.1 he] at hc; cases hc
 ·rw [hst p hp,Bool.and_eq_true] at h
  rw [hst q hq,Bool.and_eq_true] at h'
  exact CL g hg.exit.1 hp hq h.1 h'.1
 ·rw [hz1,eu] at h; cases h
 ·rw [hz2,eu] at h; cases h
 ·refine Ng g hg.exit.1 hp ?_
  rcases h with h|h
  ·cases he:tb (bu t s.pre).exit p with
   | true=>rfl
   | false=>have:=hout p hp he; simp [cn,h.1] at this
  ·rw [hst p hp,Bool.and_eq_true] at h; exact h.1
theorem KU {t:Tb} {n:Nat} {s:bD} (g:TG t n) {x:Pr} (hw:0≤x.which∧x.which < (nR t:Int)) (h1:1≤x.aq) (h6:x.aq < 6) (I:SI t n s) (rg:eH) :
  EK t n s (mJ t x s.runs x.aq).start (mJ t x s.runs x.aq).fin (mJ t x s.runs x.aq).cut x.aq rg:=by
 have hg:=NF g hw
 have z:∀ p,tb (0:Int) p=true→False:=fun p h=>by rw [eu] at h; cases h
 have beg:∀ e:Int,NB t n e→EK t n s (zO t s.runs e) 0 0 x.aq rg:=fun e he=>by
  have hb:∀ p,p < 8→tb (zO t s.runs e) p=(tb e p && iB t s.runs p):=fun p hp=>FV hp
  refine ⟨fun p hp h=>?_,fun p q hp hq h h'=>?_,fun p _ h=>(z p h).elim,fun p _ h=>(z p h).elim,fun h=>absurd h (by omega)⟩
  ·rw [hb p hp,Bool.and_eq_true] at h
   obtain ⟨a,_,b⟩:=Au h.2
   exact ⟨a,he.2.1 p hp h.1,b⟩
  ·rw [hb p hp,Bool.and_eq_true] at h
   rw [hb q hq,Bool.and_eq_true] at h'
   exact CL g he hp hq h.1 h'.1
 have e:x.aq=1∨x.aq=2∨x.aq=3∨x.aq=4∨x.aq=5:=by omega
 rcases e with e|e|e|e|e
 ·rw [e]
  exact ⟨fun p _ h=>(z p h).elim,fun p q _ _ h=>(z p h).elim,fun p _ _ _=>.inr (.inl rfl),fun p _ _=>.inl rfl,fun h=>absurd h (by decide)⟩
 ·have:=beg _ hg.clear
  rw [e] at this ⊢; exact this
 ·rw [e]
  exact ⟨fun p _ h=>(z p h).elim,fun p q _ _ h=>(z p h).elim,fun p _ _ _=>.inr (.inr rfl),fun p _ _=>.inr rfl,fun h=>absurd h (by decide)⟩
 ·have:=beg _ hg.gD.1
  rw [e] at this ⊢; exact this
 ·rw [e]
  refine ⟨fun p _ h=>(z p h).elim,fun p q _ _ h=>(z p h).elim,fun p hp h hc=>.inl ?_,fun p _ h=>(z p h).elim,fun h=>absurd h (by decide)⟩
  have hh:tb (t7 (bf .i64 255 (bu t x).exit) fun p=>Qr t p (aT s.runs p)) p=true:=h
  rw [FV hp,Bool.and_eq_true] at hh
  have hl:=hh.2
  simp only [Qr,Bool.and_eq_true,decide_eq_true_eq,Bool.not_eq_true',Bool.or_eq_false_iff,beq_eq_false_iff_ne] at hl
  have hf:=(I.run p hp).dc
  exact ⟨hl.1.2,by have:(s.rn p).fst≠1∧(s.rn p).fst≠2:=hl.2; omega⟩
theorem Qe {t:Tb} {n:Nat} {s:bD} (g:TG t n) (I:SI t n s) (x:Bv):M9 t (tj t s x).1∧EK t n s (EI t s x).start (EI t s x).fin (EI t s x).cut (tj t s x).1.aq (AN t s x):=by
 obtain ⟨hp,h⟩:=KQ x.lines s.runs I.pre
 refine ⟨hp,?_⟩
 rw [show jb t s.pre x.lines s.runs=tj t s x from rfl] at *
 rcases h with ⟨h1,h2,h3⟩|⟨h1,h2,h3,h4⟩|⟨h1,h2,h3⟩
 ·have hf:(tj t s x).2.free=true:=by rw [h1]
  rw [EI,AN,hf,h3]
  exact Qc g I _ h2
 ·have hf:(tj t s x).2.free=false:=by rw [h1]; rfl
  have hb:(tj t s x).2.back=true:=by rw [h1]; rfl
  rw [EI,AN,hf,hb,h1,h3]
  exact KT g I h2 h4
 ·have fl:=FT t (tj t s x).1 s.runs (to:=(tj t s x).1.aq) (by omega)
  have hf:(tj t s x).2.free=false:=by rw [h3,fl.1]; simp; omega
  have hb:(tj t s x).2.back=false:=by rw [h3,fl.2]
  rw [EI,AN,hf,hb]
  have:=KU g (hp.which (by omega)) h1 h2 I s.rings
  rw [← h3] at this
  exact this
theorem yb (t:Tb) (s:bD) (x:Bv) {p:Nat} (hp:p < 8):(ET t s x).rn p=c7 (aO t p) (s.rn p) (AO t s x p):=by
 show (lJ t s (AO t s x) 8).getD p default=_
 rw [lJ,List.getD_eq_getElem?_getD,List.getElem?_map,List.getElem?_range hp]
 simp [hp]
theorem Aw (t:Tb) (s:bD) (x:Bv) {p:Nat} (hp:p < 8):(AO t s x p).start=tb (EI t s x).start p∧(AO t s x p).fin=tb (EI t s x).fin p∧(AO t s x p).cut=tb (EI t s x).cut p:=⟨jq hp,jq hp,jq hp⟩
theorem EM {p:Ph} {r:Rn} {c:Cu} (h:cn r=true) (hs:c.start=false):cn (c7 p r c)=true:=by
 have:=((FY p r c).red h hs).1
 simp [cn,this]
theorem CM (t:Tb) {p:Nat} (hp:p < 8):(tX t).rn p=zC (aO t p):=by
 show ((List.range 8).map fun (p:Nat)=>if p < 8 then zC (aO t p) else default).getD p default=_
 rw [List.getD_eq_getElem?_getD,List.getElem?_map,List.getElem?_range hp]
 simp [hp]
theorem KV {t:Tb} {n:Nat}:SI t n (tX t) where
 ok:=iQ t
 safe:=fun p q hp _ _=>.inl (by rw [CM t hp]; rfl)
 run:=fun p hp=>by
  rw [CM t hp]
  exact ⟨by show (0:Int)≤0∧(0:Int)≤3; decide,by show (0:Int)≤0∧(0:Int)≤2; decide,fun _=>rfl,fun _=>rfl,fun h=>absurd (show (0:Int)=1 from h) (by decide)⟩
 off:=fun p hp _=>by rw [CM t hp]; rfl
 pre:=⟨by show (0:Int)≤0∧(0:Int) < 6; decide,fun h=>absurd rfl h,fun _=>rfl⟩
 ring:=fun _ p hp h=>by rw [CM t hp] at h; exact absurd (show (0:Int)=1 from h) (by decide)
theorem Nh {t:Tb} {n:Nat} {s:bD} (g:TG t n) (I:SI t n s) (x:Bv):SI t n (ET t s x):=by
  obtain ⟨hp,o⟩:=Qe g I x
  have nonred:∀ p,p < 8→cn ((ET t s x).rn p)=false→cn (s.rn p)=false∨tb (EI t s x).start p=true:=fun p hp h=>by
    cases h1:cn (s.rn p) with
    | false=>exact .inl rfl
    | true =>
      cases h2:tb (EI t s x).start p with
      | true=>exact .inr rfl
      | false =>
        rw [yb t s x hp,EM h1 (by rw [(Aw t s x hp).1,h2])] at h; cases h
  refine ⟨FR t s x,fun p q hp hq hc=>?_,fun p hp=>?_,fun p hp hn=>?_,hp,fun h0 p hp hc=>?_⟩
  · cases h1:cn ((ET t s x).rn p) with
    | true=>exact .inl rfl
    | false =>
      cases h2:cn ((ET t s x).rn q) with
      | true=>exact .inr rfl
      | false =>
        exfalso
        rcases nonred p hp h1 with a|a<;>rcases nonred q hq h2 with b|b
        · rcases I.safe p q hp hq hc with h | h
          · rw [a] at h; cases h
          · rw [b] at h; cases h
        · have:=(o.start q hq b).2.2 p hp (by rw [g.sym q p hq hp]; exact hc)
          rw [a] at this; cases this
        · have:=(o.start p hp a).2.2 q hq hc
          rw [b] at this; cases this
        · rw [o.two p q hp hq a b] at hc; cases hc
  · rw [yb t s x hp]
    exact Nb _ (g.min hp) (I.run p hp)
  · rw [yb t s x hp]
    refine EM (I.off p hp hn) ?_
    rw [(Aw t s x hp).1]
    cases h2:tb (EI t s x).start p with
    | false=>rfl
    | true=>exact absurd (o.start p hp h2).2.1 (by omega)
  · refine o.ring h0 p hp ?_
    rw [yb t s x hp] at hc
    have po:=FY (aO t p) (s.rn p) (AO t s x p)
    obtain ⟨b1,b2,_⟩:=Aw t s x hp
    rcases BE (I.run p hp).col with ⟨e,er⟩|⟨e,er⟩|⟨e,er⟩|⟨e,er⟩
    · right
      rw [← b1]
      cases hs:(AO t s x p).start with
      | true=>rfl
      | false=>have:=(po.red er hs).1; omega
    · left
      refine ⟨e,?_⟩
      rw [← b2]
      cases hs:(AO t s x p).fin with
      | false=>rfl
      | true=>have:=(po.fin e hs).1; omega
    · have:=(po.dP e).2; omega
    · have:=(po.clear e).2; omega
theorem KX {t:Tb} {n:Nat} (g:TG t n) (frs:List Fr):∀ i,SI t n (runT t frs i)
 | 0=>KV
 | i + 1=>Nh g (KX g frs i) _
end Go.Eng
namespace Go.Eng
open Go
def CN.Spec (C:bk) (f:Nat):Prop:=∀ l sc:Option (List Int),C.c f [aE az l,aE az sc] (B true) none
theorem CP (l:List Rn) {p:Nat} (hp:p < 8):kn (xM l) p=cn (aT l p):=by rw [uT hp,xM,wC]; simp [hp]
section
variable {P:Program} (hm:P.follows .mixedOrders=true) {f:Nat}
include hm
theorem CN.ok {fT fC fB fI fS fR fh fX fA:Nat} (hc:aL P f=some (iE fT fC fB fI fS fR fh fX fA)) (hT:Table.Spec (Pure P) fT) (hC:wM.Spec (Pure P) fC) (hB:uY.Spec (Pure P) fB) (hI:sO.Spec (Pure P) fI) (hS:ug.Spec (Pure P) fS) (hR:zT.Spec (Pure P) fR) (hh:pE.Spec (Pure P) fh) (hX:uZ.Spec (Pure P) fX) (hA:sP.Spec (Pure P) fA):CN.Spec (Pure P) f:=by
  intro l sc
  have hg0:=Tv l
  obtain ⟨t,ht0⟩:∃ t,bO l=t:=⟨_,rfl⟩
  obtain ⟨fo,hf0⟩:∃ x,bW (lP false (sc.getD []))=x:=⟨_,rfl⟩
  have hf1:fo.getD []=lP false (sc.getD []):=by rw [← hf0,bN]
  have ht:t.Ok:=by rw [← ht0]; exact tQ l
  have hfw:t.Fw:=by rw [← ht0]; exact D3 l
  have hnd:PY t≤1000000:=by rw [← ht0]; exact U3 l
  have hfew:TV (fo.getD []):=by rw [hf1]; exact Aq _ _
  have hfl:(fo.getD []).length≤1500:=by rw [hf1]; exact Ar _ _
  have cT:=hT l
  rw [ht0] at cT hg0
  have cC:=hC sc false
  rw [hf0] at cC
  have htl:=Tb.len ht
  have hp:=Tb.whole ht
  have hz1:setCells dV 0 t.cells=t.cells:=ep (by rw [htl]; rfl)
  have hz1l:dV.length=131:=rfl
  have hz2l:bB.length=117:=rfl
  have hz2:∀ u v:bD,u.Ok→v.Ok→setCells bB 0 u.cells=u.cells∧setCells v.cells 0 u.cells=u.cells:=fun u v hu hv=>⟨ep (by rw [bD.len hu]; rfl),ep (by rw [bD.len hu,bD.len hv])⟩
  have hok:=G6 t (fo.getD [])
  have hzb:=(hz2 _ _ (iQ t) (iQ t)).1
  have hbl:=bD.len (iQ t)
  have hsi:=KX hg0 (fo.getD [])
  clear ht0 hf0 hf1
  generalize nT l=n at *
  refine an hm hc (by show 2≤90; decide) (aj (keep:=[5]) (i:=0) ?_)
  try simp only [I,B,D,RY,↓ KW,seval,iE,Z.H,htl,hp,hz1,hz1l,hz2l]
  refine af cT ?_
  try simp only [I,B,D,RY,↓ KW,seval,htl,hp,hz1,hz1l,hz2l]
  refine af cC ?_
  try simp only [I,B,D,RY,↓ KW,seval,htl,hp,hz1,hz1l,hz2l]
  refine af (hB t ht.ln) ?_
  try simp only [I,B,D,RY,↓ KW,seval,hzb,hbl,htl,hp,hz1,hz1l,hz2l]
  refine aF (fun i:Nat=>(⟨[(8,.dat (I i) none),(5,.ptr 7 0),(6,.dat (aE Fr.cells fo) none),(7,.ptr 14 0)],[(7,⟨t.cells,[]⟩),(14,⟨(runT t (fo.getD []) i).cells,[]⟩)],[],400⟩:S)) (fun i=>1500 - i) (fun i=>i≤(fo.getD []).length) ?_ 0 (by omega) ?_
  rotate_left
  · refine ai (by decide) ?_ ?_ ?_ ?_<;>simp [LX,I,B,D,runT]
  intro i hi A back
  have hwr:=aB (k:=i) (by omega)
  have hrun:runT t (fo.getD []) (i + 1)=ET t (runT t (fo.getD []) i) ((fo.getD []).getD i default).IE:=rfl
  have c1:=Ap t (fo.getD []) hnd i
  have o1:=hok i
  have o2:=hok (i + 1)
  have I2:=hsi (i + 1)
  try simp only [I,B,D,RY,↓ KW,seval]
  rcases bc (decide ((i:Int) < ((fo.getD []).length:Int))) with h|h
  · try simp only [I,B,D,RY,↓ KW,seval,h,htl,hp,hz1,hz1l,hz2l]
    refine af hA ?_
    try simp only [I,B,D,RY,↓ KW,seval,htl,hp,hz1,hz1l,hz2l]
  · have h1:i < (fo.getD []).length:=by have:=of_decide_eq_true h; omega
    obtain ⟨x,hx⟩:∃ x,(fo.getD [])[i]? = some x:=⟨_,List.getElem?_eq_getElem h1⟩
    have hxd:(fo.getD []).getD i default=x:=by rw [List.getD_eq_getElem?_getD,hx]; rfl
    have hxf:=hfew x (List.mem_of_getElem? hx)
    have hy:0≤(i:Int)∧(i:Int) < ((fo.getD []).length:Int):=by omega
    have hq:x.cells.length=6∧aD x.cells 0 (some 6)=some (.agg x.cells):=⟨rfl,rfl⟩
    rw [hxd] at hrun
    have cS:=hS t (runT t (fo.getD []) i) x.IE ht hfw hnd o1 c1 hxf
    rw [← hrun] at cS
    generalize hs1:runT t (fo.getD []) i=s1 at *
    generalize hs2:runT t (fo.getD []) (i + 1)=s2 at *
    have q1:=bD.len o1
    have q2:=bD.len o2
    have q3:=bD.whole o1
    have q5:=(hz2 s2 s1 o2 o1).2
    have q6:=bD.Bg o2
    try simp only [I,B,D,RY,↓ KW,seval,h,hx,hy,hq,q1,q2,q3,q5,q6,htl,hp,hz1,hz1l,hz2l]
    refine af (hI x) ?_
    try simp only [I,B,D,RY,↓ KW,seval,hx,hy,hq,q1,q2,q3,q5,q6,htl,hp,hz1,hz1l,hz2l]
    refine af cS ?_
    try simp only [I,B,D,RY,↓ KW,seval,hx,hy,hq,q1,q2,q3,q5,q6,htl,hp,hz1,hz1l,hz2l]
    refine af (hR s2.runs o2.runs) ?_
    try simp only [I,B,D,RY,↓ KW,seval,hx,hy,hq,q1,q2,q3,q5,q6,htl,hp,hz1,hz1l,hz2l]
    refine aF (fun p:Nat=>(⟨[(10,.dat (I p) none),(9,.dat (I (xM s2.runs)) none),(8,.dat (I i) none),(5,.ptr 7 0),(6,.dat (aE Fr.cells fo) none),(7,.ptr 14 0)],[(7,⟨t.cells,[]⟩),(14,⟨s2.cells,[]⟩)],[],500⟩:S)) (fun p=>8 - p) (fun p=>p≤8) ?_ 0 (by omega) ?_
    rotate_left
    · refine ai (by decide) ?_ ?_ ?_ ?_<;>simp [LX,I,B,D]
    intro p hp8 A2 back2
    have hwk:=aB (k:=p) (by omega)
    try simp only [I,B,D,RY,↓ KW,seval]
    rcases bc (decide ((p:Int) < 8)) with g|g
    · try simp only [I,B,D,RY,↓ KW,seval,g,hx,hy,hq,q1,q2,q3,q5,q6,htl,hp,hz1,hz1l,hz2l]
      refine back (i + 1) _ (by omega) (by omega) ?_
      refine ai (by decide) ?_ ?_ ?_ ?_<;>simp [LX,I,B,D,hwr,hs2]
    · have g1:p < 8:=by have:=of_decide_eq_true g; omega
      have hy4:0≤(p:Int)∧(p:Int) < 8:=by omega
      have st2:s2.cells[p * 12 + 2]? = some (I (s2.rn p).fst):=bD.zB o2 g1 (j:=2) (by omega)
      have st0:s2.cells[p * 12]? = some (I (s2.rn p).aC):=bD.zB o2 g1 (j:=0) (by omega)
      have ton:t.cells[p * 13]? = some (B (aO t p).on):=by
        have:=iO (Tb.jM (ht.ln.wu g1)) (j:=0) (by omega)
        rw [Nat.add_zero] at this; rw [this]; rfl
      have f1:((s2.rn p).fst != 0)=true→((s2.rn p).aC != 1)=false:=by
        intro h; by_cases e:(s2.rn p).aC=1
        · simp [e]
        · have:=(I2.run p g1).off e; simp [this] at h
      have f2:(aO t p).on=false→kn (xM s2.runs) p=true:=by
        intro h; rw [CP _ g1]
        exact I2.off p g1 (by rw [hg0.on p g1] at h; simpa using h)
      have cH:=hh (xM s2.runs) p
      obtain ⟨hp',hpe⟩:∃ b,kn (xM s2.runs) p=b:=⟨_,rfl⟩
      rw [hpe] at f2 cH
      obtain ⟨b1,e1⟩:∃ b,((s2.rn p).fst != 0)=b:=⟨_,rfl⟩
      obtain ⟨b2,e2⟩:∃ b,((s2.rn p).aC != 1)=b:=⟨_,rfl⟩
      rw [e1,e2] at f1
      generalize (aO t p).on=b3 at *
      try simp only [I,B,D,RY,↓ KW,seval,g,e1,st2,st0,ton,hy4,hx,hy,hq,q1,q2,q3,q5,q6,htl,hp,hz1,hz1l,hz2l]
      apply P3 (fun _:Unit=>(⟨[(10,.dat (I p) none),(9,.dat (I (xM s2.runs)) none),(8,.dat (I i) none),(5,.ptr 7 0),(6,.dat (aE Fr.cells fo) none),(7,.ptr 14 0)],[(7,⟨t.cells,[]⟩),(14,⟨s2.cells,[]⟩)],[],600⟩:S)) (fun _=>True)
      · intro back3
        rcases bc b1 with k1|k1<;>rcases bc b2 with k2|k2<;>rcases bc b3 with k3|k3<;>rcases bc hp' with k4|k4
        all_goals
          subst k1 k2 k3 k4
          first
            | exact absurd (f1 rfl) (by decide)
            | exact absurd (f2 rfl) (by decide)
            | (try simp only [I,B,D,RY,↓ KW,seval,e2,st2,st0,ton,hy4,hx,hy,hq,q1,q2,q3,q5,q6,htl,hp,hz1,hz1l,hz2l]
               try (refine af cH ?_; try simp only [I,B,D,RY,↓ KW,seval,e2,st2,st0,ton,hy4,hx,hy,hq,q1,q2,q3,q5,q6,htl,hp,hz1,hz1l,hz2l])
               refine back3 () _ trivial ?_
               refine ai (by decide) ?_ ?_ ?_ ?_<;>simp [LX,I,B,D])
      · rintro _ _
        try simp only [I,B,D,RY,↓ KW,seval]
        refine aF (fun q:Nat=>(⟨[(11,.dat (I q) none),(10,.dat (I p) none),(9,.dat (I (xM s2.runs)) none),(8,.dat (I i) none),(5,.ptr 7 0),(6,.dat (aE Fr.cells fo) none),(7,.ptr 14 0)],[(7,⟨t.cells,[]⟩),(14,⟨s2.cells,[]⟩)],[],700⟩:S)) (fun q=>8 - q) (fun q=>q≤p) ?_ 0 (by omega) ?_
        rotate_left
        · refine ai (by decide) ?_ ?_ ?_ ?_<;>simp [LX,I,B,D]
        intro q hq8 A3 back4
        have hwq:=aB (k:=q) (by omega)
        try simp only [I,B,D,RY,↓ KW,seval]
        rcases bc (decide ((q:Int) < (p:Int))) with g2|g2
        · try simp only [I,B,D,RY,↓ KW,seval,g2,hx,hy,hq,q1,q2,q3,q5,q6,htl,hp,hz1,hz1l,hz2l]
          refine back2 (p + 1) _ (by omega) (by omega) ?_
          refine ai (by decide) ?_ ?_ ?_ ?_<;>simp [LX,I,B,D,hwk]
        · have g3:q < p:=by have:=of_decide_eq_true g2; omega
          have cX:=hX t p q ht.ln g1 (by omega)
          have cQ:=hh (xM s2.runs) q
          have f5:wz t p q=true→hp'=false→kn (xM s2.runs) q=true:=by
            intro a b
            rw [CP _ (by omega)]
            rw [← hpe,CP _ g1] at b
            have hc:tb (dY t p) q=true:=by
              simp only [wz,Bool.or_eq_true] at a
              rw [uT (by omega),uT g1] at a
              rcases a with a|a
              · exact a
              · rw [hg0.sym p q g1 (by omega)]; exact a
            rcases I2.safe p q g1 (by omega) hc with c|c
            · exact absurd c (by rw [show cn (s2.rn p)=cn (aT s2.runs p) from rfl,b]; decide)
            · exact c
          generalize kn (xM s2.runs) q=hq' at *
          try simp only [I,B,D,RY,↓ KW,seval,g2,hx,hy,hq,q1,q2,q3,q5,q6,htl,hp,hz1,hz1l,hz2l]
          refine af cX ?_
          generalize wz t p q=cl at *
          rcases bc cl with k1|k1<;>rcases bc hp' with k2|k2<;>rcases bc hq' with k3|k3
          all_goals
            subst k1 k2 k3
            first
              | exact absurd (f5 rfl rfl) (by decide)
              | (try try simp only [I,B,D,RY,↓ KW,seval,hx,hy,hq,q1,q2,q3,q5,q6,htl,hp,hz1,hz1l,hz2l]
                 try (refine af cH ?_; try simp only [I,B,D,RY,↓ KW,seval,hx,hy,hq,q1,q2,q3,q5,q6,htl,hp,hz1,hz1l,hz2l])
                 try (refine af cQ ?_; try simp only [I,B,D,RY,↓ KW,seval,hx,hy,hq,q1,q2,q3,q5,q6,htl,hp,hz1,hz1l,hz2l])
                 refine back4 (q + 1) _ (by omega) (by omega) ?_
                 refine ai (by decide) ?_ ?_ ?_ ?_<;>simp [LX,I,B,D,hwq])
end
end Go.Eng
namespace Go.Eng
open Go
def Al {α β:Type} (R:α→β→Prop):List α→List β→Prop
 | [],[]=>True
 | a :: l,b :: m=>R a b∧Al R l m
 | _,_=>False
theorem Al.len {α β:Type} {R:α→β→Prop}:∀ {l:List α} {m:List β},Al R l m→l.length=m.length
 | [],[],_=>rfl
 | a :: l,b :: m,h=>by simp [Al.len h.2]
 | [],b :: m,h=>h.elim
 | a :: l,[],h=>h.elim
theorem Al.get {α β:Type} {R:α→β→Prop}:∀ {l:List α} {m:List β},Al R l m→∀ (i:Nat) (a:α) (b:β),l[i]? = some a→m[i]? = some b→R a b
 | a :: l,b :: m,h,0,x,y,hx,hy=>by simp at hx hy; subst hx; subst hy; exact h.1
 | a :: l,b :: m,h,i + 1,x,y,hx,hy=>Al.get h.2 i x y (by simpa using hx) (by simpa using hy)
 | [],_,_,i,_,_,hx,_=>by simp at hx
theorem Al.mk {α β:Type} {R:α→β→Prop}:∀ {l:List α} {m:List β},l.length=m.length→(∀ (i:Nat) (a:α) (b:β),l[i]? = some a→m[i]? = some b→R a b)→Al R l m
 | [],[],_,_=>trivial
 | a :: l,b :: m,h,f=>⟨f 0 a b rfl rfl,Al.mk (by simpa using h) fun i x y hx hy=>f (i + 1) x y (by simpa using hx) (by simpa using hy)⟩
theorem Al.append {α β:Type} {R:α→β→Prop}:∀ {l:List α} {m:List β} {l':List α} {m':List β},Al R l m→Al R l' m'→Al R (l++l') (m++m')
 | [],[],_,_,_,h=>h
 | a :: l,b :: m,_,_,h,h'=>⟨h.1,Al.append h.2 h'⟩
theorem Al.n {α β:Type} {R:α→β→Prop}:Al R ([]:List α) ([]:List β):=trivial
theorem Al.c {α β:Type} {R:α→β→Prop} {a:α} {b:β} {l:List α} {m:List β} (h:R a b) (t:Al R l m):Al R (a :: l) (b :: m):=⟨h,t⟩
theorem Al.yc {α β:Type} {R:α→β→Prop} {m:List β} (h:Al R [] m):m=[]:=by
 cases m with
 | nil=>rfl
 | cons b m=>exact h.elim
theorem Al.cons_inv {α β:Type} {R:α→β→Prop} {a:α} {l:List α} {m:List β} (h:Al R (a :: l) m):∃ b m',m=b :: m'∧R a b∧Al R l m':=by
 cases m with
 | nil=>exact h.elim
 | cons b m=>exact ⟨b,m,rfl,h.1,h.2⟩
inductive Z' where
 | bool
 | int (k:IntKind)
 | U8 (k:FloatKind)
 | str
inductive Ty where
 | sc (s:Z')
 | sl (l:List Ty)
def sR (sz:TypeId→Nat) (F:TypeId→Option (List Ty)):Nat→List (Nat × TypeId)→Option (List Ty)
 | _,[]=>some []
 | o,f :: r=>if f.1=o then match F f.2 with
   | some l=>if sz f.2=l.length then match sR sz F (o + l.length) r with
    | some m=>some (l++m)
    | none=>none
    else none
   | none=>none
  else none
def FZ (P:Program):Nat→TypeId→Option (List Ty)
 | 0,_=>none
 | n + 1,t=>match P.underlying t with
  | some .bool=>some [.sc .bool]
  | some (.int k)=>some [.sc (.int k)]
  | some (.float k)=>some [.sc (.U8 k)]
  | some .string=>some [.sc .str]
  | some (.slice e)=>match FZ P n e with
   | some l=>if P.cellsOf e=l.length∧0 < l.length then some [.sl l] else none
   | none=>none
  | some (.struct fs)=>match sR P.cellsOf (FZ P n) 0 (fs.toList.map fun f=>(f.offset,f.type)) with
   | some l=>if P.cellsOf t=l.length then some l else none
   | none=>none
  | some (.array k e)=>match sR P.cellsOf (FZ P n) 0 ((List.range k).map fun i=>(i * P.cellsOf e,e)) with
   | some l=>if P.cellsOf t=l.length then some l else none
   | none=>none
  | _=>none
def Tx:Z'→AV→Prop
 | .bool,.bool _=>True
 | .int k,.int k' n=>k'=k∧(Lit.int k n).wf=true
 | .U8 k,.float k' b=>k'=k∧(Lit.float k b).wf=true
 | .str,.str s=>s.size≤maxLen
 | _,_=>False
mutual
def wP:Ty→AV→Prop
 | .sc s,a=>Tx s a
 | .sl _,.bw=>True
 | .sl l,.sl xs=>xs.length≤maxLen∧∀ r∈xs,EN l r
 | _,_=>False
def EN:List Ty→List AV→Prop
 | [],[]=>True
 | t :: l,a :: r=>wP t a∧EN l r
 | _,_=>False
end
theorem CQ:∀ {l:List Ty} {as:List AV},EN l as↔Al wP l as
 | [],[]=>by simp [EN,Al]
 | t :: l,a :: r=>by simp only [EN,Al]; rw [CQ (l:=l) (as:=r)]
 | [],a :: r=>by simp [EN,Al]
 | t :: l,[]=>by simp [EN,Al]
def Ay (W:World):Nat→Nat→Prop:=fun b _=>b < W.heap.size
theorem Ni {W:World} {a:Addr} {v:Value} (h:W.cell? a=some v):a.block < W.heap.size:=by
 unfold World.cell? at h
 split at h
 ·rename_i hh; exact oV hh
 ·cases h
theorem Tx.scalar {s:Z'} {a:AV} (h:Tx s a):a.scalar=true:=by cases s<;>cases a<;>first | exact h.elim | rfl
theorem wP.scalar {s:Ty} {a:AV} (h:wP s a):a.scalar=true:=by
 cases s with
 | sc s=>exact Tx.scalar (by simpa [wP] using h)
 | sl l=>cases a<;>first | rfl | (simp [wP] at h)
section
variable {H:Type} {enc:TypeId × Value→H} {P:Program} {W:World} {base:Nat}
open Go.ChangeShapes Go.WideShapes Go.ChangeAt Go.RowKit
theorem F0 {sp:Nat→Bool} {held:Bool} {b0 fuel:Nat} {t:TypeId} {cs:List Value} {x:DataW H × List MemPlace} {k:FloatKind} (ht:P.underlying t=some (.float k)) (h:DataW.trod enc P W b0 sp held fuel t cs=some x):∃ n,cs=[.float k n]∧(Lit.float k n).wf=true:=by
 cases fuel with
 | zero=>simp [DataW.trod] at h
 | succ n =>
  unfold DataW.trod at h
  rw [ht] at h
  split at h<;>simp_all
theorem um {sp:TypeId→Nat} {G:TypeId→Option (List Ty)} {Tr:TypeId→List Value→Prop}
  (each:∀ t l cs,G t=some l→Tr t cs→∃ as,Al wP l as∧Al (DV W (Ay W)) as cs):∀ (ps:List (Nat × TypeId)) (o:Nat) (l:List Ty) (cs:List Value),sR sp G o ps=some l→cs.length=o + l.length →
   (∀ (i:Nat) (f:Nat × TypeId),ps[i]? = some f→Tr f.2 ((cs.drop f.1).take (sp f.2)))→∃ as,Al wP l as∧Al (DV W (Ay W)) as (cs.drop o)
 | [],o,l,cs,h,hl,_=>by
  simp only [sR,Option.some.injEq] at h
  subst h
  refine ⟨[],trivial,?_⟩
  rw [List.drop_of_length_le (by simp at hl; omega)]; trivial
 | f :: ps,o,l,cs,h,hl,htr=>by
  simp only [sR] at h
  split at h<;>try (cases h; done)
  rename_i ho
  split at h<;>try (cases h; done)
  rename_i l1 hl1
  split at h<;>try (cases h; done)
  rename_i hsz
  split at h<;>try (cases h; done)
  rename_i m hm
  cases h
  have h0:=htr 0 f rfl
  rw [ho,hsz] at h0
  obtain ⟨as1,ht1,hd1⟩:=each f.2 l1 _ hl1 h0
  obtain ⟨as2,ht2,hd2⟩:=um each ps (o + l1.length) m cs hm (by rw [hl]; simp; omega) (fun i g hg=>htr (i + 1) g (by simpa using hg))
  refine ⟨as1++as2,ht1.append ht2,?_⟩
  have:=hd1.append hd2
  rw [← List.drop_drop,List.take_append_drop] at this
  exact this
omit H enc P W base in
theorem F1 {w:World} {b o:Nat} {sp:Option Nat} {v:Value} (h:w.cell? ⟨b,o,sp⟩=some v):sp=none:=by
 cases sp with
 | none=>rfl
 | some x=>unfold World.cell? at h; split at h<;>simp at h
theorem CR {a:Addr} {n:Nat} (h:a.spot=none):a.add n=⟨a.block,a.off + n,none⟩:=by
 obtain ⟨b,o,s⟩:=a
 simp only at h; subst h
 unfold Addr.add; split
 ·rename_i hh; subst hh; rfl
 ·rfl
theorem yd:∀ (n:Nat) (t:TypeId) (l:List Ty),FZ P n t=some l→∀ (cs:List Value) (x:DataW H × List MemPlace) (fuel:Nat),
  DataW.trod enc P W 0 (fun _=>true) true fuel t cs=some x→∃ as,Al wP l as∧Al (DV W (Ay W)) as cs
 | 0,t,l,h,cs,x,fuel,hx=>by cases h
 | n + 1,t,l,h,cs,x,fuel,hx=>by
  simp only [FZ] at h
  split at h
  ·rename_i ht; cases h
   obtain ⟨b,rfl,_⟩:=DataW.trod_bool ht hx
   exact ⟨[.bool b],⟨by simp [wP,Tx],trivial⟩,⟨.bool b,trivial⟩⟩
  ·rename_i k ht; cases h
   obtain ⟨m,rfl,_,hw⟩:=DataW.trod_int ht hx
   exact ⟨[.int k m],⟨by simp only [wP]; exact ⟨rfl,hw⟩,trivial⟩,⟨.int k m,trivial⟩⟩
  ·rename_i k ht; cases h
   obtain ⟨m,rfl,hw⟩:=F0 ht hx
   exact ⟨[.float k m],⟨by simp only [wP]; exact ⟨rfl,hw⟩,trivial⟩,⟨.float k m,trivial⟩⟩
  ·rename_i ht; cases h
   obtain ⟨s,rfl,_,hw⟩:=DataW.trod_string ht hx
   exact ⟨[.str s],⟨by simp only [wP]; exact hw,trivial⟩,⟨.str s,trivial⟩⟩
  ·rename_i e ht
   split at h<;>try (cases h; done)
   rename_i le hle
   split at h<;>try (cases h; done)
   rename_i hsz
   cases h
   obtain ⟨hsz,hpos⟩:=hsz
   rcases DataW.trod_slice ht hx with ⟨rfl,_⟩|⟨a,len,cap,elems,rest,k,_,rfl,_,_,hlc,hmx,hlen,hel,hrest,_⟩
   ·exact ⟨[.bw],⟨by simp [wP],trivial⟩,⟨.bw,trivial⟩⟩
   have spotOf:∀ (y:DataW H × List MemPlace),(W.cells? 0 (a.add (0 * P.cellsOf e)) (P.cellsOf e)).bind (DataW.trod enc P W 0 (fun _=>true) true k e)=some y→a.spot=none:=by
    intro y hy
    rw [Option.bind_eq_some_iff] at hy
    obtain ⟨cs,hcs,_⟩:=hy
    obtain ⟨_,hcl,hcell⟩:=World.cells?_some hcs
    have h0:=hcell 0 (by omega)
    obtain ⟨v,hv⟩:∃ v,cs[0]? = some v:=⟨_,List.getElem?_eq_getElem (by omega)⟩
    rw [hv] at h0
    obtain ⟨b,o,sp⟩:=a
    simp only [Nat.zero_mul,Addr.add,if_true] at h0
    exact F1 h0
   have hspot:cap=0∨a.spot=none:=by
    rcases Nat.eq_zero_or_pos cap with h|h
    ·exact .inl h
    right
    rcases Nat.eq_zero_or_pos len with h'|h'
    ·obtain ⟨hr1,hr2⟩:=hrest rfl
     have:=hr2 0 (by omega)
     obtain ⟨y,hy⟩:∃ y,rest[0]? = some y:=⟨_,List.getElem?_eq_getElem (by omega)⟩
     rw [hy,h',Nat.zero_add] at this
     exact spotOf y this
    ·have:=hel 0 h'
     obtain ⟨y,hy⟩:∃ y,elems[0]? = some y:=⟨_,List.getElem?_eq_getElem (by omega)⟩
     rw [hy] at this
     exact spotOf y this
   rcases hspot with rfl|hspot
   ·have:len=0:=by omega
    subst this
    exact ⟨[.sl []],⟨by simp [wP],trivial⟩,⟨.IM a,trivial⟩⟩
   have each:∀ i,i < len→∃ as cs,Al wP le as∧Al (DV W (Ay W)) as cs∧∀ j,j < le.length→W.cell? ⟨a.block,a.off + i * le.length + j,none⟩=cs[j]?:=by
    intro i hi
    have he:=hel i hi
    have:elems[i]?≠none:=by simp; omega
    obtain ⟨y,hy⟩:=Option.ne_none_iff_exists'.1 this
    rw [hy,Option.bind_eq_some_iff] at he
    obtain ⟨cs,hcs,htr⟩:=he
    obtain ⟨_,hcl,hcell⟩:=World.cells?_some hcs
    obtain ⟨as,hta,hda⟩:=yd n e le hle cs y k htr
    refine ⟨as,cs,hta,hda,fun j hj=>?_⟩
    have:=hcell j (by omega)
    rw [← this,CR (a:=a.add _) (by rw [CR hspot]),CR hspot,hsz]
   obtain ⟨rows,hrl,hrt,hr⟩:∃ rows:List (List AV),rows.length=len∧(∀ r∈rows,Al wP le r)∧∀ i r,rows[i]? = some r→∃ cs,Al (DV W (Ay W)) r cs∧∀ j,j < le.length→W.cell? ⟨a.block,a.off + i * le.length + j,none⟩=cs[j]?:=by
    refine ⟨(List.range len).map fun i=>if h:i < len then (each i h).choose else [],by simp,?_,?_⟩
    ·intro r hr
     obtain ⟨i,hi,rfl⟩:=List.mem_map.1 hr
     rw [List.mem_range] at hi
     rw [dif_pos hi]
     exact (each i hi).choose_spec.choose_spec.1
    ·intro i r hr
     rw [List.getElem?_map,Option.map_eq_some_iff] at hr
     obtain ⟨k,hk,rfl⟩:=hr
     have hi:=(List.getElem?_eq_some_iff.1 hk).1
     simp at hi
     rw [List.getElem?_range hi] at hk
     cases hk
     rw [dif_pos hi]
     exact ⟨_,(each i hi).choose_spec.choose_spec.2⟩
   obtain ⟨b,off,spot⟩:=a
   simp only at hspot hr
   subst hspot
   refine ⟨[.sl rows],⟨by simp only [wP]; exact ⟨by omega,fun r hr=>CQ.2 (hrt r hr)⟩,trivial⟩,?_,trivial⟩
   have hz:∀ (i:Nat) (r:List AV),rows[i]? = some r→r.length=le.length:=fun i r h=>(hrt r (List.mem_of_getElem? h)).len.symm
   have at_:∀ (i j:Nat) (r:List AV) (x:AV),rows[i]? = some r→r[j]? = some x→∃ v,W.cell? ⟨b,off + i * le.length + j,none⟩=some v∧DV W (Ay W) x v:=by
    intro i j r x h1 h2
    obtain ⟨cs,hd,hc⟩:=hr i r h1
    have hj:j < le.length:=by have:=(List.getElem?_eq_some_iff.1 h2).1; have:=hz i r h1; omega
    obtain ⟨v,hv⟩:∃ v,cs[j]? = some v:=⟨_,List.getElem?_eq_getElem (by have:=hd.len; have:=hz i r h1; omega)⟩
    exact ⟨v,(hc j hj).trans hv,hd.get j x v h2 hv⟩
   have key:=DV.sl (w:=W) (π:=Ay W) rows b off cap le.length (fun i j=>(W.cell? ⟨b,off + i * le.length + j,none⟩).getD default) (by omega) hz
    (fun i j r x h1 h2=>by
     obtain ⟨t,ht⟩:∃ t,le[j]? = some t:=⟨_,List.getElem?_eq_getElem (by have:=(List.getElem?_eq_some_iff.1 h2).1; have:=hz i r h1; omega)⟩
     exact wP.scalar ((hrt r (List.mem_of_getElem? h1)).get j t x ht h2))
    (fun i j r x h1 h2=>by obtain ⟨v,hv,_⟩:=at_ i j r x h1 h2; exact Ni hv)
    (fun i j r x h1 h2=>by obtain ⟨v,hv,_⟩:=at_ i j r x h1 h2; rw [hv]; rfl)
    (fun i j r x h1 h2=>by obtain ⟨v,hv,hd⟩:=at_ i j r x h1 h2; rw [hv]; exact hd)
   rw [hrl] at key
   exact key
  ·rename_i fs ht
   split at h<;>try (cases h; done)
   rename_i l' hl'
   split at h<;>try (cases h; done)
   rename_i hsz
   cases h
   obtain ⟨xs,k,_,_,hcl,hxl,hf⟩:=DataW.trod_struct ht hx
   have:=um (W:=W) (Tr:=fun t cs=>∃ x fuel,DataW.trod enc P W 0 (fun _=>true) true fuel t cs=some x) (fun t l cs h1 ⟨x,fuel,h3⟩=>yd n t l h1 cs x fuel h3) _ 0 l cs hl' (by omega) (fun i f hif=>by
    rw [List.getElem?_map,Option.map_eq_some_iff] at hif
    obtain ⟨f,hif,rfl⟩:=hif
    have h1:=hf i f (by simpa using hif)
    have:xs[i]?≠none:=by
     have:=(List.getElem?_eq_some_iff.1 hif).1
     simp at this ⊢; omega
    obtain ⟨y,hy⟩:=Option.ne_none_iff_exists'.1 this
    exact ⟨y,k,h1.trans hy⟩)
   simpa using this
  ·rename_i q e ht
   split at h<;>try (cases h; done)
   rename_i l' hl'
   split at h<;>try (cases h; done)
   rename_i hsz
   cases h
   obtain ⟨xs,k,_,_,hcl,hxl,hf⟩:=DataW.trod_array ht hx
   have:=um (W:=W) (Tr:=fun t cs=>∃ x fuel,DataW.trod enc P W 0 (fun _=>true) true fuel t cs=some x) (fun t l cs h1 ⟨x,fuel,h3⟩=>yd n t l h1 cs x fuel h3) _ 0 l cs hl' (by omega) (fun i f hif=>by
    rw [List.getElem?_map,Option.map_eq_some_iff] at hif
    obtain ⟨f,hif,rfl⟩:=hif
    have hi:=(List.getElem?_eq_some_iff.1 hif).1
    simp at hi
    rw [List.getElem?_range hi] at hif
    cases hif
    have h1:=hf i hi
    have:xs[i]?≠none:=by simp; omega
    obtain ⟨y,hy⟩:=Option.ne_none_iff_exists'.1 this
    exact ⟨y,k,h1.trans hy⟩)
   simpa using this
  ·cases h
def isAgg (P:Program) (t:TypeId):Bool:=match P.underlying t with
 | some (.struct _) | some (.array _ _)=>true
 | _=>false
theorem Iz {n:Nat} {t:TypeId} {k:Ty} {v:Value} {d:DataW H} {p:List MemPlace} (hl:FZ P n t=some [k]) (ha:isAgg P t=false) (hval:Value.okWide P W .any base t v)
  (h:DataW.Trod enc P W 0 (fun _=>true) true t v d p):∃ a,wP k a∧DV W (Ay W) a v:=by
 obtain ⟨fuel,hf⟩:=h
 obtain ⟨as,ht,hd⟩:=yd n t [k] hl _ _ _ hf
 obtain ⟨a,as',rfl,hk,ht'⟩:=ht.cons_inv
 cases ht'.yc
 obtain ⟨u,us,e,hdu,_⟩:=hd.cons_inv
 have hne:∀ cs,v≠.agg cs:=by
  rintro cs rfl
  unfold isAgg at ha
  unfold Value.okWide at hval
  split at hval
  ·rename_i e; rw [e] at ha; cases ha
  ·rename_i e; rw [e] at ha; cases ha
  ·unfold Cell.okWide at hval
   split at hval<;>simp_all [Cell.ok]
 refine ⟨a,hk,?_⟩
 cases v<;>simp [Value.cells] at e
 case agg cs=>exact absurd rfl (hne cs)
 all_goals (obtain ⟨rfl,rfl⟩:=e; exact hdu)
theorem Nj {k:IntKind} {a:AV} (h:wP (.sc (.int k)) a):∃ n,a=.int k n∧(Lit.int k n).wf=true:=by
 simp only [wP] at h
 cases a<;>first | exact h.elim | (obtain ⟨rfl,hw⟩:=h; exact ⟨_,rfl,hw⟩)
theorem Qf {α:Type} {f:α→List AV} {Q:α→Prop} {l:List Ty} (row:∀ r,Al wP l r→∃ x,r=f x∧Q x) {a:AV} (h:wP (.sl l) a):∃ xs:Option (List α),a=aE f xs∧(xs.getD []).length≤maxLen∧∀ x∈xs.getD [],Q x:=by
 cases a<;>simp only [wP] at h
 ·exact ⟨none,rfl,by simp,by simp⟩
 rename_i xs
 have:∀ (xs:List (List AV)),(∀ r∈xs,EN l r)→∃ m:List α,xs=m.map f∧∀ x∈m,Q x:=by
  intro xs
  induction xs with
  | nil=>intro _; exact ⟨[],rfl,by simp⟩
  | cons r xs ih =>
   intro h
   obtain ⟨m,rfl,hm⟩:=ih (fun r hr=>h r (List.mem_cons_of_mem _ hr))
   obtain ⟨x,rfl,hx⟩:=row _ (CQ.1 (h _ List.mem_cons_self))
   exact ⟨x :: m,rfl,by simpa using ⟨hx,hm⟩⟩
 obtain ⟨m,rfl,hm⟩:=this xs h.2
 exact ⟨some m,rfl,by simpa using h.1,hm⟩
theorem vK {k:IntKind} {a:AV} (h:wP (.sl [.sc (.int k)]) a):∃ l:Option (List Int),a=aE (fun n=>[.int k n]) l∧(l.getD []).length≤maxLen∧∀ n∈l.getD [],(Lit.int k n).wf=true :=
 Qf (fun r hr=>by
  obtain ⟨a,as,rfl,h1,h2⟩:=hr.cons_inv
  cases h2.yc
  obtain ⟨n,rfl,hn⟩:=Nj h1
  exact ⟨n,rfl,hn⟩) h
theorem EO {P:Program} {f:Nat} {args:List AV} {W:World} {vs:List Value} (h:(Pure P).c f args (.bool true) none) (hd:Al (DV W (Ay W)) args vs) :
  Calls P f vs.toArray W fun e w'=>e=.returned (.bool true)∧Go.RowKit.Below W.heap.size W w':=by
 refine (h.2 W (Ay W) vs (fun _ _ h=>h) ⟨hd.len,hd.get⟩).mono fun e w' ⟨v,π',he,hb,_,_,_,hdv,_⟩=>?_
 cases hdv
 exact ⟨he,hb⟩
end
section
variable {H:Type} {enc:TypeId × Value→H} {P:Program} {W:World} {base:Nat}
open Go.ChangeShapes Go.WideShapes Go.ChangeAt Go.RowKit
def Tz (enc:TypeId × Value→H) (P:Program) (W:World) (base:Nat) (t:TypeId) (v:Value):Prop :=
 Value.okWide P W .any base t v∧∃ d p,DataW.Trod enc P W 0 (fun _=>true) true t v d p
theorem wQ:∀ {ts:List TypeId} {vs:List Value} {ds:List (DataW H)} {ps:List MemPlace},DataW.TrodAll enc P W 0 (fun _=>true) true ts vs ds ps →
  (∀ (j:Nat) t v,ts[j]? = some t→vs[j]? = some v→Value.okWide P W .any base t v)→Al (Tz enc P W base) ts vs
 | [],vs,ds,ps,h,_=>by obtain ⟨rfl,_,_⟩:=trodAll_nil h; trivial
 | t :: ts,vs,ds,ps,h,hv=>by
  obtain ⟨v,vs',d,ds',p,q,rfl,rfl,rfl,h0,h1⟩:=trodAll_cons h
  exact ⟨⟨hv 0 t v rfl rfl,d,p,h0⟩,wQ h1 fun j t v h1 h2=>hv (j + 1) t v (by simpa using h1) (by simpa using h2)⟩
theorem uo {W':World} (hl:laidOutB P=true):∀ {ts:List TypeId} {vs:List Value} {ds:List (DataW H)} {ps:List MemPlace},(ts.all fun t=>P.readableRec t && decide (t < P.types.size))=true →
  DataW.TrodAll enc P W 0 (fun _=>true) true ts vs ds ps→Below W.heap.size W W'→DataW.TrodAll enc P W' 0 (fun b=>decide (b < W.heap.size)) true ts vs ds ps
 | [],vs,ds,ps,_,h,_=>by obtain ⟨rfl,rfl,rfl⟩:=trodAll_nil h; exact trodAll_mk0
 | t :: ts,vs,ds,ps,hr,h,hb=>by
  have hlt:=DataW.TrodAll.lt h
  obtain ⟨v,vs',d,ds',p,q,rfl,rfl,rfl,h0,h1⟩:=trodAll_cons h
  simp only [List.all_cons,Bool.and_eq_true,decide_eq_true_eq] at hr
  exact trodAll_cons_mk (Below.trod hl hr.1.1 hr.1.2 h0 hb fun x hx=>hlt x (by simp [hx])) (uo hl hr.2 h1 hb)
theorem vL {n:Nat} {t:TypeId} {k:Ty} {v:Value} (hl:FZ P n t=some [k]) (ha:isAgg P t=false) (h:Tz enc P W base t v):∃ a,wP k a∧DV W (Ay W) a v:=by
 obtain ⟨h1,d,p,h2⟩:=h; exact Iz hl ha h1 h2
theorem p5 {sp:Nat→Bool} {held:Bool} {b0:Nat}:∀ {ts:List TypeId} {vs:List Value} {ds:List (DataW H)} {ps:List MemPlace},DataW.TrodAll enc P W b0 sp held ts vs ds ps→ds.length=ts.length
 | [],vs,ds,ps,h=>by obtain ⟨_,rfl,_⟩:=trodAll_nil h; rfl
 | t :: ts,vs,ds,ps,h=>by
  obtain ⟨v,vs',d,ds',p,q,rfl,rfl,rfl,h0,h1⟩:=trodAll_cons h
  simp [p5 h1]
end
theorem NG {α:Type} {l:List α} {n:Nat} (h:l.length=n + 1):∃ a m,l=a :: m∧m.length=n:=by
 cases l with
 | nil=>cases h
 | cons a m=>exact ⟨a,m,rfl,by simpa using h⟩
theorem TA {α:Type} {l:List α} (h:l.length=1):∃ a,l=[a]:=by obtain ⟨a,m,rfl,h2⟩:=NG h; exact ⟨a,by rw [List.length_eq_zero_iff.1 h2]⟩
theorem NH {α:Type} {l:List α} (h:l.length=2):∃ a b,l=[a,b]:=by obtain ⟨a,m,rfl,h2⟩:=NG h; obtain ⟨b,rfl⟩:=TA h2; exact ⟨a,b,rfl⟩
end Go.Eng
