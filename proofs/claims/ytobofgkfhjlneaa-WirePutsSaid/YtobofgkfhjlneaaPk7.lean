/- The engine and the library,part 7 of 9: what the proofs of this seat need of them. -/
import Derived.Test.YtobofgkfhjlneaaPk6
set_option linter.unnecessarySimpa false
set_option linter.unusedSimpArgs false
set_option linter.unusedVariables false
set_option linter.defProp false
set_option maxRecDepth 10000
set_option maxHeartbeats 4000000
namespace Go.Eng
open Go
def place (v n:Int):Int:=if v.tmod n < 0 then Ei (v.tmod n + n) else v.tmod n
def Place.Spec (C:bA) (f:Nat):Prop:=∀ v n:Int,0 < n→C.c f [I v,I n] (I (place v n)) none
theorem zK {α:Type} (f:α→List AV) (l:Option (List α)):cR (bg f l)=.dat (bg f l) none:=by cases l<;>rfl
theorem zL {α:Type} (f:α→List AV) (l:Option (List α)):rowsOf (bg f l)=some ((l.getD []).map f):=by cases l<;>rfl
theorem CF {α:Type} (f:α→List AV) (l:Option (List α)):oq (bg f l)=some (.int .i64 (l.getD []).length):=by cases l<;>simp [oq,bg]
section
variable {P:Program} (hm:P.follows .mixedOrders=true) {f:Nat}
include hm
theorem Place.ok (hc:fM P f=some eJ):Place.Spec (Pure P) f:=by
 intro v n hn
 refine bT hm hc (by show 2≤15; decide) (aG (keep:=[]) (i:=0) ?_)
 have hn0:¬ n=0:=by omega
 simp only [eJ,Z.H,I,B,D,EW,cond_true,cond_false,decide_eq_true_eq,decide_eq_false_iff_not,List.length_cons,List.length_nil,↓ rE,↓ tf,↓ oQ,↓ tn,↓ tT,↓ tv,EV,flat,List.contains_nil,Bool.false_eq_true,if_false,if_true,true_and,List.getElem?_cons_zero,List.getElem?_cons_succ,Nat.reduceBEq,Nat.reduceAdd,hn0]
 refine ⟨hn0,aE (fun h=>?_) (fun h=>?_)⟩<;>try simp only [I,B,D,EW,cond_true,cond_false,decide_eq_true_eq,decide_eq_false_iff_not,List.length_cons,List.length_nil,↓ rE,↓ tf,↓ oQ,↓ tn,↓ tT,↓ tv,EV,flat,List.contains_nil,Bool.false_eq_true,if_false,if_true,true_and,List.getElem?_cons_zero,List.getElem?_cons_succ,Nat.reduceBEq,Nat.reduceAdd,h]
 ·simp only [decide_eq_true_eq] at h
  simp only [place,h,if_true,Ei]
 ·simp only [decide_eq_false_iff_not] at h
  simp only [place,h,if_false]
end
end Go.Eng
namespace Go.Eng
open Go
structure Cs where
 E8:Int
 zH:Int
 deriving Inhabited,DecidableEq
def Cs.cells (c:Cs):List AV:=[I c.E8,I c.zH]
end Go.Eng
namespace Go.Eng
open Go
def cT (n a b:Int):Int:=if n < a then a else if b < n then b else n
def Cut.Spec (C:bA) (f:Nat):Prop:=∀ n a b:Int,C.c f [I n,I a,I b] (I (cT n a b)) none
theorem iA {n:Int} (h1:-9223372036854775808≤n) (h2:n≤9223372036854775807):IntKind.i64.wrap n=n:=by
 simp only [IntKind.wrap,IntKind.bits,IntKind.signed]
 simp
 omega
section
variable {P:Program} (hm:P.follows .mixedOrders=true) {f:Nat}
include hm
theorem Cut.ok (hc:fM P f=some gk):Cut.Spec (Pure P) f:=by
 intro n a b
 refine bT hm hc (by show 3≤16; decide) (aG (keep:=[]) (i:=0) ?_)
 simp only [gk,Z.H,I,B,D,EW,cond_true,cond_false,List.length_cons,List.length_nil,↓ rE,↓ tf,↓ oQ,↓ tn,↓ tT,↓ tv,EV,nW,p4,p5,gE,setCells,gW,List.take_succ_cons,List.take_zero,List.drop_succ_cons,List.drop_zero,List.nil_append,List.cons_append,List.append_nil,flat,List.contains_nil,Bool.false_eq_true,if_false,if_true,true_and,List.getElem?_cons_zero,List.getElem?_cons_succ,Nat.reduceBEq,Nat.reduceAdd,Nat.le_refl,Nat.reduceLeDiff,p8,ge_iff_le,List.filter_nil,Option.map_some,Int.reduceNe,Int.reduceBEq,ne_eq,not_false_eq_true,Int.reduceEq,Bool.not_true,Bool.not_false]
 repeat' (first | (refine aE (fun h=>?_) (fun h=>?_)<;>try simp only [I,B,D,EW,cond_true,cond_false,List.length_cons,List.length_nil,↓ rE,↓ tf,↓ oQ,↓ tn,↓ tT,↓ tv,EV,nW,p4,p5,gE,setCells,gW,List.take_succ_cons,List.take_zero,List.drop_succ_cons,List.drop_zero,List.nil_append,List.cons_append,List.append_nil,flat,List.contains_nil,Bool.false_eq_true,if_false,if_true,true_and,List.getElem?_cons_zero,List.getElem?_cons_succ,Nat.reduceBEq,Nat.reduceAdd,Nat.le_refl,Nat.reduceLeDiff,p8,ge_iff_le,List.filter_nil,Option.map_some,Int.reduceNe,Int.reduceBEq,ne_eq,not_false_eq_true,Int.reduceEq,Bool.not_true,Bool.not_false,h]))
 all_goals simp_all [cT]
 all_goals omega
end
end Go.Eng
namespace Go.Eng
open Go
open Go.RowKit (Below)
theorem aV.block {w:World} {π:Nat→Nat→Prop}:∀ {css:List (List AV)} {Bs:List Nat},aV w π css Bs→∀ B∈Bs,B < w.heap.size
 | [],[],_,B,h=>by cases h
 | cs :: css,B0 :: Bs,h,B,hB=>by
  rcases List.mem_cons.1 hB with rfl|hB
  ·obtain ⟨cur,el,h1,_⟩:=h.1
   exact (Array.getElem?_eq_some_iff.1 h1).1
  ·exact h.2.block B hB
 | [],_ :: _,h,_,_=>h.elim
 | _ :: _,[],h,_,_=>h.elim
theorem aV.mono {w w':World} {π:Nat→Nat→Prop} (hb:Below w.heap.size w w') (hp:∀ b o,π b o→b < w.heap.size):∀ {css:List (List AV)} {Bs:List Nat},aV w π css Bs→aV w' π css Bs
 | [],[],_=>trivial
 | cs :: css,B :: Bs,h=>by
  obtain ⟨cur,el,h1,h2,h3,h4,h5⟩:=h.1
  refine ⟨⟨cur,el,?_,h2.mono (fun _ _ h=>h) (fun b o hbo=>Below.ie hb (hp b o hbo)),h3,h4,h5⟩,h.2.mono hb hp⟩
  rw [hb.block B (Array.getElem?_eq_some_iff.1 h1).1,h1]
 | [],_ :: _,h=>h.elim
 | _ :: _,[],h=>h.elim
theorem fZ.ref {w:World} {π π1:Nat→Nat→Prop} (hp:∀ b o,π b o→π1 b o) {B:Nat} {cs:List AV} {τ:Nat→Value} (h:fZ τ w π B ⟨cs,[]⟩) (h1:∀ o,π1 B o):DV w π1 (.ref cs) (.pointer (some ⟨B,0,none⟩)):=by
 obtain ⟨cur,el,hh,hd,hs,_,_⟩:=h
 have hget:∀ (j:Nat) (a:AV),cs[j]? = some a→∃ v,cur[j]? = some v∧DV w π a v:=fun j a ha=>by
  obtain ⟨v,hv,hv2⟩:=hd.get ha
  exact ⟨v,by simpa using hv,hv2⟩
 refine .ref cs B 0 (fun j=>cur[j]!) (fun j a ha=>hs a (List.mem_of_getElem? ha)) (fun j a _=>h1 _) (fun j a ha=>?_) (fun j a ha=>?_)
 ·obtain ⟨v,hv,_⟩:=hget j a ha
  rw [Nat.zero_add]
  have hj:cur[j]! = v:=by simp [Array.getElem!_eq_getD,Array.getD_eq_getD_getElem?,hv]
  simp only [hj]
  simp [World.cell?,hh,hv]
 ·obtain ⟨v,hv,hv2⟩:=hget j a ha
  have hj:cur[j]! = v:=by simp [Array.getElem!_eq_getD,Array.getD_eq_getD_getElem?,hv]
  simp only [hj]
  exact hv2.mono hp fun _ _ _=>rfl
end Go.Eng
namespace Go.Eng
open Go
theorem p9 (n:Int):(dO n).length=1:=rfl
def RW :=
 And.intro @EV (And.intro @EW (And.intro @cond_true.{1} (And.intro @cond_false.{1} (And.intro @List.length_cons.{0} (And.intro @List.length_nil.{0} (And.intro @nW (And.intro @p4 (And.intro @p5 (And.intro @List.take_succ_cons.{0} (And.intro @List.take_zero.{0} (And.intro @List.drop_succ_cons.{0} (And.intro @List.drop_zero.{0} (And.intro @List.nil_append.{0} (And.intro @List.cons_append.{0} (And.intro @List.append_nil.{0} (And.intro @List.contains_nil.{0} (And.intro @Bool.false_eq_true (And.intro @if_false.{1} (And.intro @if_true.{1} (And.intro @true_and (And.intro @List.getElem?_cons_zero.{0} (And.intro @List.getElem?_cons_succ.{0} (And.intro @Nat.le_refl (And.intro @p8 (And.intro @ge_iff_le.{0} (And.intro @List.filter_nil.{0} (And.intro @Option.map_some.{0,0} (And.intro @ne_eq.{1} (And.intro @not_false_eq_true (And.intro @Bool.not_true (And.intro @Bool.not_false (And.intro @List.mem_singleton.{0} (And.intro @forall_eq.{1} (And.intro @List.not_mem_nil.{0} (And.intro @false_implies (And.intro @implies_true.{0} (And.intro @implies_true.{1} (And.intro @List.forall_mem_map.{0,0} (And.intro @List.length_map.{0,0} (And.intro @and_true (And.intro @p9 (And.intro @zK (And.intro @zL (And.intro @CF (And.intro @Int.toNat_natCast (And.intro @List.getElem?_map.{0,0} (And.intro @Nat.zero_add (And.intro @Nat.add_zero (And.intro @List.mem_cons.{0} (And.intro @forall_eq_or_imp.{1} (And.intro @Nat.mul_one (And.intro @decide_true (And.intro @decide_false (And.intro @List.contains_cons.{0} (And.intro @Bool.or_false (And.intro @Bool.false_or (And.intro @Bool.or_true (@Bool.true_or))))))))))))))))))))))))))))))))))))))))))))))))))))))))))
def RY:=And.intro @RW (And.intro @gE.eq_1 (And.intro @gE.eq_2 (And.intro @gW.eq_1 (And.intro @gW.eq_2 (And.intro @flat.eq_1 (And.intro @flat.eq_2 (And.intro @flat.eq_3 (And.intro @flat.eq_4 (And.intro @flat.eq_5 (And.intro @flat.eq_6 (And.intro @flat.eq_7 @flat.eq_8)))))))))))
def RX:=And.intro @RY @setCells.eq_1
def KW :=
 And.intro @rE (And.intro @tf (And.intro @oQ (And.intro @AX (And.intro @tn (And.intro @tT (And.intro @tv (@D4)))))))
end Go.Eng
namespace Go.Eng
open Go
theorem cw {C:bA} {c:ak} {Q:Exit→S→Prop} {α:Type} (hd:α→S) (μ:α→Nat) (I:α→Prop)
  (round:∀ x,I x→∀ B:S→Prop,(∀ y s,I y→μ y < μ x→Le s (hd y)→B s)→aw C c (dJ B Q) (hd x)) (x:α) (hx:I x) {s:S} (h0:Le s (hd x)):aw C (.loop c) Q s :=
 wj hd μ I (fun x hx=>round x hx _ fun y s hy hμ hle=>⟨hd y,.inl ⟨hle,y,rfl,hy,hμ⟩⟩) hx (.inl h0)
theorem zM (m:List (Nat × Nat)) (nx:Nat) (a a':AV) (q:Option Nat):pK m nx (.dat a q) (.dat a' none)=(a=a'):=by cases q<;>rfl
theorem zN (m:List (Nat × Nat)) (nx:Nat) (a a':AV) (q q':Nat):pK m nx (.dat a (some q)) (.dat a' (some q'))=(a=a'∧q=uJ m q'∧q' < nx):=rfl
theorem zO (m:List (Nat × Nat)) (nx:Nat) (b o b' o':Nat):pK m nx (.ptr b o) (.ptr b' o')=(b=b'∧o=o'∧b' < nx):=rfl
theorem CG (m:List (Nat × Nat)) (nx:Nat) (a b:List AV):pK m nx (.rp a) (.rp b)=(a=b):=rfl
theorem uc (m:List (Nat × Nat)) (nx:Nat):pK m nx .undef .undef=True:=rfl
def mI (a:List (Nat × SV)):List (Nat × SV)→List (Nat × Nat)
 | []=>[]
 |(t,.dat _ (some q)) :: r=>match lk t a with
  | some (.dat _ (some q'))=>(q,q') :: mI a r
  | _=>mI a r
 | _ :: r=>mI a r
def ud (a:List (Nat × Nat)):List (Nat × Nat)→List (Nat × Nat)
 | []=>[]
 |(o,q) :: r=>match bF o a with
  | some q'=>(q,q') :: ud a r
  | none=>ud a r
def mc (a:List (Nat × aN)):List (Nat × aN)→List (Nat × Nat)
 | []=>[]
 |(b,x) :: r=>match aS b a with
  | some y=>ud y.tags x.tags++mc a r
  | none=>mc a r
theorem aW {sl sl':List (Nat × SV)} {bx bx':List (Nat × aN)} {lv lv':List (Nat × Nat)} {nx nx':Nat} (h:4≤nx') (h1:hJ (mI sl sl'++mc bx bx') nx' sl sl') (h2:hM (mI sl sl'++mc bx bx') nx' bx bx') (h3:jV (mI sl sl'++mc bx bx') nx' lv lv') (h4:bk (mI sl sl'++mc bx bx') lv'):Le ⟨sl,bx,lv,nx⟩ ⟨sl',bx',lv',nx'⟩:=⟨h,_,h1,h2,h3,h4⟩
def xE {α:Type} (l:List α):Option (List α):=if l=[] then none else some l
def fy {α:Type} (row:α→List AV) (l:List α) (t:Nat):SV:=if l=[] then .dat .bf none else .dat (.sl (l.map row)) (some t)
def ki {α:Type} (l:List α) (t e:Nat):List (Nat × Nat):=if l=[] then [] else [(t,e)]
def LX:=And.intro @dO.eq_1 (And.intro @fy.eq_1 (And.intro @ki.eq_1 (And.intro @hJ.eq_1 (And.intro @hJ.eq_2 (And.intro @zM (And.intro @zN (And.intro @zO (And.intro @CG (And.intro @uc (And.intro @hM.eq_1 (And.intro @hM.eq_2 (And.intro @jU.eq_1 (And.intro @jU.eq_2 (And.intro @jV.eq_1 (And.intro @jV.eq_2 (And.intro @mI.eq_1 (And.intro @mI.eq_2 (And.intro @mI.eq_3 (And.intro @mc.eq_1 (And.intro @mc.eq_2 (And.intro @ud.eq_1 (And.intro @ud.eq_2 (And.intro @uJ.eq_1 (And.intro @bk.eq_1 (And.intro @A1 (And.intro @xA (And.intro @xz (And.intro @th (@aj)))))))))))))))))))))))))))))
theorem de {k:Nat} (h:k < 9223372036854775806):IntKind.i64.wrap ((k:Int) + 1)=((k + 1:Nat):Int):=by rw [iA (by omega) (by omega)]; omega
end Go.Eng
namespace Go.Eng
open Go
section
open Z
def eK (g0:Nat):gK:=⟨18,[.tmp 4],r [V 4 (F)] (r [M 5 0,o 6 (.xt .lA (t 5)),M 7 1,o 8 (.xt .lA (t 7)),o 9 (b .eql 6 8),M 10 9,q 11 (m 0) 10,q 12 (.call g0 [t 11]) 10,q 13 (m 12) 10,p 14 (m 1) 13,p 15 (.call g0 [t 14]) 13,q 16 (P 13 15) 10,o 17 (Q 10 16),M 4 17] y)⟩
def gl:gK:=⟨6,[.tmp 2],r [V 2 (F)] (r [M 3 0,M 4 0,o 5 (b .neq 3 4),M 2 5] y)⟩
end
end Go.Eng
namespace Go.Eng
open Ieee
set_option exponentiation.threshold 4000
def jI (n d:Nat):Nat:=n / 2 ^ d + (if 2 ^ d < 2 * (n % 2 ^ d)∨(2 ^ d=2 * (n % 2 ^ d)∧n / 2 ^ d % 2=1) then 1 else 0)
theorem aP (d:Nat):0 < 2 ^ d:=Nat.two_pow_pos d
theorem ue (n d:Nat):jI n d≤n / 2 ^ d + 1:=by unfold jI; split<;>omega
theorem uf (n d:Nat):n / 2 ^ d≤jI n d:=by unfold jI; omega
theorem ug (n:Nat):jI n 0=n:=by simp [jI,Nat.mod_one]
theorem iB (n d k:Nat):jI (n * 2 ^ k) (d + k)=jI n d:=by
 unfold jI
 rw [Nat.pow_add,Nat.mul_div_mul_right _ _ (aP k),Nat.mul_mod_mul_right]
 have hk:=aP k
 have e1:(2 ^ d * 2 ^ k < 2 * (n % 2 ^ d * 2 ^ k))↔(2 ^ d < 2 * (n % 2 ^ d)):=by
  rw [← Nat.mul_assoc]; exact Nat.mul_lt_mul_right hk
 have e2:(2 ^ d * 2 ^ k=2 * (n % 2 ^ d * 2 ^ k))↔(2 ^ d=2 * (n % 2 ^ d)):=by
  rw [← Nat.mul_assoc]; exact Nat.mul_left_inj (by omega)
 simp only [e1,e2]
theorem mh {n n':Nat} (h:n≤n') (d:Nat):jI n d≤jI n' d:=by
 have hp:=aP d
 have hq:n / 2 ^ d≤n' / 2 ^ d:=Nat.div_le_div_right h
 by_cases he:n / 2 ^ d=n' / 2 ^ d
 ·unfold jI
  rw [he]
  have h1:=Nat.div_add_mod n (2 ^ d)
  have h2:=Nat.div_add_mod n' (2 ^ d)
  rw [he] at h1
  have hr:n % 2 ^ d≤n' % 2 ^ d:=by omega
  split<;>split<;>omega
 ·have h1:=ue n d
  have h2:=uf n' d
  omega
theorem rU {n d:Nat} (q:Nat):jI (q * 2 ^ d) d=q:=by
 have:=iB q 0 d
 rw [Nat.zero_add,ug] at this
 exact this
theorem gX (n:Nat):n < 2 ^ (n.log2 + 1):=Nat.lt_log2_self
theorem uh (s:Bool) (n d:Nat):Toward.even.cut s n d=jI n d:=by
 unfold Toward.cut
 simp only [Nat.one_shiftLeft]
 by_cases hd:d≤n.log2 + 2
 ·rw [Nat.min_eq_left hd]
  unfold jI
  congr 1
  by_cases h1:2 ^ d < 2 * (n % 2 ^ d)
  ·simp [h1]
  ·by_cases h2:2 ^ d=2 * (n % 2 ^ d)
   ·by_cases h3:n / 2 ^ d % 2=1
    ·simp [← h2,h3]
    ·simp [← h2,h3]
   ·simp [h1,h2]
 ·rw [Nat.min_eq_right (by omega)]
  have hl:=gX n
  have h2:2 ^ (n.log2 + 2)=2 * 2 ^ (n.log2 + 1):=by rw [Nat.pow_succ,Nat.mul_comm]
  have hd2:2 ^ (n.log2 + 2)≤2 ^ d:=Nat.pow_le_pow_right (by omega) (by omega)
  have e1:n / 2 ^ (n.log2 + 2)=0:=Nat.div_eq_of_lt (by omega)
  have e2:n % 2 ^ (n.log2 + 2)=n:=Nat.mod_eq_of_lt (by omega)
  have e3:n / 2 ^ d=0:=Nat.div_eq_of_lt (by omega)
  have e4:n % 2 ^ d=n:=Nat.mod_eq_of_lt (by omega)
  unfold jI
  rw [e1,e2,e3,e4]
  have c1:¬ (2 ^ (n.log2 + 2) < 2 * n):=by omega
  have c2:¬ (2 ^ (n.log2 + 2)=2 * n):=by omega
  have c3:¬ (2 ^ d < 2 * n):=by omega
  have c4:¬ (2 ^ d=2 * n):=by omega
  simp [c1,c2,c3,c4]
def rV (r:Nat):Nat:=if r < 2 ^ 52 then r else (2 ^ 52 + r % 2 ^ 52) * 2 ^ (r / 2 ^ 52 - 1)
theorem qR {r r':Nat} (h:r≤r'):rV r≤rV r':=by
 unfold rV
 have hd:r / 2 ^ 52≤r' / 2 ^ 52:=Nat.div_le_div_right h
 have hm:=Nat.mod_lt r (aP 52)
 have hm':=Nat.mod_lt r' (aP 52)
 split
 ·split
  ·exact h
  ·have:1≤2 ^ (r' / 2 ^ 52 - 1):=aP _
   calc r≤2 ^ 52 + r' % 2 ^ 52:=by omega
    _=(2 ^ 52 + r' % 2 ^ 52) * 1:=by omega
    _≤_:=Nat.mul_le_mul_left _ this
 ·split
  ·omega
  ·by_cases he:r / 2 ^ 52=r' / 2 ^ 52
   ·rw [he]
    have h1:=Nat.div_add_mod r (2 ^ 52)
    have h2:=Nat.div_add_mod r' (2 ^ 52)
    rw [he] at h1
    exact Nat.mul_le_mul_right _ (by omega)
   ·have h0:1≤r / 2 ^ 52:=by
     have:2 ^ 52≤r:=by omega
     exact (Nat.le_div_iff_mul_le (aP 52)).2 (by omega)
    calc (2 ^ 52 + r % 2 ^ 52) * 2 ^ (r / 2 ^ 52 - 1)≤2 ^ 53 * 2 ^ (r / 2 ^ 52 - 1):=Nat.mul_le_mul_right _ (by omega)
     _=2 ^ 52 * 2 ^ (r / 2 ^ 52):=by rw [← Nat.pow_add,← Nat.pow_add]; congr 1; omega
     _≤2 ^ 52 * 2 ^ (r' / 2 ^ 52 - 1):=Nat.mul_le_mul_left _ (Nat.pow_le_pow_right (by omega) (by omega))
     _≤_:=Nat.mul_le_mul_right _ (by omega)
def Lg (N:Nat):Nat:=max (N.log2 - 52) 1126
def Rg (N:Nat):Nat:=if N=0 then 0 else min ((Lg N - 1126) * 2 ^ 52 + jI N (Lg N)) (2047 * 2 ^ 52)
theorem CH {N N':Nat} (h0:N≠0) (h:N≤N'):Lg N≤Lg N':=by
 have:N.log2≤N'.log2:=(Nat.le_log2 (by omega)).2 (Nat.le_trans (Nat.log2_self_le h0) h)
 unfold Lg; omega
theorem CI (N:Nat):N < 2 ^ (Lg N + 53):=Nat.lt_of_lt_of_le (gX N) (Nat.pow_le_pow_right (by omega) (by unfold Lg; omega))
theorem CJ (N:Nat):N / 2 ^ Lg N < 2 ^ 53:=by
 rw [Nat.div_lt_iff_lt_mul (aP _),← Nat.pow_add,Nat.add_comm]; exact CI N
theorem xF {N:Nat} (h:N≠0) (hL:1126 < Lg N):2 ^ 52≤N / 2 ^ Lg N:=by
 rw [Nat.le_div_iff_mul_le (aP _),← Nat.pow_add]
 refine Nat.le_trans (Nat.pow_le_pow_right (by omega) ?_) (Nat.log2_self_le h)
 unfold Lg at hL ⊢; omega
theorem qS {N N':Nat} (h:N≤N'):Rg N≤Rg N':=by
 unfold Rg
 by_cases h0:N=0
 ·simp [h0]
 ·have h0':N'≠0:=by omega
  rw [if_neg h0,if_neg h0']
  have hL:=CH h0 h
  suffices (Lg N - 1126) * 2 ^ 52 + jI N (Lg N)≤(Lg N' - 1126) * 2 ^ 52 + jI N' (Lg N') by omega
  by_cases he:Lg N=Lg N'
  ·rw [he]; have:=mh h (Lg N'); omega
  ·have h1:=CJ N
   have h2:=ue N (Lg N)
   have h3:2 ^ 52≤N' / 2 ^ Lg N':=xF h0' (by unfold Lg at he hL ⊢; omega)
   have h4:=uf N' (Lg N')
   have h5:(Lg N - 1126) + 1≤Lg N' - 1126:=by unfold Lg at he hL ⊢; omega
   omega
theorem uj {N:Nat} (q:Nat) (h:N=q * 2 ^ Lg N) (hb:N < 2 ^ 3150):Rg N < 2047 * 2 ^ 52∧rV (Rg N) * 2 ^ 1126=N:=by
 by_cases h0:N=0
 ·subst h0; simp [Rg,rV]
 ·have hp:=aP (Lg N)
  have hq:N / 2 ^ Lg N=q:=by
   have:q * 2 ^ Lg N / 2 ^ Lg N=q:=Nat.mul_div_cancel _ hp
   rw [← h] at this; exact this
  have hr:jI N (Lg N)=q:=by
   have:jI (q * 2 ^ Lg N) (Lg N)=q:=rU (n:=0) q
   rw [← h] at this; exact this
  have hq53:=CJ N
  rw [hq] at hq53
  have hL:Lg N≤3098:=by
   have:N.log2 < 3150:=(Nat.log2_lt h0).2 hb
   unfold Lg; omega
  have hlt:(Lg N - 1126) * 2 ^ 52 + q < 2047 * 2 ^ 52:=by omega
  have hRg:Rg N=(Lg N - 1126) * 2 ^ 52 + q:=by unfold Rg; rw [if_neg h0,hr]; omega
  rw [hRg]
  refine ⟨hlt,?_⟩
  have key:rV ((Lg N - 1126) * 2 ^ 52 + q)=q * 2 ^ (Lg N - 1126):=by
   by_cases hLe:Lg N=1126
   ·rw [hLe]
    simp only [Nat.sub_self,Nat.zero_mul,Nat.zero_add,Nat.pow_zero,Nat.mul_one]
    unfold rV
    split
    ·rfl
    ·have e1:q / 2 ^ 52=1:=by omega
     have e2:q % 2 ^ 52=q - 2 ^ 52:=by omega
     rw [e1,e2]; omega
   ·have hL1:1126 < Lg N:=by unfold Lg at hLe ⊢; omega
    have h52:=xF h0 hL1
    rw [hq] at h52
    unfold rV
    have e1:((Lg N - 1126) * 2 ^ 52 + q) / 2 ^ 52 - 1=Lg N - 1126:=by omega
    have e2:2 ^ 52 + ((Lg N - 1126) * 2 ^ 52 + q) % 2 ^ 52=q:=by omega
    rw [if_neg (by omega),e1,e2]
  rw [key,Nat.mul_assoc,← Nat.pow_add]
  have:Lg N - 1126 + 1126=Lg N:=by
   have:1126≤Lg N:=by unfold Lg; omega
   omega
  rw [this]; exact h.symm
theorem oX {m k:Nat} (hm:m < 2 ^ 53) (hk:1126≤k) (hk2:k≤3090):Rg (m * 2 ^ k) < 2047 * 2 ^ 52∧rV (Rg (m * 2 ^ k)) * 2 ^ 1126=m * 2 ^ k:=by
 by_cases h0:m=0
 ·subst h0; simp [Rg,rV]
 ·have hl:(m * 2 ^ k).log2=m.log2 + k:=by
   have h1:m * 2 ^ k≠0:=Nat.mul_ne_zero h0 (by have:=aP k; omega)
   apply Nat.le_antisymm
   ·have:(m * 2 ^ k).log2 < m.log2 + k + 1:=(Nat.log2_lt h1).2 (by
     rw [show m.log2 + k + 1=(m.log2 + 1) + k by omega,Nat.pow_add]
     exact Nat.mul_lt_mul_of_pos_right (gX m) (aP k))
    omega
   ·exact (Nat.le_log2 h1).2 (by rw [Nat.pow_add]; exact Nat.mul_le_mul_right _ (Nat.log2_self_le h0))
  have hm52:m.log2≤52:=by have:=(Nat.log2_lt h0).2 hm; omega
  have hLk:Lg (m * 2 ^ k)≤k:=by unfold Lg; omega
  refine uj (m * 2 ^ (k - Lg (m * 2 ^ k))) ?_ ?_
  ·rw [Nat.mul_assoc,← Nat.pow_add]; congr 2; omega
  ·have:=gX (m * 2 ^ k)
   refine Nat.lt_of_lt_of_le this (Nat.pow_le_pow_right (by omega) (by omega))
end Go.Eng
namespace Go.Eng
open Ieee
set_option exponentiation.threshold 4000
abbrev DF:Format:=Ieee.double
theorem fD:DF.binade=2 ^ 52:=rfl
theorem iC:DF.signWeight=2 ^ 63:=rfl
theorem nX:DF.infRung=2047 * 2 ^ 52:=rfl
theorem fE:DF.leastPlace=-1074:=by decide
theorem wG:DF.fractionBits=52:=rfl
def mj (r:Nat):Nat:=if r < 2 ^ 52 then r else 2 ^ 52 + r % 2 ^ 52
def d6 (r:Nat):Nat:=if r < 2 ^ 52 then 0 else r / 2 ^ 52 - 1
theorem gm (r:Nat):rV r=mj r * 2 ^ d6 r:=by unfold rV mj d6; split<;>simp
theorem zP (r:Nat):mj r < 2 ^ 53:=by unfold mj; split<;>omega
theorem fH {r:Nat} (h:r < 2047 * 2 ^ 52):DF.read r=.number false (mj r) (-1074 + (d6 r:Int)):=by
 have h1:r / 2 ^ 63 % 2=0:=by omega
 have h2:r % 2 ^ 63=r:=by omega
 unfold Format.read
 simp only [fD,iC,nX,fE,h1,h2]
 unfold mj d6
 split
 ·simp
 ·simp [h]
theorem uk {r:Nat} (h:r < 2047 * 2 ^ 52):DF.read (2 ^ 63 + r)=.number true (mj r) (-1074 + (d6 r:Int)):=by
 have h1:(2 ^ 63 + r) / 2 ^ 63 % 2=1:=by omega
 have h2:(2 ^ 63 + r) % 2 ^ 63=r:=by omega
 unfold Format.read
 simp only [fD,iC,nX,fE,h1,h2]
 unfold mj d6
 split
 ·simp
 ·simp [h]
theorem qa (s:Bool) (m:Nat) (p:Int) (hp:-2200≤p):DF.nearest s m p=DF.word s (Rg (m * 2 ^ (p + 2200).toNat)):=by
 unfold Format.nearest
 by_cases h0:m=0
 ·simp [h0,Rg]
 ·rw [if_neg h0]
  obtain ⟨k,hk⟩:∃ k:Nat,p=(k:Int) - 2200:=⟨(p + 2200).toNat,by omega⟩
  subst hk
  have ek:((k:Int) - 2200 + 2200).toNat=k:=by omega
  rw [ek]
  have h1:m * 2 ^ k≠0:=Nat.mul_ne_zero h0 (by have:=aP k; omega)
  have hl:(m * 2 ^ k).log2=m.log2 + k:=by
   apply Nat.le_antisymm
   ·have:(m * 2 ^ k).log2 < m.log2 + k + 1:=(Nat.log2_lt h1).2 (by
     rw [show m.log2 + k + 1=(m.log2 + 1) + k by omega,Nat.pow_add]
     exact Nat.mul_lt_mul_of_pos_right (gX m) (aP k))
    omega
   ·exact (Nat.le_log2 h1).2 (by rw [Nat.pow_add]; exact Nat.mul_le_mul_right _ (Nat.log2_self_le h0))
  have hlast:max ((k:Int) - 2200 + m.log2 - (DF.fractionBits:Nat)) DF.leastPlace=(Lg (m * 2 ^ k):Int) - 2200:=by
   rw [fE,wG]; unfold Lg; rw [hl]; omega
  simp only [hlast]
  simp only [uh,fE,fD,nX]
  have hg:1126≤Lg (m * 2 ^ k):=by unfold Lg; omega
  have e1:((Lg (m * 2 ^ k):Int) - 2200 - -1074).toNat=Lg (m * 2 ^ k) - 1126:=by omega
  have e2:jI (m <<< ((k:Int) - 2200 - ((Lg (m * 2 ^ k):Int) - 2200)).toNat) ((Lg (m * 2 ^ k):Int) - 2200 - ((k:Int) - 2200)).toNat=jI (m * 2 ^ k) (Lg (m * 2 ^ k)):=by
   rw [Nat.shiftLeft_eq]
   generalize Lg (m * 2 ^ k)=L
   by_cases hLk:L≤k
   ·have a1:((k:Int) - 2200 - ((L:Int) - 2200)).toNat=k - L:=by omega
    have a2:((L:Int) - 2200 - ((k:Int) - 2200)).toNat=0:=by omega
    rw [a1,a2]
    have:=iB (m * 2 ^ (k - L)) 0 L
    rw [Nat.zero_add,Nat.mul_assoc,← Nat.pow_add,Nat.sub_add_cancel hLk] at this
    exact this.symm
   ·have a1:((k:Int) - 2200 - ((L:Int) - 2200)).toNat=0:=by omega
    have a2:((L:Int) - 2200 - ((k:Int) - 2200)).toNat=L - k:=by omega
    rw [a1,a2,Nat.pow_zero,Nat.mul_one]
    have:=iB m (L - k) k
    rw [Nat.sub_add_cancel (by omega)] at this
    exact this.symm
  rw [e1,e2]
  unfold Rg
  rw [if_neg h1]
theorem um (r:Nat):DF.word false r=r:=by unfold Format.word; simp
theorem kj (m:Nat) (p:Int) (hp:-2200≤p):DF.write (.number false m p)=Rg (m * 2 ^ (p + 2200).toNat):=by
 show DF.nearest false m p=_
 rw [qa _ _ _ hp,um]
def Fin (r:Nat):Prop:=r < 2047 * 2 ^ 52
def AA:Nat:=4621819117588971520
theorem wH:DF.read AA=.number false (5 * 2 ^ 50) (-49):=by decide
theorem wI (m n a b:Nat):(Datum.number false m (-1074 + (a:Int))).sum (.number false n (-1074 + (b:Int)))=some (.number false (m * 2 ^ (a - min a b) + n * 2 ^ (b - min a b)) (-1074 + (min a b:Nat))):=by
 have e0:min (-1074 + (a:Int)) (-1074 + (b:Int))=-1074 + ((min a b:Nat):Int):=by omega
 have e1:((-1074 + (a:Int)) - (-1074 + ((min a b:Nat):Int))).toNat=a - min a b:=by omega
 have e2:((-1074 + (b:Int)) - (-1074 + ((min a b:Nat):Int))).toNat=b - min a b:=by omega
 simp only [Datum.sum,e0,e1,e2,signed,Bool.false_eq_true,if_false,Nat.shiftLeft_eq]
 generalize m * 2 ^ (a - min a b)=x
 generalize n * 2 ^ (b - min a b)=y
 have h1:¬ ((x:Int) + (y:Int) < 0):=by omega
 have h2:((x:Int) + (y:Int)).natAbs=x + y:=by omega
 rw [h2]
 simp [h1]
theorem wJ (m n a b:Nat) (h:n * 2 ^ b≤m * 2 ^ a):(Datum.number false m (-1074 + (a:Int))).sum (.number true n (-1074 + (b:Int)))=some (.number false (m * 2 ^ (a - min a b) - n * 2 ^ (b - min a b)) (-1074 + (min a b:Nat))):=by
 have e0:min (-1074 + (a:Int)) (-1074 + (b:Int))=-1074 + ((min a b:Nat):Int):=by omega
 have e1:((-1074 + (a:Int)) - (-1074 + ((min a b:Nat):Int))).toNat=a - min a b:=by omega
 have e2:((-1074 + (b:Int)) - (-1074 + ((min a b:Nat):Int))).toNat=b - min a b:=by omega
 simp only [Datum.sum,e0,e1,e2,signed,Bool.false_eq_true,if_false,if_true,Nat.shiftLeft_eq]
 have hxy:n * 2 ^ (b - min a b)≤m * 2 ^ (a - min a b):=by
  have hp:=aP (min a b)
  refine Nat.le_of_mul_le_mul_right ?_ hp
  rw [Nat.mul_assoc,Nat.mul_assoc,← Nat.pow_add,← Nat.pow_add,Nat.sub_add_cancel (by omega),Nat.sub_add_cancel (by omega)]
  exact h
 generalize m * 2 ^ (a - min a b)=x at *
 generalize n * 2 ^ (b - min a b)=y at *
 have h1:¬ ((x:Int) + -(y:Int) < 0):=by omega
 have h2:((x:Int) + -(y:Int)).natAbs=x - y:=by omega
 rw [h2]
 simp [h1]
theorem DD (m a c:Nat) (h:c≤a):m * 2 ^ (a - c) * 2 ^ (c + 1126)=m * 2 ^ a * 2 ^ 1126:=by
 rw [Nat.mul_assoc,← Nat.pow_add,Nat.mul_assoc,← Nat.pow_add,show a - c + (c + 1126)=a + 1126 by omega]
theorem add_pos {x y:Nat} (hx:Fin x) (hy:Fin y):DF.add x y=some (Rg ((rV x + rV y) * 2 ^ 1126)):=by
 unfold Format.add
 rw [fH hx,fH hy,wI,Option.map_some,kj _ _ (by omega)]
 have e:((-1074 + ((min (d6 x) (d6 y):Nat):Int)) + 2200).toNat=min (d6 x) (d6 y) + 1126:=by omega
 rw [e,Nat.add_mul,DD _ _ _ (by omega),DD _ _ _ (by omega),← gm,← gm,← Nat.add_mul]
theorem sub_pos {x y:Nat} (hx:Fin x) (hy:Fin y) (h:rV y≤rV x):DF.sub x y=some (Rg ((rV x - rV y) * 2 ^ 1126)):=by
 unfold Format.sub
 rw [fH hx,fH hy]
 simp only [Datum.opposite,Bool.not_false]
 rw [gm,gm] at h
 rw [wJ _ _ _ _ h,Option.map_some,kj _ _ (by omega)]
 have e:((-1074 + ((min (d6 x) (d6 y):Nat):Int)) + 2200).toNat=min (d6 x) (d6 y) + 1126:=by omega
 rw [e,Nat.sub_mul,DD _ _ _ (by omega),DD _ _ _ (by omega),← gm,← gm,← Nat.sub_mul]
def xG (n:Nat):Nat:=Rg (n * 2 ^ 2200)
theorem wK {n:Nat} (h:n < 2 ^ 53):Fin (xG n)∧rV (xG n)=n * 2 ^ 1074:=by
 have h2200:(1126:Nat)≤2200:=by decide
 obtain ⟨h1,h2⟩:=oX (m:=n) (k:=2200) h (by omega) (by omega)
 refine ⟨h1,?_⟩
 unfold xG
 have hp:=aP 1126
 refine Nat.eq_of_mul_eq_mul_right hp ?_
 rw [h2,Nat.mul_assoc,← Nat.pow_add]
theorem zQ {a:Nat} (h:a < 2 ^ 53):Fin (Rg (a * 2 ^ 1064 * 2 ^ 1126))∧rV (Rg (a * 2 ^ 1064 * 2 ^ 1126))=a * 2 ^ 1064:=by
 have e:a * 2 ^ 1064 * 2 ^ 1126=a * 2 ^ 2190:=by rw [Nat.mul_assoc,← Nat.pow_add]
 obtain ⟨h1,h2⟩:=oX (k:=2190) h (by omega) (by omega)
 rw [e]
 refine ⟨h1,?_⟩
 have hp:=aP 1126
 refine Nat.eq_of_mul_eq_mul_right hp ?_
 rw [h2,e]
theorem lp {N a b:Nat} (ha:a * 2 ^ 1064 * 2 ^ 1126≤N) (hb:N≤b * 2 ^ 1064 * 2 ^ 1126) (h:b < 2 ^ 53):Fin (Rg N)∧a * 2 ^ 1064≤rV (Rg N)∧rV (Rg N)≤b * 2 ^ 1064:=by
 have hab:a < 2 ^ 53:=by
  have:a * (2 ^ 1064 * 2 ^ 1126)≤b * (2 ^ 1064 * 2 ^ 1126):=by rw [← Nat.mul_assoc,← Nat.mul_assoc]; exact Nat.le_trans ha hb
  have:=Nat.le_of_mul_le_mul_right this (Nat.mul_pos (aP _) (aP _))
  omega
 obtain ⟨f1,f2⟩:=zQ hab
 obtain ⟨f3,f4⟩:=zQ h
 have m1:=qS ha
 have m2:=qS hb
 refine ⟨?_,?_,?_⟩
 ·unfold Fin at f3 ⊢; omega
 ·rw [← f2]; exact qR m1
 ·rw [← f4]; exact qR m2
def key (x:Nat):Option Int :=
 match DF.read x with
 | .nan ..=>none
 | .infinity s=>some (if s then -(2 ^ 2200:Nat) else (2 ^ 2200:Nat))
 | .number s m i=>some (signed s m (i + 1074).toNat)
theorem gY (x:Nat) {s:Bool} {m:Nat} {i:Int} (h:DF.read x=.number s m i):-1074≤i∧i≤971∧m < 2 ^ 53:=by
 unfold Format.read at h
 dsimp only at h
 split at h
 ·rename_i h1
  cases h
  rw [iC,fD] at h1
  rw [iC,fE]
  omega
 ·split at h
  ·rename_i h1 h2
   cases h
   rw [iC,nX] at h2
   rw [iC,fE,fD]
   omega
  ·split at h<;>cases h
theorem jJ (s:Bool) (m a b:Nat):signed s m (a + b)=signed s m a * ((2 ^ b:Nat):Int):=by
 have e:((m <<< (a + b):Nat):Int)=((m <<< a:Nat):Int) * ((2 ^ b:Nat):Int):=by
  rw [Nat.shiftLeft_eq,Nat.shiftLeft_eq,Nat.pow_add,← Nat.mul_assoc,Int.natCast_mul]
 unfold signed
 cases s
 ·simp only [Bool.false_eq_true,if_false]; exact e
 ·simp only [if_true,e,Int.neg_mul]
theorem rW (a b:Int) (k:Nat):compare (a * ((2 ^ k:Nat):Int)) (b * ((2 ^ k:Nat):Int))=compare a b:=by
 have hp:(0:Int) < ((2 ^ k:Nat):Int):=by have:=aP k; omega
 have h1:(a * ((2 ^ k:Nat):Int) < b * ((2 ^ k:Nat):Int))↔a < b:=Int.mul_lt_mul_right hp
 have h2:(a * ((2 ^ k:Nat):Int)=b * ((2 ^ k:Nat):Int))↔a=b:=⟨fun h=>Int.eq_of_mul_eq_mul_right (by omega) h,fun h=>by rw [h]⟩
 simp only [compare,compareOfLessAndEq,h1,h2]
theorem ni {s:Bool} {m a:Nat} (hm:m < 2 ^ 53) (ha:a≤2045):-((2 ^ 2200:Nat):Int) < signed s m a∧signed s m a < ((2 ^ 2200:Nat):Int):=by
 have h1:m * 2 ^ a < 2 ^ 53 * 2 ^ 2045:=Nat.lt_of_lt_of_le (Nat.mul_lt_mul_of_pos_right hm (aP a)) (Nat.mul_le_mul_left _ (Nat.pow_le_pow_right (by omega) ha))
 have h2:2 ^ 53 * 2 ^ 2045≤2 ^ 2200:=by rw [← Nat.pow_add]; exact Nat.pow_le_pow_right (by omega) (by omega)
 have h3:m * 2 ^ a < 2 ^ 2200:=Nat.lt_of_lt_of_le h1 h2
 unfold signed
 rw [Nat.shiftLeft_eq]
 generalize m * 2 ^ a=z at *
 generalize 2 ^ 2200=w at *
 cases s<;>simp<;>omega
def nY:Option Int→Option Int→Option Ordering
 | some a,some b=>some (compare a b)
 | _,_=>none
theorem je {a b:Int} (h:a < b):compare a b=.lt:=by simp [compare,compareOfLessAndEq,h]
theorem jf {a b:Int} (h:b < a):compare a b=.gt:=by
 have h1:¬ a < b:=by omega
 have h2:¬ a=b:=by omega
 simp [compare,compareOfLessAndEq,h1,h2]
theorem kn {a b:Int} (h:a=b):compare a b=.eq:=by simp [compare,compareOfLessAndEq,h]
theorem iD (x y:Nat):DF.order x y=nY (key x) (key y):=by
 have big:(0:Int) < ((2 ^ 2200:Nat):Int):=by have:=aP 2200; omega
 unfold Format.order key
 cases hx:DF.read x with
 | nan s t=>cases DF.read y<;>rfl
 | infinity s =>
  cases hy:DF.read y with
  | nan _ _=>rfl
  | infinity t =>
   simp only [Datum.order,nY]
   generalize ((2 ^ 2200:Nat):Int)=w at *
   cases s<;>cases t<;>simp only [Bool.false_eq_true,if_false,if_true]
   ·rw [kn rfl]; rfl
   ·rw [jf (by omega)]; rfl
   ·rw [je (by omega)]; rfl
   ·rw [kn rfl]; rfl
  | number t n j =>
   obtain ⟨b1,b2,b3⟩:=gY y hy
   obtain ⟨c1,c2⟩:=ni (s:=t) (a:=(j + 1074).toNat) b3 (by omega)
   simp only [Datum.order,nY]
   generalize ((2 ^ 2200:Nat):Int)=w at *
   cases s<;>simp only [Bool.false_eq_true,if_false,if_true]
   ·rw [jf c2]
   ·rw [je c1]
 | number s m i =>
  obtain ⟨b1,b2,b3⟩:=gY x hx
  cases hy:DF.read y with
  | nan _ _=>rfl
  | infinity t =>
   obtain ⟨c1,c2⟩:=ni (s:=s) (a:=(i + 1074).toNat) b3 (by omega)
   simp only [Datum.order,nY]
   generalize ((2 ^ 2200:Nat):Int)=w at *
   cases t<;>simp only [Bool.false_eq_true,if_false,if_true]
   ·rw [je c2]
   ·rw [jf c1]
  | number t n j =>
   obtain ⟨d1,d2,d3⟩:=gY y hy
   simp only [Datum.order,nY]
   have e1:(i + 1074).toNat=(i - min i j).toNat + (min i j + 1074).toNat:=by omega
   have e2:(j + 1074).toNat=(j - min i j).toNat + (min i j + 1074).toNat:=by omega
   rw [e1,e2,jJ,jJ,rW]
theorem gn {r:Nat} (h:Fin r):key r=some (rV r:Int):=by
 unfold key
 rw [fH h]
 simp only [signed,Bool.false_eq_true,if_false,Nat.shiftLeft_eq]
 rw [gm,show ((-1074 + (d6 r:Int)) + 1074).toNat=d6 r by omega]
theorem wL {r:Nat} (h:Fin r):key (2 ^ 63 + r)=some (-(rV r:Int)):=by
 unfold key
 rw [uk h]
 simp only [signed,if_true,Nat.shiftLeft_eq]
 rw [gm,show ((-1074 + (d6 r:Int)) + 1074).toNat=d6 r by omega]
end Go.Eng
namespace Go.Eng
open Ieee
set_option exponentiation.threshold 4000
def mJ:Nat:=4652006429231887155
def gp:Nat:=4584304132692975288
def DE (x y:Nat):Bool:=DF.order x y == some .gt || DF.order x y == some .eq
def DG (x y:Nat):Bool:=DF.order x y == some .lt || DF.order x y == some .eq
def DH (x y:Nat):Bool:=DF.order x y == some .lt
def DI (x y:Nat):Bool:=DF.order x y == some .gt
def DJ (x y:Nat):Bool:=DF.order x y == some .eq
def AB:Option Int→Option Int→Bool
 | some a,some b=>decide (a≤b)
 | _,_=>false
def AD:Option Int→Option Int→Bool
 | some a,some b=>decide (a < b)
 | _,_=>false
theorem wM (x y:Nat):DG x y=AB (key x) (key y):=by
 unfold DG
 rw [iD]
 cases key x<;>cases key y<;>try rfl
 rename_i a b
 simp only [nY,AB]
 rcases Int.lt_trichotomy a b with h|h|h
 ·rw [je h]; simp; omega
 ·rw [kn h]; simp; omega
 ·rw [jf h]; simp; omega
theorem wN (x y:Nat):DE x y=AB (key y) (key x):=by
 unfold DE
 rw [iD]
 cases key x<;>cases key y<;>try rfl
 rename_i a b
 simp only [nY,AB]
 rcases Int.lt_trichotomy a b with h|h|h
 ·rw [je h]; simp; omega
 ·rw [kn h]; simp; omega
 ·rw [jf h]; simp; omega
theorem wO (x y:Nat):DH x y=AD (key x) (key y):=by
 unfold DH
 rw [iD]
 cases key x<;>cases key y<;>try rfl
 rename_i a b
 simp only [nY,AD]
 rcases Int.lt_trichotomy a b with h|h|h
 ·rw [je h]; simp; omega
 ·rw [kn h]; simp; omega
 ·rw [jf h]; simp; omega
theorem wP (x y:Nat):DI x y=AD (key y) (key x):=by
 unfold DI
 rw [iD]
 cases key x<;>cases key y<;>try rfl
 rename_i a b
 simp only [nY,AD]
 rcases Int.lt_trichotomy a b with h|h|h
 ·rw [je h]; simp; omega
 ·rw [kn h]; simp; omega
 ·rw [jf h]; simp; omega
theorem CL:Fin 0:=by unfold Fin; omega
theorem wQ:Fin mJ:=by unfold Fin mJ; omega
theorem lq:Fin gp:=by unfold Fin gp; omega
theorem Ej:rV 0=0:=by simp [rV]
theorem qT:key 0=some 0:=by rw [gn CL,Ej]; rfl
theorem qU:key mJ=some (rV mJ:Int):=gn wQ
def E9 (a:Nat):Nat:=Rg (10 * a * 2 ^ 1126)
def xH (a:Nat):Nat:=jI (rV (E9 a)) 1074
theorem CM:xH 0=0:=by decide +kernel
def DK (s:Nat):Bool:=DE s 0 && DG s mJ
def tk (s:Nat):Nat:=xH ((key s).getD 0).toNat
theorem nZ {s:Nat}:DK s=true↔∃ a:Nat,key s=some (a:Int)∧a≤rV mJ:=by
 unfold DK
 rw [wN,wM,qT,qU]
 cases hk:key s with
 | none=>simp [AB]
 | some a =>
  simp only [AB,Bool.and_eq_true,decide_eq_true_eq,Option.some.injEq]
  constructor
  ·rintro ⟨h1,h2⟩; exact ⟨a.toNat,by omega,by omega⟩
  ·rintro ⟨b,rfl,h⟩; omega
theorem uo {s a:Nat} (h:key s=some (a:Int)):tk s=xH a:=by simp [tk,h]
theorem qV {a b c d:Nat} (h:a≤b) (h':d≤c):a - c≤b - d:=by omega
theorem mq {x y c:Nat} (h:x * 2 ^ c≤y * 2 ^ c):x≤y:=Nat.le_of_mul_le_mul_right h (aP c)
theorem zR {k a:Nat} (hk:1≤k) (hk2:k≤9999) (h1:10 * a≤1024 * k) (h2:1024 * k≤10 * (a + 1)):∃ s,DF.div (xG k) AA=some s∧Fin s∧a * 2 ^ 1064≤rV s∧rV s≤(a + 1) * 2 ^ 1064:=by
 obtain ⟨f1,f2⟩:=wK (n:=k) (by omega)
 generalize xG k=r at *
 have hd:=zP r
 rw [gm] at f2
 -- the number is a normal one
 have hr52:2 ^ 52≤r:=by
  refine Nat.le_of_not_lt fun h=>?_
  have e1:mj r=r:=by unfold mj; rw [if_pos h]
  have e2:d6 r=0:=by unfold d6; rw [if_pos h]
  rw [e1,e2,Nat.pow_zero,Nat.mul_one] at f2
  have:1 * 2 ^ 1074≤k * 2 ^ 1074:=Nat.mul_le_mul_right _ hk
  have:(2:Nat) ^ 52≤2 ^ 1074:=Nat.pow_le_pow_right (by omega) (by omega)
  omega
 have hd52:2 ^ 52≤mj r:=by unfold mj; rw [if_neg (by omega)]; omega
 have hlog:(mj r).log2=52:=by
  have h0:mj r≠0:=by omega
  have a1:(mj r).log2 < 53:=(Nat.log2_lt h0).2 hd
  have a2:52≤(mj r).log2:=(Nat.le_log2 h0).2 hd52
  omega
 have hp:d6 r≤1036:=by
  refine Nat.le_of_not_lt fun h=>?_
  have b1:2 ^ 52 * 2 ^ 1037≤mj r * 2 ^ d6 r:=Nat.mul_le_mul hd52 (Nat.pow_le_pow_right (by omega) h)
  rw [f2,← Nat.pow_add] at b1
  have b2:k * 2 ^ 1074 < 2 ^ 15 * 2 ^ 1074:=Nat.mul_lt_mul_of_pos_right (by omega) (aP _)
  rw [← Nat.pow_add] at b2
  omega
 have hl10:(5 * 2 ^ 50:Nat).log2=52:=by decide
 have hmore:54 + (5 * 2 ^ 50:Nat).log2 - (mj r).log2=54:=by rw [hlog,hl10]
 have hdiv:DF.div r AA=some (Rg ((2 * (mj r * 2 ^ 54 / (5 * 2 ^ 50)) + (mj r * 2 ^ 54 % (5 * 2 ^ 50) != 0).toNat) * 2 ^ (d6 r + 1120))):=by
  unfold Format.div
  rw [wH,fH f1]
  have hfb:DF.fractionBits + 2=54:=rfl
  rw [hfb]
  unfold Datum.quotient
  dsimp only
  rw [if_neg (by omega),hmore,Nat.shiftLeft_eq,Option.map_some]
  have:((-1074 + (d6 r:Int)) - -49 - (54:Nat) - 1 + 2200).toNat=d6 r + 1120:=by omega
  rw [show (false ^^ false)=false from rfl,kj _ _ (by omega),this]
 obtain ⟨n,hn⟩:∃ n:Nat,n=5 * 2 ^ 50:=⟨_,rfl⟩
 rw [← hn] at hdiv
 obtain ⟨D,hDD⟩:∃ D:Nat,D=mj r * 2 ^ 54:=⟨_,rfl⟩
 rw [← hDD] at hdiv
 refine ⟨_,hdiv,?_⟩
 -- the floor against a zQ number
 have grid5:∀ z:Nat,(z * 2 ^ (1069 - d6 r)) * n * 2 ^ d6 r=5 * z * 2 ^ 1119:=by
  intro z
  rw [hn]
  have:z * 2 ^ (1069 - d6 r) * (5 * 2 ^ 50) * 2 ^ d6 r=5 * z * (2 ^ (1069 - d6 r) * 2 ^ 50 * 2 ^ d6 r):=by
   simp only [Nat.mul_assoc,Nat.mul_left_comm,Nat.mul_comm]
  rw [this,← Nat.pow_add,← Nat.pow_add]
  rw [show 1069 - d6 r + 50 + d6 r=1119 by omega]
 have hD:D * 2 ^ d6 r=512 * k * 2 ^ 1119:=by
  rw [hDD]
  have:mj r * 2 ^ 54 * 2 ^ d6 r=mj r * 2 ^ d6 r * 2 ^ 54:=by simp only [Nat.mul_assoc,Nat.mul_left_comm,Nat.mul_comm]
  rw [this,f2,Nat.mul_assoc,← Nat.pow_add,show 1074 + 54=9 + 1119 by omega,Nat.pow_add,← Nat.mul_assoc,Nat.mul_comm k]
 have hn0:0 < n:=by omega
 have lo:∀ z,5 * z≤512 * k→z * 2 ^ (1069 - d6 r)≤D / n:=by
  intro z hz
  rw [Nat.le_div_iff_mul_le hn0]
  refine mq (c:=d6 r) ?_
  rw [grid5,hD]; exact Nat.mul_le_mul_right _ hz
 have hi:∀ z,512 * k≤5 * z→2 * (D / n) + (D % n != 0).toNat≤2 * (z * 2 ^ (1069 - d6 r)):=by
  intro z hz
  have hle:D≤z * 2 ^ (1069 - d6 r) * n:=by
   refine mq (c:=d6 r) ?_
   rw [grid5,hD]; exact Nat.mul_le_mul_right _ hz
  generalize z * 2 ^ (1069 - d6 r)=Z at *
  have hdm:=Nat.div_add_mod D n
  have h3:D / n≤Z:=by
   rw [← Nat.mul_div_cancel Z hn0]; exact Nat.div_le_div_right hle
  by_cases h0:D % n=0
  ·simp [h0]; omega
  ·have h4:D / n < Z:=by
    refine Nat.lt_of_le_of_ne h3 fun e=>?_
    rw [e,Nat.mul_comm] at hdm
    omega
   have h5:(D % n != 0).toNat=1:=by simp [h0]
   omega
 have sc:∀ z:Nat,z * 2 ^ 1064 * 2 ^ 1126=2 * (z * 2 ^ (1069 - d6 r)) * 2 ^ (d6 r + 1120):=by
  intro z
  have:2 * (z * 2 ^ (1069 - d6 r)) * 2 ^ (d6 r + 1120)=z * (2 ^ 1 * 2 ^ (1069 - d6 r) * 2 ^ (d6 r + 1120)):=by
   simp only [Nat.mul_assoc,Nat.mul_left_comm,Nat.mul_comm,Nat.pow_one]
  rw [this,← Nat.pow_add,← Nat.pow_add,Nat.mul_assoc,← Nat.pow_add]
  rw [show 1 + (1069 - d6 r) + (d6 r + 1120)=1064 + 1126 by omega]
 have hlo:a * 2 ^ 1064 * 2 ^ 1126≤(2 * (D / n) + (D % n != 0).toNat) * 2 ^ (d6 r + 1120):=by
  rw [sc]
  have:=lo a (by omega)
  exact Nat.mul_le_mul_right _ (by omega)
 have hhi:(2 * (D / n) + (D % n != 0).toNat) * 2 ^ (d6 r + 1120)≤(a + 1) * 2 ^ 1064 * 2 ^ 1126:=by
  rw [sc]
  exact Nat.mul_le_mul_right _ (hi (a + 1) (by omega))
 have hb:a + 1 < 2 ^ 53:=by omega
 exact lp hlo hhi hb
theorem oY {c k:Nat} (h1:1024 * k < c + 512) (h2:c < 1024 * k + 512):jI c 10=k:=by
 unfold jI; split<;>omega
theorem uq (c:Nat):jI (c * 2 ^ 1064) 1074=jI c 10:=iB c 10 1064
theorem n5 {v a b k:Nat} (h1:a * 2 ^ 1064≤v) (h2:v≤b * 2 ^ 1064) (hb:b < 2 ^ 40) (h3:1024 * k < 10 * a + 512) (h4:10 * b < 1024 * k + 512):xH v=k:=by
 have e:∀ z:Nat,10 * (z * 2 ^ 1064)=10 * z * 2 ^ 1064:=fun z=>by rw [Nat.mul_assoc]
 have hx:=lp (N:=10 * v * 2 ^ 1126) (a:=10 * a) (b:=10 * b) (by rw [← e]; exact Nat.mul_le_mul_right _ (Nat.mul_le_mul_left _ h1)) (by rw [← e]; exact Nat.mul_le_mul_right _ (Nat.mul_le_mul_left _ h2)) (by omega)
 obtain ⟨_,g1,g2⟩:=hx
 have m1:=mh g1 1074
 have m2:=mh g2 1074
 rw [uq] at m1 m2
 have hab:a≤b:=mq (Nat.le_trans h1 h2)
 have r1:=oY (c:=10 * a) (k:=k) (by omega) (by omega)
 have r2:=oY (c:=10 * b) (k:=k) (by omega) (by omega)
 have:xH v=jI (rV (Rg (10 * v * 2 ^ 1126))) 1074:=rfl
 omega
theorem qW:30 * 2 ^ 1064≤rV gp:=by decide +kernel
theorem n6:rV gp≤31 * 2 ^ 1064:=by decide +kernel
theorem Ek:1023897 * 2 ^ 1064≤rV mJ:=by decide +kernel
theorem ur:DF.div (xG 9999) AA=some mJ:=by decide +kernel
theorem CN:DF.div (xG 0) AA=some 0:=by decide +kernel
theorem wR:xH (rV gp)=0:=by decide +kernel
def near (off k:Nat):Prop:=DH off 0=false→DI off mJ=false→DK off=true∧tk off=k
theorem n7 {v:Nat} {k:Nat} (hf:Fin v) (ht:xH (rV v)=k):near v k:=by
 intro h1 h2
 rw [wP,gn hf,qU] at h2
 simp only [AD,decide_eq_false_iff_not] at h2
 exact ⟨nZ.2 ⟨rV v,gn hf,by omega⟩,by rw [uo (gn hf)]; exact ht⟩
theorem back {k:Nat} (hk:k≤9999):∃ s u d,DF.div (xG k) AA=some s∧DF.add s gp=some u∧DF.sub s gp=some d∧s < 2 ^ 64∧u < 2 ^ 64∧DK s=true∧tk s=k∧near u k∧near d k∧d < 2 ^ 64:=by
 by_cases h0:k=0
 ·subst h0
  have hd:DF.sub 0 gp=some (2 ^ 63 + gp):=by decide +kernel
  have hu:DF.add 0 gp=some gp:=by decide +kernel
  refine ⟨0,gp,2 ^ 63 + gp,CN,hu,hd,by omega,by unfold gp; omega,nZ.2 ⟨0,qT,by omega⟩,by rw [uo (a:=0) qT]; exact CM,n7 lq wR,?_,by unfold gp; omega⟩
  intro h1
  rw [wO,wL lq,qT] at h1
  simp only [AD,decide_eq_false_iff_not] at h1
  have:0 < rV gp:=by decide +kernel
  omega
 ·obtain ⟨s,h1,h2,h3,h4⟩:=zR (k:=k) (a:=1024 * k / 10) (by omega) hk (by omega) (by omega)
  generalize ha:1024 * k / 10=a at *
  have ha1:10 * a≤1024 * k:=by omega
  have ha2:1024 * k≤10 * a + 9:=by omega
  have hs999:rV s≤rV mJ:=by
   by_cases h9:k=9999
   ·subst h9
    rw [ur] at h1
    cases h1
    exact Nat.le_refl _
   ·refine Nat.le_trans h4 (Nat.le_trans (Nat.mul_le_mul_right _ (by omega)) Ek)
  have hts:xH (rV s)=k:=n5 h3 h4 (by omega) (by omega) (by omega)
  have hsub:rV gp≤rV s:=Nat.le_trans n6 (Nat.le_trans (Nat.mul_le_mul_right _ (by omega)) h3)
  have hU:=lp (N:=(rV s + rV gp) * 2 ^ 1126) (a:=a + 30) (b:=a + 1 + 31) (Nat.mul_le_mul_right _ (by rw [Nat.add_mul]; exact Nat.add_le_add h3 qW)) (Nat.mul_le_mul_right _ (by rw [Nat.add_mul (a + 1)]; exact Nat.add_le_add h4 n6)) (by omega)
  have hD:=lp (N:=(rV s - rV gp) * 2 ^ 1126) (a:=a - 31) (b:=a + 1 - 30) (Nat.mul_le_mul_right _ (by rw [Nat.sub_mul]; exact qV h3 n6)) (Nat.mul_le_mul_right _ (by rw [Nat.sub_mul]; exact qV h4 qW)) (by omega)
  refine ⟨s,_,_,h1,add_pos h2 lq,sub_pos h2 lq hsub,?_,?_,nZ.2 ⟨rV s,gn h2,hs999⟩,by rw [uo (gn h2)]; exact hts,?_,?_,?_⟩
  ·unfold Fin at h2; omega
  ·have:=hU.1; unfold Fin at this; omega
  ·exact n7 hU.1 (n5 hU.2.1 hU.2.2 (by omega) (by omega) (by omega))
  ·exact n7 hD.1 (n5 hD.2.1 hD.2.2 (by omega) (by omega) (by omega))
  ·have:=hD.1; unfold Fin at this; omega
end Go.Eng
namespace Go.Eng
open Go
abbrev Fl (x:Nat):AV:=.float .f64 x
theorem CP (x y:Nat):bB .geq (.float .f64 x) (.float .f64 y)=some (.bool (DE x y)):=rfl
theorem CQ (x y:Nat):bB .leq (.float .f64 x) (.float .f64 y)=some (.bool (DG x y)):=rfl
theorem CR (x y:Nat):bB .gtr (.float .f64 x) (.float .f64 y)=some (.bool (DI x y)):=rfl
theorem CS (x y:Nat):bB .lss (.float .f64 x) (.float .f64 y)=some (.bool (DH x y)):=rfl
theorem CT (x y:Nat):bB .eql (.float .f64 x) (.float .f64 y)=some (.bool (DJ x y)):=rfl
theorem CU (x y:Nat):bB .neq (.float .f64 x) (.float .f64 y)=some (.bool (!DJ x y)):=rfl
theorem CV (x y:Nat):bB .mul (.float .f64 x) (.float .f64 y)=sn .f64 (DF.mul x y):=rfl
theorem CW (x y:Nat):bB .sub (.float .f64 x) (.float .f64 y)=sn .f64 (DF.sub x y):=rfl
theorem CX (x y:Nat):bB .add (.float .f64 x) (.float .f64 y)=sn .f64 (DF.add x y):=rfl
theorem CY (x y:Nat):bB .quo (.float .f64 x) (.float .f64 y)=sn .f64 (DF.div x y):=rfl
theorem CZ (x:Nat):xL .neg (.float .f64 x)=some (.float .f64 (Op.negFloat .f64 x)):=rfl
theorem wS (r:Nat):sn .f64 (some r)=some (.float .f64 r):=rfl
def xI:=And.intro @wS (And.intro @CP (And.intro @CQ (And.intro @CR (And.intro @CS (And.intro @CT (And.intro @CU (And.intro @CV (And.intro @CW (And.intro @CX (And.intro @CY @CZ))))))))))
def zS (x:Nat):Bool:=!DJ x x
def n8 (x y:Nat):Bool:=((x:Int) == (y:Int)) || zS x && zS y
def uu.Spec (C:bA) (f:Nat):Prop:=∀ s:Nat,C.c f [Fl s] (B (zS s)) none
def ko.Spec (C:bA) (f:Nat):Prop:=∀ x y:Nat,C.c f [Fl x,Fl y] (B (n8 x y)) none
theorem mu (x:Nat):n8 x x=true:=by simp [n8]
section
variable {P:Program} (hm:P.follows .mixedOrders=true) {f:Nat}
include hm
theorem uu.ok (hc:fM P f=some gl):uu.Spec (Pure P) f:=by
 intro s
 refine bT hm hc (by show 1≤6; decide) (aG (keep:=[]) (i:=0) ?_)
 try simp only [I,B,D,RX,↓ KW,seval,gl,Z.H,xI]
 rfl
theorem ko.ok {fN:Nat} (hc:fM P f=some (eK fN)) (hN:uu.Spec (Pure P) fN):ko.Spec (Pure P) f:=by
 intro x y
 refine bT hm hc (by show 2≤18; decide) (aG (keep:=[]) (i:=0) ?_)
 try simp only [I,B,D,RX,↓ KW,seval,eK,Z.H,xI]
 repeat' (first | (refine aO (hN _) ?_; try simp only [I,B,D,RX,↓ KW,seval,xI]) | (((first | refine bY ?_ ?_ | refine aE ?_ ?_ | refine tX ?_ ?_)<;>intro h)<;>try simp only [I,B,D,RX,↓ KW,seval,xI,h]))
 all_goals simp_all [n8,B]
end
end Go.Eng
namespace Go.Eng
open Go
open Go.RowKit (Below)
section
variable {C:bA} {Q:Exit→S→Prop} {K:SV→S→Prop} {J:S→Prop} {X:AV→S→Prop}
variable (sl:List (Nat × SV)) (bx:List (Nat × aN)) (lv:List (Nat × Nat)) (nx:Nat)
theorem zT (b i:Nat):c6 C b i [] J X ⟨sl,bx,lv,nx⟩=J ⟨sl,bx,lv,nx⟩:=rfl
theorem C0 (b i:Nat) (d:Option Nat) (o:uI) (r:List XO):c6 C b i (⟨d,o,none⟩ :: r) J X ⟨sl,bx,lv,nx⟩=bJ C (b + i) o (fun v s'=>c6 C b (i + 1) r J X (s'.put d v)) X ⟨sl,bx,lv,nx⟩:=rfl
theorem zU (b i t:Nat) (w:Bool) (d:Option Nat) (o:uI) (r:List XO):c6 C b i (⟨d,o,some (t,w)⟩ :: r) J X ⟨sl,bx,lv,nx⟩ =
  d9 w (bJ C (b + i) o (fun v s'=>c6 C b (i + 1) r J X (s'.put d v)) X ⟨sl,bx,lv,nx⟩) (c6 C b (i + 1) r J X (S.put ⟨sl,bx,lv,nx⟩ d .undef)) (lk t sl):=by
 simp only [c6,b9,d9]
 cases lk t sl with
 | none=>rfl
 | some v=>cases v with
  | dat a q=>cases a<;>rfl
  | _=>rfl
theorem Fa (id:Nat) (c:aK):bJ C id (.o c) K X ⟨sl,bx,lv,nx⟩=aH C id c K ⟨sl,bx,lv,nx⟩:=rfl
def qX (k:Exit→S→Prop) (n:Nat):AV→S→Prop:=fun p s=>k (.panic (ct p)) { s with nx:=n }
theorem C1 (ops:List XO):aw C (.aB ops) Q ⟨sl,bx,lv,nx⟩=c6 C nx 0 ops (oS (Q .normal) (nx + ops.length)) (qX Q (nx + ops.length)) ⟨sl,bx,lv,nx⟩:=rfl
theorem zV (k:Exit→S→Prop) (n:Nat) (p:AV):qX k n p ⟨sl,bx,lv,nx⟩=k (.panic (ct p)) ⟨sl,bx,lv,n⟩:=rfl
class KX where
 run:SV→List (Nat × aN)→List (Nat × Nat)→Prop
 rx:AV→List (Nat × aN)→Prop
def mw (C:bA) (f:Nat) (as:List AV) (id:Nat) (bx:List (Nat × aN)) (lv:List (Nat × Nat)) (k:SV→List (Nat × aN)→List (Nat × Nat)→Prop) (x:AV→List (Nat × aN)→Prop):Prop :=
 kR C f as id lv (fun v l=>k v bx l)∨(∃ cs,C.n f as cs∧k (.ptr id 0) ((id,⟨cs,[]⟩) :: bx) lv)∨∃ p,C.q f [] (as.map some) p []∧x p bx
def El (C:bA) (f:Nat) (as:List AV) (id:Nat) (bx:List (Nat × aN)) (lv:List (Nat × Nat)) [k:KX]:Prop:=mw C f as id bx lv k.run k.rx
theorem C2 (f:Nat) (as:List AV) (id:Nat) (bx:List (Nat × aN)) (lv:List (Nat × Nat)) (k:SV→List (Nat × aN)→List (Nat × Nat)→Prop) (x:AV→List (Nat × aN)→Prop):mw C f as id bx lv k x=@El C f as id bx lv ⟨k,x⟩:=rfl
@[congr] theorem C3 (f:Nat) {as as':List AV} (id:Nat) (bx:List (Nat × aN)) (lv:List (Nat × Nat)) (k:SV→List (Nat × aN)→List (Nat × Nat)→Prop) (x:AV→List (Nat × aN)→Prop) (h:as=as'):mw C f as id bx lv k x=mw C f as' id bx lv k x:=by rw [h]
theorem bZ {f:Nat} {as:List AV} {id:Nat} {bx:List (Nat × aN)} {lv:List (Nat × Nat)} {k:SV→List (Nat × aN)→List (Nat × Nat)→Prop} {x:AV→List (Nat × aN)→Prop} {r:AV} (h:C.c f as r none) (hk:k (.dat r none) bx lv):@El C f as id bx lv ⟨k,x⟩:=.inl ⟨r,none,h,hk⟩
theorem iE {f:Nat} {as:List AV} {id:Nat} {bx:List (Nat × aN)} {lv:List (Nat × Nat)} {k:SV→List (Nat × aN)→List (Nat × Nat)→Prop} {x:AV→List (Nat × aN)→Prop} {cs:List AV} (h:C.n f as cs) (hk:k (.ptr id 0) ((id,⟨cs,[]⟩) :: bx) lv):@El C f as id bx lv ⟨k,x⟩:=.inr (.inl ⟨cs,h,hk⟩)
theorem zW (id f:Nat) (args:List aD):bJ C id (.call f args) K X ⟨sl,bx,lv,nx⟩=ah (bh ⟨sl,bx,lv,nx⟩ args) fun as=>mw C f as id bx lv (fun v b l=>K v ⟨sl,b,l,nx⟩) (fun p b=>X p ⟨sl,b,lv,nx⟩):=by
 simp only [bJ,aH]
 cases bh ⟨sl,bx,lv,nx⟩ args with
 | none=>simp
 | some as=>rfl
def iF (C:bA) (f:Nat) (css:List (List AV)) (as:List (Option AV)) (ids:List Nat) (id:Nat) (bx:List (Nat × aN)) (lv:List (Nat × Nat)) (k:SV→List (Nat × aN)→List (Nat × Nat)→Prop) (x:AV→List (Nat × aN)→Prop):Prop :=
 me C f css as ids id bx lv k∨∃ v css',C.q f css as v css'∧x v (bE ids css' bx)
def zX (C:bA) (f:Nat) (css:List (List AV)) (as:List (Option AV)) (ids:List Nat) (id:Nat) (bx:List (Nat × aN)) (lv:List (Nat × Nat)) [k:KX]:Prop:=iF C f css as ids id bx lv k.run k.rx
theorem zY (f:Nat) (css:List (List AV)) (as:List (Option AV)) (ids:List Nat) (id:Nat) (bx:List (Nat × aN)) (lv:List (Nat × Nat)) (k:SV→List (Nat × aN)→List (Nat × Nat)→Prop) (x:AV→List (Nat × aN)→Prop):iF C f css as ids id bx lv k x=@zX C f css as ids id bx lv ⟨k,x⟩:=rfl
@[congr] theorem AE (f:Nat) {css css':List (List AV)} {as as':List (Option AV)} {ids ids':List Nat} (id:Nat) (bx:List (Nat × aN)) (lv:List (Nat × Nat)) (k:SV→List (Nat × aN)→List (Nat × Nat)→Prop) (x:AV→List (Nat × aN)→Prop) (h1:css=css') (h2:as=as') (h3:ids=ids'):iF C f css as ids id bx lv k x=iF C f css' as' ids' id bx lv k x:=by rw [h1,h2,h3]
theorem aq {f:Nat} {css:List (List AV)} {as:List (Option AV)} {ids:List Nat} {id:Nat} {bx:List (Nat × aN)} {lv:List (Nat × Nat)} {k:SV→List (Nat × aN)→List (Nat × Nat)→Prop} {x:AV→List (Nat × aN)→Prop} {r:AV} {css':List (List AV)} (h:C.p f css as r none css') (hk:k (.dat r none) (bE ids css' bx) lv):@zX C f css as ids id bx lv ⟨k,x⟩:=.inl ⟨r,none,css',h,hk⟩
theorem dP {f:Nat} {css:List (List AV)} {as:List (Option AV)} {ids:List Nat} {id:Nat} {bx:List (Nat × aN)} {lv:List (Nat × Nat)} {k:SV→List (Nat × aN)→List (Nat × Nat)→Prop} {x:AV→List (Nat × aN)→Prop} {p:AV} {css':List (List AV)} (h:C.q f css as p css') (hk:x p (bE ids css' bx)):@zX C f css as ids id bx lv ⟨k,x⟩:=.inr ⟨p,css',h,hk⟩
def jK (C:bA) (f id:Nat) (bx:List (Nat × aN)) (lv:List (Nat × Nat)) (as':List (Option AV)) (bs:List Nat) (k:SV→List (Nat × aN)→List (Nat × Nat)→Prop) (x:AV→List (Nat × aN)→Prop) (p:List (Option AV) × List Nat):Prop :=
 bz (p.2++bs)=true∧ah (aC bx (p.2++bs)) fun css=>iF C f css (p.1++as') (p.2++bs) id bx lv k x
theorem uv (f id:Nat) (as as':List (Option AV)) (ids bs:List Nat) (k:SV→List (Nat × aN)→List (Nat × Nat)→Prop) (x:AV→List (Nat × aN)→Prop):jK C f id bx lv as' bs k x (as,ids)=(bz (ids++bs)=true∧ah (aC bx (ids++bs)) fun css=>iF C f css (as++as') (ids++bs) id bx lv k x):=rfl
theorem wT (id f:Nat) (args:List aD):bJ C id (.aI f args) K X ⟨sl,bx,lv,nx⟩=ah (br ⟨sl,bx,lv,nx⟩ args) (jK C f id bx lv [] [] (fun v b l=>K v ⟨sl,b,l,nx⟩) (fun p b=>X p ⟨sl,b,lv,nx⟩)):=by
 simp only [bJ,aH]
 cases br ⟨sl,bx,lv,nx⟩ args with
 | none=>simp
 | some p =>
  simp only [aj,jK,List.append_nil]
  cases aC bx p.2 with
  | none=>simp
  | some css =>
   exact (propext and_or_left).symm
def iG (C:bA) (id:Nat) (b:Bool) (g:aD) (args:List aD) (K:SV→S→Prop) (X:AV→S→Prop) (s:S):Option SV→Prop
 | some (.fK f as bs)=>ah (br s args) (jK C f id s.boxes s.live as bs (fun v b l=>K v ⟨s.slots,b,l,s.nx⟩) (fun p b=>X p ⟨s.slots,b,s.live,s.nx⟩))
 | _=>aH C id (if b then .b8 g args else .ee g args) K s
theorem wU (id:Nat) (b:Bool) (g:aD) (args:List aD):bJ C id (.ee b g args) K X ⟨sl,bx,lv,nx⟩=iG C id b g args K X ⟨sl,bx,lv,nx⟩ (aQ ⟨sl,bx,lv,nx⟩ g):=by
 simp only [bJ]
 cases aQ ⟨sl,bx,lv,nx⟩ g with
 | none=>rfl
 | some v=>cases v<;>rfl
@[congr] theorem AF (id:Nat) (b:Bool) (g:aD) (args:List aD) (K:SV→S→Prop) (X:AV→S→Prop) (s:S) {v v':Option SV} (h:v=v'):iG C id b g args K X s v=iG C id b g args K X s v':=by rw [h]
theorem uw (id:Nat) (b:Bool) (g:aD) (args:List aD) (f:Nat) (as:List (Option AV)) (bs:List Nat):iG C id b g args K X ⟨sl,bx,lv,nx⟩ (some (.fK f as bs))=ah (br ⟨sl,bx,lv,nx⟩ args) (jK C f id bx lv as bs (fun v b l=>K v ⟨sl,b,l,nx⟩) (fun p b=>X p ⟨sl,b,lv,nx⟩)):=rfl
theorem ux (id:Nat) (g:aD) (args:List aD) (s:S) (a:AV) (q:Option Nat):iG C id true g args K X s (some (.dat a q))=aH C id (.b8 g args) K s:=rfl
theorem uy (id:Nat) (g:aD) (args:List aD) (s:S) (a:AV) (q:Option Nat):iG C id false g args K X s (some (.dat a q))=aH C id (.ee g args) K s:=rfl
def wV (f:Nat) (k:SV→Prop) (p:List (Option AV) × List Nat):Prop:=k (.fK f p.1 p.2)
theorem C4 (id f:Nat) (caps:List aD):bJ C id (.Dp f caps) K X ⟨sl,bx,lv,nx⟩=ah (br ⟨sl,bx,lv,nx⟩ caps) (wV f fun v=>K v ⟨sl,bx,lv,nx⟩):=rfl
theorem zZ (f:Nat) (k:SV→Prop) (as:List (Option AV)) (bs:List Nat):wV f k (as,bs)=k (.fK f as bs):=rfl
theorem C5 (id:Nat) (x:aD):bJ C id (.AN x) K X ⟨sl,bx,lv,nx⟩=ah (ai ⟨sl,bx,lv,nx⟩ x) fun a=>cO a=true∧X a ⟨sl,bx,lv,nx⟩:=rfl
theorem C6 (id t:Nat) (x:aD):bJ C id (.AO t x) K X ⟨sl,bx,lv,nx⟩=ah (ai ⟨sl,bx,lv,nx⟩ x) fun a=>dh a none=true∧K (.dat (.iface t a) none) ⟨sl,bx,lv,nx⟩:=rfl
theorem C7 (id t:Nat) (z:AV) (x:aD):bJ C id (.As t z x) K X ⟨sl,bx,lv,nx⟩=ah (ai ⟨sl,bx,lv,nx⟩ x) fun a=>ah (pJ t z a) fun v=>K (.dat v none) ⟨sl,bx,lv,nx⟩:=rfl
theorem C8 (id:Nat) (neg:Bool) (x:aD):bJ C id (.AP neg x) K X ⟨sl,bx,lv,nx⟩=ah (ai ⟨sl,bx,lv,nx⟩ x) fun a=>ah (q5 neg a) fun v=>K (.dat (.bool v) none) ⟨sl,bx,lv,nx⟩:=rfl
theorem C9 (id:Nat) (neg:Bool) (x:aD):bJ C id (.uK neg x) K X ⟨sl,bx,lv,nx⟩=ah (aQ ⟨sl,bx,lv,nx⟩ x) fun a=>ah (mE neg a) fun v=>K (.dat (.bool v) none) ⟨sl,bx,lv,nx⟩:=rfl
theorem Da (id e bytes:Nat) (l c:aD):bJ C id (.AQ e bytes l c) K X ⟨sl,bx,lv,nx⟩=ah (ai ⟨sl,bx,lv,nx⟩ l) fun a=>ah (idxOf a) fun l=>ah (ai ⟨sl,bx,lv,nx⟩ c) fun b=>ah (idxOf b) fun c=>(0≤l∧l≤c∧c * bytes≤140737488355328)∧K (.raw id l.toNat) ⟨sl,bx,(id,e) :: lv,nx⟩:=rfl
def wW (e id:Nat) (s:S) (b:Option AV) (k:SV→S→Prop):SV→Prop
 | .raw q n=>ah b fun b=>ah (rowsOf b) fun ys=>(ys.length=n∧∀ r∈ys,r.length=1)∧bF q s.live=some e∧k (.dat (.int .i64 n) none) { s with slots:=mF q n (.sl ys) id s.slots,live:=(id,e) :: eu q s.live }
 | _=>False
theorem Db (id e:Nat) (x y:aD):bJ C id (.AR e x y) K X ⟨sl,bx,lv,nx⟩=ah (aQ ⟨sl,bx,lv,nx⟩ x) (wW e id ⟨sl,bx,lv,nx⟩ (ai ⟨sl,bx,lv,nx⟩ y) K):=by
 show ah _ _=ah _ _
 cases aQ ⟨sl,bx,lv,nx⟩ x with
 | none=>rfl
 | some v=>cases v<;>rfl
theorem z0 (id e q n:Nat) (b:Option AV):wW e id ⟨sl,bx,lv,nx⟩ b K (.raw q n)=ah b fun b=>ah (rowsOf b) fun ys=>(ys.length=n∧∀ r∈ys,r.length=1)∧bF q lv=some e∧K (.dat (.int .i64 n) none) ⟨mF q n (.sl ys) id sl,bx,(id,e) :: eu q lv,nx⟩:=rfl
@[congr] theorem Em (e id:Nat) (s:S) {b b':Option AV} (k:SV→S→Prop) {v v':SV} (h:b=b') (hv:v=v'):wW e id s b k v=wW e id s b' k v':=by rw [h,hv]
theorem wX (q n:Nat) (a:AV) (id:Nat):mF q n a id []=[]:=rfl
theorem z1 (q n:Nat) (a:AV) (id t:Nat) (v:SV) (r:List (Nat × SV)):mF q n a id ((t,v) :: r)=(t,lG q n a id v) :: mF q n a id r:=rfl
theorem z3 (q n:Nat) (a:AV) (id:Nat):lG q n a id (.raw q n)=.dat a (some id):=by simp [lG]
theorem z4 (q n:Nat) (a b:AV) (id:Nat) (m:Option Nat):lG q n a id (.dat b m)=.dat b m:=rfl
theorem z5 (q n:Nat) (a:AV) (id b o:Nat):lG q n a id (.ptr b o)=.ptr b o:=rfl
theorem z6 (q n:Nat) (a:AV) (id:Nat) (cs:List AV):lG q n a id (.rp cs)=.rp cs:=rfl
theorem z7 (q n:Nat) (a:AV) (id:Nat):lG q n a id .undef=.undef:=rfl
theorem z8 (b:Nat) (cs:List AV) (q n:Nat):fT b cs (.raw q n)=.raw q n:=rfl
theorem z9 (t:Nat) (z:AV):pJ t z .bV=some (.kY [z,.bool false]):=rfl
theorem Aa (t:Nat) (z a:AV):pJ t z (.iface t a)=some (.kY [a,.bool true]):=by simp [pJ]
theorem Ab (neg:Bool):q5 neg .bV=some !neg:=rfl
theorem Ac (neg:Bool) (t:Nat) (a:AV):q5 neg (.iface t a)=some neg:=rfl
theorem Ad (neg:Bool) (b o:Nat):mE neg (.ptr b o)=some neg:=rfl
theorem Ae (neg:Bool) (cs:List AV):mE neg (.rp cs)=some neg:=rfl
theorem Af (neg:Bool) (q:Option Nat):mE neg (.dat .jS q)=some !neg:=rfl
theorem Dc (b:Nat) (cs:List AV) (f:Nat) (as:List (Option AV)) (bs:List Nat):fT b cs (.fK f as bs)=.fK f as bs:=rfl
theorem En (t:Nat) (a:AV) (q:Option Nat):dh (.iface t a) q=true:=rfl
theorem Dd (q:Option Nat):dh .bV q=true:=rfl
theorem wY (t:Nat) (a:AV):AV.cells (.iface t a)=[.iface t a]:=rfl
theorem De (t:Nat) (a:AV):cR (.iface t a)=.dat (.iface t a) none:=rfl
theorem Ag:cR .bV=.dat .bV none:=rfl
theorem Ah (k:S→Prop) (s:S) (c:List PanicEntry):dJ k Q (.panic c) s=Q (.panic c) s:=rfl
theorem Df (id:Nat) (s:S) (c:List PanicEntry):cL id Q (.panic c) s=Q (.panic c) s:=rfl
theorem Eo (l:Nat) (k:S→Prop) (s:S) (c:List PanicEntry):fV l k Q (.panic c) s=Q (.panic c) s:=rfl
theorem Ep (s:S) (c:List PanicEntry):nG Q (.panic c) s=Q (.panic c) s:=rfl
theorem Dg (t:Nat) (k k':IntKind) (x y:Int):cO (.iface t (.agg [.int k x,.int k' y]))=true:=rfl
@[congr] theorem Er (id:Nat) (o:uI) (s:S):bJ C id o K X s=bJ C id o K X s:=rfl
@[congr] theorem DL (b i:Nat) (l:List XO) (s:S):c6 C b i l J X s=c6 C b i l J X s:=rfl
@[congr] theorem DM (n:Nat) (p:AV) (s:S):qX Q n p s=qX Q n p s:=rfl
@[congr] theorem Es (f:Nat) (k:SV→Prop) {p p':List (Option AV) × List Nat} (h:p=p'):wV f k p=wV f k p':=by rw [h]
end
def ax :=
 And.intro @zT (And.intro @C0 (And.intro @zU (And.intro @Fa (And.intro @C1 (And.intro @zV (And.intro @zW (And.intro @uv (And.intro @wT (And.intro @wU (And.intro @uw (And.intro @ux (And.intro @uy (And.intro @C4 (And.intro @zZ (And.intro @C5 (And.intro @C6 (And.intro @C7 (And.intro @C8 (And.intro @C9 (And.intro @Da (And.intro @Db (And.intro @z0 (And.intro @wX (And.intro @z1 (And.intro @z3 (And.intro @z4 (And.intro @z5 (And.intro @z6 (@z7)))))))))))))))))))))))))))))
def ay :=
 And.intro @z8 (And.intro @z9 (And.intro @Aa (And.intro @Ab (And.intro @Ac (And.intro @Ad (And.intro @Ae (And.intro @Af (And.intro @Dc (And.intro @En (And.intro @Dd (And.intro @wY (And.intro @De (And.intro @Ag (And.intro @Ah (And.intro @Df (And.intro @Eo (And.intro @Ep (@Dg))))))))))))))))))
def az:=And.intro @C2 @zY
def wZ (p:AV) (css:List (List AV)):Exit→S→Prop
 | .panic c,s=>c=ct p∧cS s.boxes 0 css
 | _,_=>False
theorem Ai (p:AV) (css:List (List AV)) (s:S):wZ p css (.panic (ct p)) s=cS s.boxes 0 css:=by simp [wZ]
def Aj (res:List cn) (cs:List AV):Exit→S→Prop
 | .normal,s | .ret,s=>match res with
  | [.tmp t]=>match lk t s.slots with
   | some (.ptr b 0)=>4≤b∧ah (aS b s.boxes) fun x=>x.cells=cs
   | _=>False
  | _=>False
 | _,_=>False
section
variable {P:Program}
theorem n9 {w:World} {π:Nat→Nat→Prop} {Bs:List Nat} {vs:List Value} {css:List (List AV)} {args:List (Option AV)} {nt:Nat} (hn:args.length≤nt) (h4:css.length≤4)
  (hprot:∀ b o,π b o→b < w.heap.size) (hnd:Bs.Nodup) (hbx:aV w π css Bs) (hd:bX w π args Bs vs) :
  aY P nt (cD.cW w Bs) w π (gV css args) { tmps:=vs.toArray++Array.replicate (nt - vs.toArray.size) undef,defers:=[] } w:=by
 have hlen:=iz hd
 obtain ⟨hbl,hbget⟩:=hbx.get
 have hβ:∀ (j B:Nat),Bs[j]? = some B→(cD.cW w Bs).β j=B:=fun j B hj=>by simp [cD.cW,hj]
 refine ⟨Nat.le_refl 4,(cD.cW w Bs).β,fun _=>undef,π,fun n=>n < 4,fun _ h=>h,?_⟩
 have hbox:∀ b x,aS b (gV css args).boxes=some x→∃ B cs,b < 4∧Bs[b]? = some B∧(cD.cW w Bs).β b=B∧x=⟨cs,[]⟩∧fZ (fun _=>undef) w π B ⟨cs,[]⟩:=by
  intro b x hb
  obtain ⟨cs,_,h2,h3⟩:=jc hb
  simp only [Nat.sub_zero] at h2
  have hlt:b < css.length:=(List.getElem?_eq_some_iff.1 h2).1
  have hB:Bs[b]? = some Bs[b]:=List.getElem?_eq_getElem (by omega)
  exact ⟨_,cs,by omega,hB,hβ _ _ hB,h3,hbget b cs _ h2 hB⟩
 refine { size:=?_,slots:=?_,boxes:=?_,inj:=?_,live:=fun q e h=>(by cases h),bk:=fun q q' e e' B h=>(by cases h),bl:=fun q e b x h=>(by cases h),below:=.refl _ _,bP:=Nat.le_refl _,bK:=hprot,bG:=fun _ _ h=>h,aU:=fun _ _ h=>.inl h,fh:=fun _ _=>rfl,dU:=fun _ h=>h,kept:=fun _ _ _=>rfl }
 ·simp; omega
 ·intro t v hv
  obtain ⟨x,_,hx,hor⟩:=iy hd hv
  simp only [Nat.sub_zero] at hx
  have htl:t < vs.length:=(List.getElem?_eq_some_iff.1 hx).1
  have hget:(vs.toArray++Array.replicate (nt - vs.toArray.size) undef)[t]? = some x:=by
   simp [Array.getElem?_append,htl]
   simpa using (List.getElem?_eq_some_iff.1 hx).2
  rcases hor with ⟨a,rfl,hda⟩|⟨j,B,rfl,hB,rfl⟩
  ·exact ⟨⟨x,hget,(fu (U:=fun n=>n < 4) hda).1⟩,(fu (β:=id) (τ:=fun _=>undef) hda).2⟩
  ·refine ⟨⟨_,hget,?_⟩,?_⟩
   ·show Value.pointer (some ⟨B,0,none⟩)=.pointer (some ⟨(cD.cW w Bs).β (0 + j),0,none⟩)
    rw [Nat.zero_add,hβ j B hB]
   ·have:j < Bs.length:=(List.getElem?_eq_some_iff.1 hB).1
    show 0 + j < 4
    omega
 ·intro b x hb
  obtain ⟨B,cs,h1,h2,h3,rfl,h5⟩:=hbox b x hb
  exact ⟨h1,.inr ⟨h1,by rw [h3]; exact List.mem_of_getElem? h2⟩,by rw [h3]; exact h5,fun o q hq=>by cases hq⟩
 ·intro b b' x x' hb hb' e
  obtain ⟨B,_,_,h2,h3,_,_⟩:=hbox b x hb
  obtain ⟨B',_,_,h2',h3',_,_⟩:=hbox b' x' hb'
  rw [h3,h3'] at e
  subst e
  exact kf hnd b b' B h2 h2'
theorem cU {nt:Nat} {n0:cD} {w:World} {π:Nat→Nat→Prop} {s:S} {a:Act} {fn:Func} {tm:Array Value} {R:Ending→World→Prop} {u:FrameMode} (hu:u≠.run) {dd:List Deferred}
  (main:∀ w',aY P nt n0 w π s a w'→LeavesInM Fence.wide 0 P fn tm R dd u w') :
  ∀ (Ds:List Nat) (w':World),Ds.Nodup→(∀ D∈Ds,n0.n≤D∧w'.heap[D]? = some (.deferred (some [])))→aY P nt n0 w π s a w'→w.heap.size≤n0.n→LeavesInM Fence.wide 0 P fn tm R (Ds.map tc++dd) u w'
 | [],w',_,_,R',_=>main w' R'
 | D :: Ds,w',hnd,hD,R',hn=>by
  obtain ⟨h1,h2⟩:=hD D List.mem_cons_self
  simp only [List.nodup_cons] at hnd
  refine ⟨hu,.inl ⟨D,_,rfl,run_takeDeferred h2,?_⟩⟩
  refine cU hu main Ds _ hnd.2 (fun D' hD'=>?_) ((R'.putObj h2 rfl rfl).xy (R'.below.putObj (Nat.le_trans hn h1) h1 _) R'.bP (fun b o hb=>(dc h2 rfl rfl _).trans (R'.kept b o hb))) hn
  obtain ⟨g1,g2⟩:=hD D' (List.mem_cons_of_mem _ hD')
  exact ⟨g1,(World.putObj_heap_other (fun e=>hnd.1 (by rw [← e]; exact hD'))).trans g2⟩
theorem mz (hm:P.follows .mixedOrders=true) {f:FuncId} {cf:gK} {mo:Bool} (hcf:eD mo P f=some cf) {css css':List (List AV)} {args:List (Option AV)} {p:AV} (hn:args.length≤cf.nt) (hl:css'.length=css.length) (h4:css.length≤4)
  (h:aw (Pure P) cf.code (wZ p css') (gV css args)):sI P f css args p css':=by
 obtain ⟨fn,c,cc,hfn,hbody,hrs,hcc,ec,en,hfit,hcall⟩:=jG hcf
 rw [ec] at h
 rw [en] at hn
 refine ⟨hcall,hl,h4,fun w π Bs vs hprot hnd hbx hd=>?_⟩
 have hbl:=hbx.get.1
 have R:=n9 (P:=P) hn h4 hprot hnd hbx hd
 refine callsIn_wide.1 (callsIn_of_wp_marks (n:=0) (F:=Fence.wide) hfn hbody trivial (wpIn_mono (gi (gT hm c cc hcc hfit _ (fun _=>False) ⟨#[],[]⟩ (fun _ h=>h.elim) none 0 w _ _ _ _ ⟨R,fun l h=>by (cases h),⟨[],rfl,.nil,by simp⟩,fun _ h=>h.elim⟩ h)) ?_))
 rintro e a' w' ⟨s,hq,R',_,⟨Ds,hm1,hm2,hm3⟩,_⟩
 cases e with
 | panic ch =>
  obtain ⟨rfl,hho⟩:=hq
  show LeavesInM _ _ _ _ _ _ a'.defers _ _
  rw [hm1]
  refine cU (by simp) (fun w' R'=>?_) Ds w' hm2 hm3 R' (Nat.le_refl _)
  obtain ⟨_,β,τ,π',U,hU,R'⟩:=R'
  have hB:=R'.qL hbl h4 hl hho
  exact ⟨π',rfl,R'.below,R'.bG,fun b o h=>(R'.aU b o h).imp id (fun k=>k.elim id (fun k=>absurd h (eI hB b k o))),R'.bK,hB⟩
 | _=>exact hq.elim
theorem uz (hm:P.follows .mixedOrders=true) {f:FuncId} {cf:gK} {mo:Bool} (hcf:eD mo P f=some cf) {args:List AV} {cs:List AV} (hn:args.length≤cf.nt)
    (h:aw (Pure P) cf.code (Aj cf.res cs) (gV [] (args.map some))):xq P f args cs:=by
  obtain ⟨fn,c,cc,hfn,hbody,hrs,hcc,ec,en,hfit,hcall⟩:=jG hcf
  rw [ec] at h
  rw [en] at hn
  refine ⟨hcall,fun w π vs hprot hd=>?_⟩
  have R:=n9 (P:=P) (nt:=fn.ntmps) (css:=[]) (args:=args.map some) (by simpa using hn) (by simp) hprot List.nodup_nil trivial (i6 hd)
  refine callsIn_wide.1 (callsIn_of_wp_marks (n:=0) (F:=Fence.wide) hfn hbody trivial (wpIn_mono (gi (gT hm c cc hcc hfit _ (fun _=>False) ⟨#[],[]⟩ (fun _ h=>h.elim) none 0 w _ _ _ _ ⟨R,fun l h=>by (cases h),⟨[],rfl,.nil,by simp⟩,fun _ h=>h.elim⟩ h)) ?_))
  have main:∀ (s:S) (a':Act) (w':World),Aj cf.res cs .ret s→aY P fn.ntmps (cD.cW w []) w π s a' w' →
      ∃ v,(results fn a'.tmps).run P w'=.ok v w'∧∃ B π',Ending.returned v=.returned (.pointer (some ⟨B,0,none⟩))∧w.heap.size≤B∧Below w.heap.size w w'∧(∀ b o,π b o→π' b o)∧(∀ b o,π' b o→π b o∨w.heap.size≤b) ∧
        (∀ b o,π' b o→b < w'.heap.size)∧fZ (fun _=>undef) w' π' B ⟨cs,[]⟩:=by
    rintro s a' w' hq ⟨_,β,τ,π',U,hU,R'⟩
    simp only [Aj] at hq
    split at hq<;>try (exact hq.elim)
    rename_i t hres
    split at hq<;>try (exact hq.elim)
    rename_i b hlk
    obtain ⟨h4,hq⟩:=hq
    obtain ⟨x,hx,hxc⟩:=af hq
    obtain ⟨⟨y,hy,hry⟩,_⟩:=R'.slots t _ hlk
    have hry:y=.pointer (some ⟨β b,0,none⟩):=hry
    obtain ⟨g1,g2,g3,g4⟩:=R'.boxes b x hx
    have hge:w.heap.size≤β b:=by
      rcases g2 with h|h
      · exact h
      · omega
    have hr:fn.results.toList=[.tmp t]:=by
      rw [hres] at hrs
      cases hf:fn.results.toList with
      | nil=>rw [hf] at hrs; simp at hrs
      | cons rv rvs =>
        rw [hf] at hrs
        simp only [List.mapM_cons,Option.bind_eq_bind,Option.bind_eq_some_iff,Option.pure_def,Option.some.injEq] at hrs
        obtain ⟨cr,hcr,crs,hcrs,e⟩:=hrs
        cases e
        cases rvs with
        | nil =>
          cases rv with
          | tmp t'=>cases hcr; rfl
          | cell a t'=>simp only [nJ,Option.map_eq_some_iff,reduceCtorEq,and_false,exists_false] at hcr
        | cons x xs =>
          simp only [List.mapM_cons,Option.bind_eq_bind,Option.bind_eq_some_iff,Option.pure_def,Option.some.injEq] at hcrs
          obtain ⟨_,_,_,_,h⟩:=hcrs
          cases h
    refine ⟨y,?_,β b,π',by rw [hry],hge,R'.below.below (fun _ h=>by cases h),R'.bG,fun b o h=>(R'.aU b o h).imp id (fun k=>k.elim id (fun k=>by cases k)),R'.bK,?_⟩
    · have e:fn.results=#[.tmp t]:=Array.toList_inj.1 (by simpa using hr)
      rw [ja,e]
      simp [eW,hy]
    · have:=g3.j3 (τ':=fun _=>undef)
      rwa [hxc] at this
  rintro e a' w' ⟨s,hq,R',_,⟨Ds,hm1,hm2,hm3⟩,_⟩
  have hm1:a'.defers=Ds.map tc:=by simpa using hm1
  cases e with
  | normal=>show LeavesInM _ _ _ _ _ _ a'.defers _ _; rw [hm1]; exact cg (main s a' · hq) Ds w' hm2 hm3 R' (Nat.le_refl _)
  | ret=>show LeavesInM _ _ _ _ _ _ a'.defers _ _; rw [hm1]; exact cg (main s a' · hq) Ds w' hm2 hm3 R' (Nat.le_refl _)
  | _=>exact hq.elim
end
end Go.Eng
namespace Go.Eng
open Go
open Go.RowKit (Below)
def isRec (o:Oper):Option Nat :=
 match o.op,o.dst,o.guard with
 | .call ⟨.builtin .recover,as,_⟩,some d,none=>if as.isEmpty then some d else none
 | _,_,_=>none
def bS:ak→Bool
 | .skip | .sj _ | .aB _=>true
 | .seq a b | .join a b | .cond _ a b=>bS a && bS b
 | _=>false
structure uA where
 nt:Nat
 d:Nat
 ops:List XO
 code:ak
def qb (P:Program) (f:FuncId):Option uA :=
 match P.funcs[f]? with
 | some fn=>match fn.body with
  | some (.seq (.region _ ops false) rest)=>match ops.toList with
   | o :: os=>match isRec o,gJ P ops os,aF true P rest with
    | some d,some xs,some cc=>if eA fn.ntmps xs && decide (d < fn.ntmps) && cc.fits fn.ntmps && bS cc && aR P f && fn.results.isEmpty then some ⟨fn.ntmps,d,xs,cc⟩ else none
    | _,_,_=>none
   | []=>none
  | _=>none
 | none=>none
def rX (css:List (List AV)):Exit→S→Prop
 | .normal,s | .ret,s=>cS s.boxes 0 css
 | _,_=>False
theorem w4 (css:List (List AV)) (s:S):rX css .normal s=cS s.boxes 0 css:=rfl
theorem w5 (css:List (List AV)) (s:S):rX css .ret s=cS s.boxes 0 css:=rfl
def w6 (rv:AV):Bool:=match rv with
 | .bV=>true
 | p=>cO p
def AG (rv:AV):Value:=match rv with
 | .bV=>.nilIface
 | p=>xM p
section
variable {P:Program} {nt:Nat} {n0:cD} {π0:Nat→Nat→Prop}
theorem Ak {w:World} {π:Nat→Nat→Prop} {rv:AV} (h:w6 rv=true):DV w π rv (AG rv):=by
 cases rv<;>try (simp [w6,cO] at h; done)
 ·rename_i t a
  exact .iface t a _ (.flat h)
 ·exact .bV
theorem w7 {mo:Bool} {x y:Code} {cc:ak} (hc:aF mo P (.seq x y)=some cc):∃ cx cy,aF mo P x=some cx∧aF mo P y=some cy∧(cc=.seq cx cy∨cc=.join cx cy):=by
 simp only [aF] at hc
 split at hc<;>try (cases hc; done)
 rename_i cx cy hcx hcy
 cases hc
 refine ⟨cx,cy,hcx,hcy,?_⟩
 split
 ·exact .inl rfl
 ·exact .inr rfl
theorem kT {mo:Bool} (hm:P.follows .mixedOrders=true):∀ (c:Code) (cc:ak),aF mo P c=some cc→bS cc=true→cc.fits nt=true→∀ (n:Nat) (w0:World) (QA:Exit→S→Prop) (s:S) (a:Act) (w:World),
  aY P nt n0 w0 π0 s a w→aw (Pure P) cc QA s→c.wpIn (FW none) n P (fun e a' w'=>∃ s',QA e s'∧aY P nt n0 w0 π0 s' a' w'∧a'.defers=a.defers) a w:=by
 intro c
 induction c with
 | skip=>intro cc hc _ _ n w0 QA s a w R h; cases hc; exact wpIn_skip ⟨s,h,R,rfl⟩
 | region id ops dY =>
  intro cc hc hpl hf n w0 QA s a w R h
  obtain ⟨h4,β,τ,π,U,hU,R0⟩:=R
  have put:∀ {s':S} {a':Act} {w':World},aY P nt n0 w π0 s' a' w'→aY P nt n0 w0 π0 s' a' w':=fun RN =>
   RN.xy (R0.below.trans RN.below) R0.bP (fun b o h=>(RN.kept b o h).trans (R0.kept b o h))
  simp only [aF] at hc
  split at hc
  ·rename_i hmo
   simp only [Bool.and_eq_true,Bool.not_eq_true'] at hmo
   obtain ⟨_,rfl⟩:=hmo
   simp only [Option.map_eq_some_iff] at hc
   obtain ⟨cos,hcos,rfl⟩:=hc
   refine iQ (w0:=w) hcos hf R0.x4 hU h (T:=fun _=>False) (fun d hd ht=>ht) ?_ ?_
   ·intro s' a' w' β' τ' π' U' hU' hK hp R'
    exact ⟨_,hK,put ⟨by show 4≤s.nx + _; omega,β',τ',π',U',hU',R'.nx _⟩,hp.1⟩
   ·intro p s' a' w' β' τ' π' U' hU' hK hp R'
    exact ⟨_,hK,put ⟨by show 4≤s.nx + _; omega,β',τ',π',U',hU',R'.nx _⟩,hp.1⟩
  split at hc<;>try (cases hc; done)
  rename_i cos hcos
  have fin:(dY=true→fX [] ops.toList cos=true)→aw (Pure P) (.sj cos) QA s→cV nt cos=true→(Code.region id ops dY).wpIn (FW none) n P (fun e a' w'=>∃ s',QA e s'∧aY P nt n0 w0 π0 s' a' w'∧a'.defers=a.defers) a w:=by
   intro hd h hf
   refine jE (w0:=w) hm hcos [] (fun e=>⟨[],[],hd e,rfl,gQ,fun _ _ _ _=>rfl⟩) hf R0.x4 hU (by rw [ia]; exact h) (T:=fun _=>False) (fun d hd ht=>ht) ?_
   intro s' a' w' β' τ' π' U' hU' hK hp R'
   exact ⟨_,hK,put ⟨by show 4≤s.nx + _; omega,β',τ',π',U',hU',R'.nx _⟩,hp.1⟩
  split at hc
  ·split at hc
   ·split at hc<;>try (cases hc; done)
    rename_i hok
    cases hc
    exact fin (fun _=>hok) h hf
   ·split at hc<;>try (cases hc; done)
    cases hc
    simp [bS] at hpl
  ·rename_i hdr
   cases hc
   exact fin (fun e=>absurd e hdr) h hf
 | seq x y ihx ihy =>
  intro cc hc hpl hf n w0 QA s a w R h
  obtain ⟨cx,cy,hcx,hcy,hor⟩:=w7 hc
  have key:bS cx=true→bS cy=true→cx.fits nt=true→cy.fits nt=true→aw (Pure P) cx (dJ (down (aw (Pure P) cy QA)) QA) s→(Code.seq x y).wpIn (FW none) n P (fun e a' w'=>∃ s',QA e s'∧aY P nt n0 w0 π0 s' a' w'∧a'.defers=a.defers) a w:=by
   intro p1 p2 f1 f2 h
   refine wpIn_seq (wpIn_mono (ihx cx hcx p1 f1 n w0 _ s a w R h) ?_)
   rintro e a' w' ⟨s',hq,R',hd⟩
   cases e with
   | normal =>
    obtain ⟨s2,hF,R2⟩:=R'.down hq
    refine wpIn_mono (ihy cy hcy p2 f2 n w0 QA s2 a' w' R2 hF) ?_
    rintro e a2 w2 ⟨s3,h3,R3,hd3⟩
    exact ⟨s3,h3,R3,hd3.trans hd⟩
   | _=>exact ⟨s',hq,R',hd⟩
  rcases hor with rfl|rfl
  ·simp only [bS,Bool.and_eq_true] at hpl
   simp only [ak.fits,Bool.and_eq_true] at hf
   exact key hpl.1 hpl.2 hf.1 hf.2 (ep (fun e s ha=>cv (fun s h=>jW h) (fun _ _ h=>h) ha) h)
  ·simp only [bS,Bool.and_eq_true] at hpl
   simp only [ak.fits,Bool.and_eq_true] at hf
   exact key hpl.1 hpl.2 hf.1 hf.2 h
 | cond cd x y ihx ihy =>
  intro cc hc hpl hf n w0 QA s a w R h
  simp only [aF] at hc
  split at hc<;>try (cases hc; done)
  rename_i c' cx cy hcc hcx hcy
  cases hc
  simp only [bS,Bool.and_eq_true] at hpl
  simp only [ak.fits,Bool.and_eq_true] at hf
  simp only [aw] at h
  obtain ⟨v,hv,h⟩:=af h
  obtain ⟨_,β,τ,π,U,hU,R0⟩:=id R
  have hd:=R0.ai hcc hv
  cases v<;>try (exact h.elim)
  rename_i t
  exact wpIn_cond_split hd.gM (fun e=>ihx cx hcx hpl.1 hf.1 n w0 QA s a w R (h.1 e)) (fun e=>ihy cy hcy hpl.2 hf.2 n w0 QA s a w R (h.2 e))
 | block id c ih=>intro cc hc hpl; simp only [aF,Option.map_eq_some_iff] at hc; obtain ⟨c',hc',rfl⟩:=hc; simp [bS] at hpl
 | loop c ih=>intro cc hc hpl; simp only [aF,Option.map_eq_some_iff] at hc; obtain ⟨c',hc',rfl⟩:=hc; simp [bS] at hpl
 | exit id=>intro cc hc hpl; cases hc; simp [bS] at hpl
 | ret=>intro cc hc hpl; cases hc; simp [bS] at hpl
 | label l=>intro cc hc hpl; cases hc; simp [bS] at hpl
 | goto l=>intro cc hc hpl; cases hc; simp [bS] at hpl
 | scope c ih =>
  intro cc hc hpl
  simp only [aF] at hc
  split at hc<;>try (cases hc; done)
  split at hc<;>try (cases hc; done)
  simp only [Option.map_eq_some_iff] at hc
  obtain ⟨r,_,rfl⟩:=hc
  simp [bS] at hpl
 | rangeFunc g ps as bd ihA ihB =>
  intro cc hc hpl
  simp only [aF] at hc
  split at hc<;>try (cases hc; done)
  split at hc<;>try (cases hc; done)
  cases hc; simp [bS] at hpl
 | _=>intro cc hc; cases hc
theorem kq {F:Fence} {n id:Nat} {ops:Array Oper} {o:Oper} {d:Nat} {Q:Exit→Act→List Frame→World→Prop} {a:Act} {cs cs':List Frame} {w:World} {v:Value} (hF:∀ f,F.fn f) (hro0:F.round=none)
  (h0:ops[0]? = some o) (hrec:isRec o=some d) (hv:recoverD cs=some (v,cs')∨(recoverD cs=none∧v=.nilIface∧cs'=cs))
  (h:wpOpsIn F n P ops (fun e a' w'=>Q e a' cs' w') (List.range' 1 (ops.size - 1)) (a.put (some d) v) w):(Code.region id ops false).wpSIn F n P Q a cs w:=by
 intro b k hb hr hFb hroom
 unfold isRec at hrec
 split at hrec<;>try (cases hrec; done)
 rename_i as tys d' hop hdst hguard
 split at hrec<;>try (cases hrec; done)
 rename_i has
 cases hrec
 have has:as=#[]:=by simpa [Array.isEmpty_iff] using has
 subst has
 have hw:Region.wanted o (yielded ops a.tmps)=true:=by simp [Region.wanted,hguard]
 have hrun:(execOp a.eval o).run P w=.ok .recover w:=by
  simp [execOp,hop,resolve,invoke,go_sem]
 have hsz:0 < ops.size:=(Array.getElem?_eq_some_iff.1 h0).1
 have hrange:List.range ops.size=0 :: List.range' 1 (ops.size - 1):=by
  obtain ⟨m,hm⟩:∃ m,ops.size=m + 1:=⟨ops.size - 1,by omega⟩
  rw [hm,List.range_eq_range',List.range'_succ,Nat.add_sub_cancel]
 have hlen:cs'.length=cs.length:=by
  rcases hv with hv|⟨_,_,rfl⟩
  ·exact recoverD_length hv
  ·rfl
 obtain ⟨e,a',w',hq,harr⟩:=wp_opsIn (P:=P) (F:=F) (n:=n) (ops:=ops) (List.range' 1 (ops.size - 1)) _ w h b k cs' (hr.trans hro0.symm) hFb (hlen ▸ hroom)
 have h1:(lone (b.atR a (.inRegion ops (0 :: List.range' 1 (ops.size - 1)) :: k)) cs w).fenced P F:=fenced_oper hFb hroom h0 (fun f _=>hF f)
 have hg:=stepGR_op (P:=P) (b:=b) (k:=k) (cs:=cs) (w:=w) (rest:=List.range' 1 (ops.size - 1)) h0 hw
 rw [hr,Oper.semAt_none] at hg
 have hfin:∀ v,(b.atR a (.inRegion ops (0 :: List.range' 1 (ops.size - 1)) :: k)).finish v=b.atR (a.put (some d) v) (.inRegion ops (List.range' 1 (ops.size - 1)) :: k):=by
  intro v; rw [Frame.finish_atR,h0]; simp only [Option.bind_some,hdst]
 have hk:(b.atR a (.inRegion ops (0 :: List.range' 1 (ops.size - 1)) :: k)).kind=.deferred:=hb
 have htr:=tryRecover_deferred hk cs
 have hstep:StepsIn (Machine.fenced P F) P (lone (b.atR a (.inRegion ops (0 :: List.range' 1 (ops.size - 1)) :: k)) cs w) (lone (b.atR (a.put (some d) v) (.inRegion ops (List.range' 1 (ops.size - 1)) :: k)) cs' w):=by
  refine .one h1 (step_lone_go ?_)
  rw [hg,← hfin]
  simp only [Frame.atR,hr] at htr ⊢
  rcases hv with hv|⟨hv,rfl,rfl⟩
  ·simp [stepG.apply,hrun,htr,hv]
  ·simp [stepG.apply,hrun,htr,hv]
 rw [← hrange] at hstep
 exact ⟨e,a',cs',w',hlen,hq,.of_steps (.head (fenced_calm hFb hroom rfl) stepR_region hstep) harr⟩
theorem rY {f:FuncId} {cf:uA} (hcf:qb P f=some cf):∃ (fn:Func) (id:Nat) (ops:Array Oper) (rest:Code) (o:Oper) (os:List Oper),P.funcs[f]? = some fn∧fn.body=some (.seq (.region id ops false) rest)∧ops.toList=o :: os∧isRec o=some cf.d∧gJ P ops os=some cf.ops ∧
  aF true P rest=some cf.code∧eA fn.ntmps cf.ops=true∧cf.d < fn.ntmps∧cf.code.fits fn.ntmps=true∧bS cf.code=true∧aR P f=true∧fn.results=#[]∧cf.nt=fn.ntmps:=by
 unfold qb at hcf
 split at hcf<;>try (cases hcf; done)
 rename_i fn hfn
 split at hcf<;>try (cases hcf; done)
 rename_i id ops rest hbody
 split at hcf<;>try (cases hcf; done)
 rename_i o os hops
 split at hcf<;>try (cases hcf; done)
 rename_i d xs cc h1 h2 h3
 split at hcf<;>try (cases hcf; done)
 rename_i hok
 cases hcf
 simp only [Bool.and_eq_true,decide_eq_true_eq] at hok
 obtain ⟨⟨⟨⟨⟨k1,k2⟩,k3⟩,k4⟩,k5⟩,k6⟩:=hok
 exact ⟨fn,id,ops,rest,o,os,hfn,hbody,hops,h1,h2,h3,k1,k2,k3,k4,k5,by simpa [Array.isEmpty_iff] using k6,rfl⟩
theorem jL (hm:P.follows .mixedOrders=true) {f:FuncId} {cf:uA} (hcf:qb P f=some cf) {rv:AV} {css css':List (List AV)} {args:List (Option AV)} (hrv:w6 rv=true) (hn:args.length≤cf.nt) (hl:css'.length=css.length) (h4:css.length≤4)
  (h:c6 (Pure P) 4 1 cf.ops (oS (aw (Pure P) cf.code (rX css')) (5 + cf.ops.length)) (fun _ _=>False) ((gV css args).put (some cf.d) (.dat rv none))):sJ P f rv css args css':=by
 obtain ⟨fn,ri,ops,rest,o,os,hfn,hbody,hops,hrec,hxs,hcc,hfit,hd,hfits,hpl,hcall,hres,hnt⟩:=rY hcf
 rw [hnt] at hn
 refine ⟨hcall,hl,h4,fun w π Bs vs hprot hnd hbx harg=>?_⟩
 have hbl:=hbx.get.1
 obtain ⟨hxl,hxs⟩:=gR hxs
 have hosz:ops.size=os.length + 1:=by rw [← Array.length_toList,hops]; rfl
 have h0:ops[0]? = some o:=by rw [← Array.getElem?_toList,hops]; rfl
 refine callsDIn_of_wpSIn hfn hbody trivial fun c₀ cs hmode=>?_
 -- what is recovered
 obtain ⟨u',hv,hset⟩:∃ u',(recoverD (c₀ :: cs)=some (AG rv,{ c₀ with mode:=u' } :: cs)∨(recoverD (c₀ :: cs)=none∧AG rv=.nilIface∧{ c₀ with mode:=u' } :: cs=c₀ :: cs))∧settle u'=.returning:=by
  cases rv<;>try (simp [w6,cO] at hrv; done)
  ·rename_i t a
   refine ⟨.panicking [{ v:=xM (.iface t a),recovered:=true }],.inl ?_,rfl⟩
   simp only [lI,ct] at hmode
   simp [recoverD,hmode,AG]
  ·refine ⟨.returning,.inr ⟨?_,rfl,?_⟩,rfl⟩
   ·simp only [lI] at hmode; simp [recoverD,hmode]
   ·simp only [lI] at hmode
    have:({ c₀ with mode:=.returning }:Frame)=c₀:=by rw [← hmode]
    rw [this]
 refine wpSIn_seq ?_
 refine kq (fun _=>trivial) rfl h0 hrec hv ?_
 obtain ⟨_,β,τ,π',U,hU,R⟩:=n9 (P:=P) (nt:=fn.ntmps) hn h4 hprot hnd hbx harg
 have R1:=R.put (some cf.d) (v:=.dat rv none) (x:=AG rv) (fun t ht=>by cases ht; exact hd) ⟨Ak hrv,fun t ht=>by cases ht⟩ trivial
 have hpos:(os.length + 1) - 1=cf.ops.length:=by omega
 have post:∀ (s:S) (a':Act) (w':World),rX css' .ret s→aY P fn.ntmps (cD.cW w Bs) w π s a' w'→a'.defers=[] →
   bodyPostS P fn c₀ cs (fun e u' w'=>∃ v π',e=.returned v∧settle u'=.returning∧jr (cD.cW w Bs) w w'∧(∀ b o,π b o→π' b o)∧(∀ b o,π' b o→π b o∨w.heap.size≤b)∧(∀ b o,π' b o→b < w'.heap.size)∧aV w' π' css' Bs) .ret a' ({ c₀ with mode:=u' } :: cs) w':=by
  rintro s a' w' hho ⟨_,β,τ,π',U,hU,R'⟩ hdf
  have hB:=R'.qL hbl h4 hl hho
  refine ⟨hdf,u',rfl,.tuple #[],?_,.tuple #[],π',rfl,hset,R'.below,R'.bG,fun b o h=>(R'.aU b o h).imp id (fun k=>k.elim id (fun k=>absurd h (eI hB b k o))),R'.bK,hB⟩
  rw [ja,hres]
  simp
 have hcosl:((⟨some cf.d,.o (.mv (.k .bV)),none⟩:XO) :: cf.ops).length=ops.size:=by simp [hosz]; omega
 rw [hosz,hpos]
 have:=gS (P:=P) (r:=none) (m:=0) (base:=4) (T:=fun _=>False) (a0:={ tmps:=vs.toArray++Array.replicate (fn.ntmps - vs.toArray.size) undef,defers:=[] }) 1 hcosl
  (fun i o' c hi h1 h2=>?_) (fun i c d hi hdd=>?_) (fun _ _ _ _ _ h=>h) (K:=oS (aw (Pure P) cf.code (rX css')) (5 + cf.ops.length)) (X:=fun _ _=>False)
  (Q:=fun e a' w'=>Exit.thenS (rest.wpSIn Fence.wide 0 P (bodyPostS P fn c₀ cs (fun e u' w'=>∃ v π',e=.returned v∧settle u'=.returning∧jr (cD.cW w Bs) w w'∧(∀ b o,π b o→π' b o)∧(∀ b o,π' b o→π b o∨w.heap.size≤b)∧(∀ b o,π' b o→b < w'.heap.size)∧aV w' π' css' Bs)))
    (bodyPostS P fn c₀ cs (fun e u' w'=>∃ v π',e=.returned v∧settle u'=.returning∧jr (cD.cW w Bs) w w'∧(∀ b o,π b o→π' b o)∧(∀ b o,π' b o→π b o∨w.heap.size≤b)∧(∀ b o,π' b o→b < w'.heap.size)∧aV w' π' css' Bs)) e a' ({ c₀ with mode:=u' } :: cs) w')
  (fun s' a' w' β' τ' π' U' hU' hK hp R'=>?_) (fun _ _ _ _ _ _ _ _ _ h=>h.elim) cf.ops 1 _ (({ tmps:=vs.toArray++Array.replicate (fn.ntmps - vs.toArray.size) undef,defers:=[] }:Act).put (some cf.d) (AG rv)) w β τ π' U (Nat.le_refl _) rfl (by omega) (fun n hn=>by have:=hU n hn; simp only [gV] at this; omega)
  (by exact (gz.refl _ _).put (fun _ _ h=>h) _) R1 h
 ·exact this
 ·cases i with
  | zero=>omega
  | succ i =>
   refine hxs i o' c ?_ (by simpa using h2)
   rw [← Array.getElem?_toList,hops] at h1
   simpa using h1
 ·cases i with
  | zero=>simp at hi; subst hi; cases hdd; exact hd
  | succ i=>exact fc hfit i c d (by simpa using hi) hdd
 ·refine wpSIn_of_wpIn rfl ?_
  have RN:aY P fn.ntmps (cD.cW w Bs) w π { s' with nx:=5 + cf.ops.length } a' w':=⟨by show 4≤5 + _; omega,β',τ',π',U',fun n hn=>by have:=hU' n hn; show n < 5 + _; omega,R'.nx _⟩
  refine wpIn_mono (gi (kT hm rest cf.code hcc hpl hfits 0 w (rX css') _ a' w' RN hK)) ?_
  rintro e a2 w2 ⟨s2,hq,R2,hd2⟩
  have hd2:a2.defers=[]:=hd2.trans hp.1
  cases e with
  | normal=>exact post s2 a2 w2 hq R2 hd2
  | ret=>exact post s2 a2 w2 hq R2 hd2
  | _=>exact hq.elim
end
end Go.Eng
namespace Go.Eng
open Go
open Go.RowKit (Below)
def uB:List Oper→Option (Nat × Array Operand × Nat)
 | [m,d]=>match m.op,m.dst,m.guard,d.op,d.dst,d.guard with
  | .makeFunc (.func g) first caps,some t,none,.defer ⟨.value (.tmp t'),as,_⟩,none,none=>if first.isEmpty && as.isEmpty && t == t' then some (g,caps,t) else none
  | _,_,_,_,_,_=>none
 | _=>none
structure mK where
 nt:Nat
 res:List cn
 pre:ak
 g:Nat
 caps:List aD
 t:Nat
 code:ak
def qc (P:Program) (f:FuncId):Option mK :=
 match P.funcs[f]? with
 | some fn=>match fn.body with
  | some (.seq a (.seq (.region _ ops false) rest))=>match uB ops.toList with
   | some (g,caps,t)=>match aF true P a,cj caps,aF true P rest,fn.results.toList.mapM (nJ P) with
    | some ca,some xs,some cc,some rs=>if ca.fits fn.ntmps && bS ca && decide (t < fn.ntmps) && cc.fits fn.ntmps && !cc.writes.contains t && aR P f && aR P g then some ⟨fn.ntmps,rs,ca,g,xs,t,cc⟩ else none
    | _,_,_,_=>none
   | none=>none
  | _=>none
 | none=>none
def qd (C:bA) (res:List cn) (r:AV) (fr:Option Nat) (css:List (List AV)) (t g:Nat) (as:List (Option AV)) (bs:List Nat) (rv:AV) (s:S):Prop :=
 lk t s.slots=some (.fK g as bs)∧bz bs=true∧ah (aC s.boxes bs) fun cs=>∃ cs',C.d g rv cs as cs'∧pZ res r fr css .ret { s with boxes:=bE bs cs' s.boxes }
def qe (C:bA) (res:List cn) (r:AV) (fr:Option Nat) (css:List (List AV)) (t g:Nat) (as:List (Option AV)) (bs:List Nat):Exit→S→Prop
 | .normal,s | .ret,s=>qd C res r fr css t g as bs .bV s
 | .panic c,s=>∃ p,c=ct p∧cO p=true∧qd C res r fr css t g as bs p s
 | _,_=>False
theorem Am (C:bA) (res:List cn) (r:AV) (fr:Option Nat) (css:List (List AV)) (t g:Nat) (as:List (Option AV)) (bs:List Nat) (s:S):qe C res r fr css t g as bs .normal s=qd C res r fr css t g as bs .bV s:=rfl
theorem An (C:bA) (res:List cn) (r:AV) (fr:Option Nat) (css:List (List AV)) (t g:Nat) (as:List (Option AV)) (bs:List Nat) (s:S):qe C res r fr css t g as bs .ret s=qd C res r fr css t g as bs .bV s:=rfl
theorem iH {C:bA} {res:List cn} {r:AV} {fr:Option Nat} {css:List (List AV)} {t g:Nat} {as:List (Option AV)} {bs:List Nat} {s:S} {p:AV} (hp:cO p=true) (h:qd C res r fr css t g as bs p s):qe C res r fr css t g as bs (.panic (ct p)) s:=⟨p,rfl,hp,h⟩
def DN (C:bA) (cf:mK) (r:AV) (fr:Option Nat) (css:List (List AV)) (s:S):Prop :=
 aw C cf.pre (ow fun s1=>ah (br s1 cf.caps) fun p=>aw C cf.code (qe C cf.res r fr css cf.t cf.g p.1 p.2) { (s1.put (some cf.t) (.fK cf.g p.1 p.2)) with nx:=s1.nx + 2 }) s
def dK (C:bA) (res:List cn) (r:AV) (fr:Option Nat) (css:List (List AV)) (g:Nat) (caps:List aD) (t:Nat) (code:ak):S→Prop:=fun s1=>ah (br s1 caps) fun p=>aw C code (qe C res r fr css t g p.1 p.2) { (s1.put (some t) (.fK g p.1 p.2)) with nx:=s1.nx + 2 }
def DO (C:bA) (res:List cn) (r:AV) (fr:Option Nat) (css:List (List AV)) (g:Nat) (t:Nat) (code:ak) (s:S) (p:List (Option AV) × List Nat):Prop:=aw C code (qe C res r fr css t g p.1 p.2) { (s.put (some t) (.fK g p.1 p.2)) with nx:=s.nx + 2 }
theorem Dh {C:bA} (nt:Nat) (res:List cn) (pre:ak) (g:Nat) (caps:List aD) (t:Nat) (code:ak) (r:AV) (fr:Option Nat) (css:List (List AV)) (s:S):DN C ⟨nt,res,pre,g,caps,t,code⟩ r fr css s=aw C pre (ow (dK C res r fr css g caps t code)) s:=rfl
theorem Et {C:bA} (res:List cn) (r:AV) (fr:Option Nat) (css:List (List AV)) (g:Nat) (caps:List aD) (t:Nat) (code:ak) (sl:List (Nat × SV)) (bx:List (Nat × aN)) (lv:List (Nat × Nat)) (nx:Nat) :
  dK C res r fr css g caps t code ⟨sl,bx,lv,nx⟩=ah (br ⟨sl,bx,lv,nx⟩ caps) (DO C res r fr css g t code ⟨sl,bx,lv,nx⟩):=rfl
theorem Di {C:bA} (res:List cn) (r:AV) (fr:Option Nat) (css:List (List AV)) (g:Nat) (t:Nat) (code:ak) (sl:List (Nat × SV)) (bx:List (Nat × aN)) (lv:List (Nat × Nat)) (nx:Nat) (as:List (Option AV)) (bs:List Nat) :
  DO C res r fr css g t code ⟨sl,bx,lv,nx⟩ (as,bs)=aw C code (qe C res r fr css t g as bs) ⟨(t,.fK g as bs) :: sl,bx,lv,nx + 2⟩:=rfl
@[congr] theorem Fb {C:bA} (res:List cn) (r:AV) (fr:Option Nat) (css:List (List AV)) (g:Nat) (caps:List aD) (t:Nat) (code:ak) (s:S):dK C res r fr css g caps t code s=dK C res r fr css g caps t code s:=rfl
@[congr] theorem EI {C:bA} (res:List cn) (r:AV) (fr:Option Nat) (css:List (List AV)) (g:Nat) (t:Nat) (code:ak) (s:S) {p p':List (Option AV) × List Nat} (h:p=p'):DO C res r fr css g t code s p=DO C res r fr css g t code s p':=by rw [h]
theorem gZ {C:bA} {cf:mK} {keep:List Nat} {r:AV} {fr:Option Nat} {css:List (List AV)} {s:S} (h:DN C { cf with code:=(flat keep 0 cf.code).1 } r fr css s):DN C cf r fr css s:=by
 refine ep ?_ h
 intro e s ha
 cases e<;>try exact ha
 obtain ⟨p,hp,ha⟩:=af ha
 show ah _ _
 rw [hp]
 exact aG (keep:=keep) (i:=0) ha
theorem w8 (nt:Nat) (res:List cn) (pre:ak) (g:Nat) (caps:List aD) (t:Nat) (code:ak) (keep:List Nat):({ (⟨nt,res,pre,g,caps,t,code⟩:mK) with code:=(flat keep 0 (⟨nt,res,pre,g,caps,t,code⟩:mK).code).1 }:mK)=⟨nt,res,pre,g,caps,t,(flat keep 0 code).1⟩:=rfl
theorem iI {C:bA} {res:List cn} {r:AV} {fr:Option Nat} {css:List (List AV)} {t g:Nat} {as:List (Option AV)} {bs:List Nat} {rv:AV} {sl:List (Nat × SV)} {bx:List (Nat × aN)} {lv:List (Nat × Nat)} {nx:Nat} {cs cs':List (List AV)}
  (hd:C.d g rv cs as cs') (hl:lk t sl=some (.fK g as bs)) (hn:bz bs=true) (hc:aC bx bs=some cs) (hf:pZ res r fr css .ret ⟨sl,bE bs cs' bx,lv,nx⟩):qd C res r fr css t g as bs rv ⟨sl,bx,lv,nx⟩ :=
 ⟨hl,hn,by show ah (aC bx bs) _; rw [hc]; exact ⟨cs',hd,hf⟩⟩
section
variable {P:Program}
theorem rZ {f:FuncId} {cf:mK} (hcf:qc P f=some cf):∃ (fn:Func) (ri:Nat) (ops:Array Oper) (a rest:Code) (caps:Array Operand),P.funcs[f]? = some fn∧fn.body=some (.seq a (.seq (.region ri ops false) rest))∧uB ops.toList=some (cf.g,caps,cf.t) ∧
  aF true P a=some cf.pre∧cj caps=some cf.caps∧aF true P rest=some cf.code∧fn.results.toList.mapM (nJ P)=some cf.res∧cf.pre.fits fn.ntmps=true∧bS cf.pre=true∧cf.t < fn.ntmps∧cf.code.fits fn.ntmps=true∧¬ cf.t∈cf.code.writes∧aR P f=true∧aR P cf.g=true∧cf.nt=fn.ntmps:=by
 unfold qc at hcf
 split at hcf<;>try (cases hcf; done)
 rename_i fn hfn
 split at hcf<;>try (cases hcf; done)
 rename_i a ri ops rest hbody
 split at hcf<;>try (cases hcf; done)
 rename_i g caps t hdef
 split at hcf<;>try (cases hcf; done)
 rename_i ca xs cc rs h1 h2 h3 h4
 split at hcf<;>try (cases hcf; done)
 rename_i hok
 cases hcf
 simp only [Bool.and_eq_true,decide_eq_true_eq,Bool.not_eq_true'] at hok
 obtain ⟨⟨⟨⟨⟨⟨k1,k2⟩,k3⟩,k4⟩,k5⟩,k6⟩,k7⟩:=hok
 exact ⟨fn,ri,ops,a,rest,caps,hfn,hbody,hdef,h1,h2,h3,h4,k1,k2,k3,k4,by simpa using k5,k6,k7,rfl⟩
theorem g7 (hm:P.follows .mixedOrders=true) {f:FuncId} {cf:mK} (hcf:qc P f=some cf) {css css':List (List AV)} {args:List (Option AV)} {r:AV} {fr:Option Nat} (hn:args.length≤cf.nt) (hl:css'.length=css.length) (h4:css.length≤4)
  (h:DN (Pure P) cf r fr css' (gV css args)):mN P f css args r fr css':=by
 obtain ⟨fn,ri,ops,a,rest,caps,hfn,hbody,hdef,hca,hcaps,hcc,hrs,hfita,hpl,ht,hfit,hwr,hcall,hcg,hnt⟩:=rZ hcf
 rw [hnt] at hn
 refine ⟨hcall,hl,h4,fun w π Bs vs hprot hnd hbx hd=>?_⟩
 have hbl:=hbx.get.1
 have R:=n9 (P:=P) (nt:=fn.ntmps) hn h4 hprot hnd hbx hd
 refine callsIn_wide.1 (callsIn_of_wp_marks (n:=0) (F:=Fence.wide) hfn hbody trivial (wpIn_seq (wpIn_mono (gi (kT hm a cf.pre hca hpl hfita 0 w _ _ _ _ R h)) ?_)))
 rintro e a1 w1 ⟨s1,hq,R1,hdf⟩
 have hdf:a1.defers=[]:=hdf
 cases e<;>try exact hq.elim
 obtain ⟨p,hp,h⟩:=af hq
 clear hq
 obtain ⟨hx4,β,τ,π1,U,hU,R1⟩:=R1
 -- the closure is made and deferred
 obtain ⟨as,bs⟩:=p
 have hsv:=R1.br (by simpa [cj] using hcaps) hp
 obtain ⟨o0,o1,hops,ho0,hd0,hg0,hty,ho1,hd1,hg1⟩:∃ o0 o1,ops=#[o0,o1]∧o0.op=.makeFunc (.func cf.g) #[] caps∧o0.dst=some cf.t∧o0.guard=none∧∃ tys,o1.op=.defer ⟨.value (.tmp cf.t),#[],tys⟩∧o1.dst=none∧o1.guard=none:=by
  unfold uB at hdef
  split at hdef<;>try (cases hdef; done)
  rename_i o0 o1 hops
  split at hdef<;>try (cases hdef; done)
  rename_i g' first caps' t t' as' tys m1 m2 m3 m4 m5 m6
  split at hdef<;>try (cases hdef; done)
  rename_i hok
  simp only [Bool.and_eq_true,beq_iff_eq] at hok
  simp only [Option.some.injEq,Prod.mk.injEq] at hdef
  obtain ⟨e1,e2,e3⟩:=hdef
  have f1:first=#[]:=by simpa [Array.isEmpty_iff] using hok.1.1
  have f2:as'=#[]:=by simpa [Array.isEmpty_iff] using hok.1.2
  subst e1 e2 f1 f2
  rw [← hok.2,e3] at m4
  rw [e3] at m2
  exact ⟨o0,o1,Array.toList_inj.1 (by simpa using hops),m1,m2,m3,tys,m4,m5,m6⟩
 subst hops
 obtain ⟨us,hus⟩:∃ us,us=caps.map a1.eval:=⟨_,rfl⟩
 have hr0:(execOp a1.eval o0).run P w1=.ok (.value (.func (.func cf.g) #[] us)) w1:=by simp [execOp,ho0,Instr.makeFunc,hus]
 have R2:=R1.put (some cf.t) (v:=.fK cf.g as bs) (x:=.func (.func cf.g) #[] us) (fun t' ht'=>by cases ht'; exact ht) ⟨us,rfl,by rw [hus]; simpa using hsv⟩ (fun b hb=>by
  obtain ⟨t',_,off,hl'⟩:=dZ hp b hb
  exact (R1.slots t' _ hl').2)
 have hread:(a1.put (some cf.t) (.func (.func cf.g) #[] us)).tmps[cf.t]? = some (.func (.func cf.g) #[] us):=by
  simp only [Act.put]
  rw [Array.getElem?_setIfInBounds_self_of_lt (by rw [R1.size]; exact ht)]
 obtain ⟨d,hdd⟩:∃ d:Deferred,d={ target:=.fn (.func cf.g) us,args:=#[] }:=⟨_,rfl⟩
 have hr1:(execOp (a1.put (some cf.t) (.func (.func cf.g) #[] us)).eval o1).run P w1=.ok (.defer d) w1:=by
  have:(a1.put (some cf.t) (.func (.func cf.g) #[] us)).eval (.tmp cf.t)=.func (.func cf.g) #[] us:=by simp [Act.eval,hread]
  simp only [execOp,ho1,resolve,this,Deferred.ofValue,hdd]
  simp
 refine wpIn_seq (wpIn_region ?_)
 have w0:Region.wanted o0 (yielded #[o0,o1] a1.tmps)=true:=by simp [Region.wanted,hg0]
 show wpOpsIn _ _ _ _ _ [0,1] _ _
 rw [wpOpsIn_cons]
 unfold wpOpIn
 simp only [List.getElem?_toArray,List.getElem?_cons_zero,w0,if_true]
 refine ⟨fun _ _=>trivial,?_⟩
 rw [show Fence.wide.round=none from rfl,Oper.semAt_none,hr0,Oper.uponIn_value,hd0,wpOpsIn_cons]
 unfold wpOpIn
 have w1':Region.wanted o1 (yielded #[o0,o1] (a1.put (some cf.t) (.func (.func cf.g) #[] us)).tmps)=true:=by simp [Region.wanted,hg1]
 simp only [List.getElem?_toArray,List.getElem?_cons_succ,List.getElem?_cons_zero,w1',if_true]
 refine ⟨fun _ _=>trivial,?_⟩
 rw [show Fence.wide.round=none from rfl,Oper.semAt_none,hr1,Oper.uponIn_defer,hd1]
 obtain ⟨a2,ha2⟩:∃ a2:Act,a2={ a1.put (some cf.t) (.func (.func cf.g) #[] us) with defers:=[d] }:=⟨_,rfl⟩
 have ha2':({ a1.put (some cf.t) (.func (.func cf.g) #[] us) with defers:=d :: (a1.put (some cf.t) (.func (.func cf.g) #[] us)).defers }:Act).put none undef=a2:=by
  rw [ha2]; show ({ a1.put (some cf.t) _ with defers:=d :: (a1.put (some cf.t) _).defers }:Act)=_
  have:(a1.put (some cf.t) (.func (.func cf.g) #[] us)).defers=[]:=hdf
  rw [this]
 rw [ha2']
 show rest.wpIn _ _ _ _ a2 w1
 have hread2:a2.tmps[cf.t]? = some (.func (.func cf.g) #[] us):=by rw [ha2]; exact hread
 have RN2:aY P fn.ntmps (cD.cW w Bs) w π { (s1.put (some cf.t) (.fK cf.g as bs)) with nx:=s1.nx + 2 } a2 w1:=by
  refine aY.vl (a:=a1.put (some cf.t) (.func (.func cf.g) #[] us)) ⟨by show 4≤s1.nx + 2; omega,β,τ,π1,U,fun n hn=>by have:=hU n hn; show n < s1.nx + 2; omega,R2.nx _⟩ (by rw [ha2])
 refine wpIn_mono (gi (gT hm rest cf.code hcc hfit _ (fun t=>t=cf.t) a2 (fun t ht'=>by subst ht'; exact hwr) none 0 w _ _ _ _ ⟨RN2,fun l h=>by (cases h),⟨[],by rw [ha2]; simp,.nil,by simp⟩,fun _ _=>rfl⟩ h)) ?_
 rintro e a' w' ⟨s,hq,R',_,⟨Ds,hm1,hm2,hm3⟩,hk⟩
 have hk:a'.tmps[cf.t]? = some (.func (.func cf.g) #[] us):=(hk cf.t rfl).trans hread2
 have hm1:a'.defers=Ds.map tc++[d]:=by rw [hm1,ha2]
 -- the closure runs
 have last:∀ (rv:AV) (u:FrameMode),u≠.run→lI rv=u→qd (Pure P) cf.res r fr css' cf.t cf.g as bs rv s→∀ w',aY P fn.ntmps (cD.cW w Bs) w π s a' w' →
   LeavesInM Fence.wide 0 P fn a'.tmps (fun e w'=>∃ v π',e=.returned v∧jr (cD.cW w Bs) w w'∧(∀ b o,π b o→π' b o)∧(∀ b o,π' b o→π b o∨w.heap.size≤b) ∧
    (∀ b o,π' b o→b < w'.heap.size)∧aV w' π' css' Bs∧DV w' π' r v∧∀ t,fr=some t→oh P w' π' (fun B=>w.heap.size≤B) t v) [d] u w':=by
  rintro rv u hu hmode ⟨hlk,hnb,hq⟩ w' ⟨hx,β',τ',π',U',hU',R'⟩
  obtain ⟨cs,hcs,cs',hD,hfin⟩:=af hq
  have hD:sJ P cf.g rv cs as cs':=hD
  obtain ⟨_,hl1,_,hD⟩:=hD
  obtain ⟨⟨x,hx',us',hxe,hcap⟩,_⟩:=R'.slots cf.t _ hlk
  rw [hk] at hx'
  cases hx'
  cases hxe
  have hnb':=b7 hnb
  refine ⟨hu,.inr ⟨fun h=>by simp [Fence.wide] at h,.func cf.g,us,cf.g,us,by rw [hdd],?_,fun _ _=>trivial,?_⟩⟩
  ·rw [hdd]; simp [invoke,bL hcg]
  refine CallsDIn.mono (by have:=hD w' π' (bs.map β') us.toList R'.bK (R'.nodup hnb' hcs) (R'.ij hcs) hcap; rw [hmode] at this; exact this) ?_
  rintro e u' w3 ⟨v,π3,rfl,hset,hbel,hp1,hp2,hp3,hbx3⟩
  obtain ⟨τ3,_,R3⟩:=R'.jv (id:=s.nx) (fr:=none) (fun hc=>by have:=hU' _ hc; omega) hnb' hcs hl1 hbel hp1 hp2 hp3 hbx3 DV.bV (fun t ht=>by cases ht)
  show LeavesInM _ _ _ _ _ _ [] (settle u') w3
  rw [hset]
  show LeavesIn _ _ _ _ _ _ [] .returning w3
  obtain ⟨⟨av,q⟩,hpq,hav,hfr,hho⟩:=af hfin
  simp only at hav hfr hho
  subst hav
  obtain ⟨v',hv',hdv,htq⟩:=jb R3 hrs hpq
  have hB:=R3.qL hbl h4 hl hho
  refine ⟨v',hv',v',π3,rfl,R3.below,R3.bG,fun b o h=>(R3.aU b o h).imp id (fun k=>k.elim id (fun k=>absurd h (eI hB b k o))),R3.bK,hB,hdv,fun t ht=>?_⟩
  subst ht
  simp only [pF] at hfr
  cases q with
  | none=>exact hfr.elim
  | some q =>
   rw [htq q rfl]
   exact R3.mc hbl h4 hl hho hfr
 cases e with
 | normal=>show LeavesInM _ _ _ _ _ _ a'.defers _ _; rw [hm1]; exact cU (by simp) (last .bV .returning (by simp) rfl hq) Ds w' hm2 hm3 R' (Nat.le_refl _)
 | ret=>show LeavesInM _ _ _ _ _ _ a'.defers _ _; rw [hm1]; exact cU (by simp) (last .bV .returning (by simp) rfl hq) Ds w' hm2 hm3 R' (Nat.le_refl _)
 | panic ch =>
  obtain ⟨p,rfl,hra,hq⟩:=hq
  show LeavesInM _ _ _ _ _ _ a'.defers _ _; rw [hm1]
  refine cU (by simp) (last p (.panicking (ct p)) (by simp) ?_ hq) Ds w' hm2 hm3 R' (Nat.le_refl _)
  cases p<;>first | rfl | (simp [cO] at hra; done)
 | _=>exact hq.elim
def aA:=And.intro @Dh (And.intro @Et (And.intro @Di (And.intro @w8 (And.intro @Am (And.intro @An (And.intro @Ai (And.intro @w4 @w5)))))))
end
end Go.Eng
