/- The engine and the library,part 2 of 18: what the proofs of this seat need of them. -/
import Derived.Test.YthoinfdfenkgnaaGreatPk1
set_option linter.unnecessarySimpa false
set_option linter.unusedSimpArgs false
set_option linter.unusedVariables false
set_option linter.defProp false
set_option maxRecDepth 10000
set_option maxHeartbeats 4000000
namespace Go.Eng
open Go
open Go.RowKit (Below)
theorem kN(B o n:Nat):(⟨B,o,none⟩:Addr).add n=⟨B,o+n,none⟩:=by unfold Addr.add;split<;>simp_all
section runs
variable{P:Program} {w:World}
theorem eU{t:TypeId} {z:Nat} (h:gj P t=some z):(sizeOf t).run P w=.ok z w:=by
 simp only[gj,Option.map_eq_some_iff]at h;obtain⟨i,hi,rfl⟩:=h;simp[sizeOf,typeInfo,hi]
theorem wL{t:TypeId} {d:TypeDesc} (h:P.underlying t=some d):(isAgg t).run P w=.ok (nC P t) w:=by
 have:=run_underlying h w
 unfold isAgg nC;simp only[Sem.run_bind,this,Result.andThen_ok,h]
 cases d<;>rfl
theorem GA{t:TypeId} {n:Nat} (h:AD P t=some (some n)):∃d,P.underlying t=some d/\nC P t=true/\gj P t=some n:=by
 unfold AD at h;split at h
 ·rename_i fs hu;exact⟨_,hu,by simp[nC,hu],by simpa using h⟩
 ·rename_i k e hu;exact⟨_,hu,by simp[nC,hu],by simpa using h⟩
 ·simp at h
 ·simp at h
theorem GB{t:TypeId} (h:AD P t=some none):∃d,P.underlying t=some d/\nC P t=false:=by
 unfold AD at h;split at h
 ·simp at h
 ·simp at h
 ·rename_i d h1 h2 hu
  refine⟨d,hu,?_⟩;unfold nC;rw[hu]
  cases d<;>simp_all
 ·simp at h
theorem oI{t:TypeId} {n:Nat} (h:AD P t=some (some n)) {B o:Nat} {f:Nat->Value} (hc:∀j,j<n->w.cell? ⟨B,o+j,none⟩=some (f j)):
  (loadVar t ⟨B,o,none⟩).run P w=.ok (.agg ((List.range n).map f).toArray) w:=by
 obtain⟨d,hd,ha,hs⟩:=GA h
 have h1:=wL (w:=w) hd
 have h2:=eU (w:=w) hs
 have h3:=run_loadCells (P:=P) w ⟨B,o,none⟩ n f (fun j hj=>by rw[kN];exact hc j hj)
 simp only[loadVar,Sem.run_bind,h1,ha,Result.andThen_ok,if_true,h2,h3,Sem.run_pure]
theorem oJ{t:TypeId} (h:AD P t=some none) {B o:Nat} {v:Value} (hc:w.cell? ⟨B,o,none⟩=some v):
  (loadVar t ⟨B,o,none⟩).run P w=.ok v w:=by
 obtain⟨d,hd,ha⟩:=GB h
 have h1:=wL (w:=w) hd
 simp[loadVar,Sem.run_bind,h1,ha,Result.andThen_ok,hc]
end runs
theorem E7{w:World} {π:Nat->Nat->Prop} {cs:List AV} {f:Nat->Value} {off:Nat} {sz:Option Nat} {a:AV}
  (hs:∀(j:Nat) (x:AV),cs[j]? =some x->x.scalar=true) (hd:∀(j:Nat) (x:AV),cs[j]? =some x->DV w π x (f j)) (h:ay cs off sz=some a):
  match sz with
  |none=>DV w π a (f off)/\off<cs.length
  |some n=>off+n<=cs.length/\DV w π a (.agg ((List.range n).map fun j=>f (off+j)).toArray):=by
 cases sz with
 |none=>
  simp only[ay]at h;refine⟨hd _ _ h,?_⟩
  rcases Nat.lt_or_ge off cs.length with h'|h'
  ·exact h'
  ·rw[List.getElem?_eq_none h']at h;cases h
 |some n=>
  simp only[ay]at h;split at h
  ·rename_i hle
   cases h
   have hg:∀(i:Nat) (x:AV),((cs.drop off).take n)[i]? =some x->i<n/\cs[off+i]? =some x:=by
    intro i x hx;rw[List.getElem?_take]at hx;split at hx
    ·rename_i hi;exact⟨hi,by simpa using hx⟩
    ·cases hx
   refine⟨hle,.agg _ _ (by simp;omega) (fun x hx=>?_) (fun i x v hx hv=>?_)⟩
   ·obtain⟨i,hi⟩:=List.mem_iff_getElem?.1 hx
    exact hs _ _ (hg i x hi).2
   ·obtain⟨hi,hx'⟩:=hg i x hx
    have:v=f (off+i):=by simpa[hi]using hv.symm
    rw[this];exact hd _ _ hx'
  ·cases h
section ops
variable{P:Program} {nt:Nat} {n0:gb} {w0:World} {π0:Nat->Nat->Prop} {U:Nat->Prop} {s:S} {a:Act} {w:World} {β:Nat->Nat} {τ:Nat->Value} {π:Nat->Nat->Prop}
theorem p8.cells{B:Nat} {x:bV} (h:p8 τ w π B x):∃f:Nat->Value,(∀j,j<x.cells.length->w.cell? ⟨B,j,none⟩=some (f j))/\(∀(j:Nat) (y:AV),x.cells[j]? =some y->y.scalar=true)/\
  (∀(j:Nat) (y:AV),x.cells[j]? =some y->DV w π y (f j))/\∀o q,d7 o x.tags=some q->f o=τ q:=by
 obtain⟨cur,el,h1,h2,h3,h4,_⟩:=h
 refine⟨fun j=>cur.getD j undef,fun j hj=>?_,fun j y hy=>h3 y (List.mem_of_getElem? hy),fun j y hy=>?_,fun o q hq=>?_⟩
 ·have hl:j<cur.size:=by have:=h2.1;simp at this;omega
  rw[cell_of_row w B j cur el (0,0) h1];simp[hl]
 ·obtain⟨v,hv,hd⟩:=h2.get hy
  have:cur[j]? =some v:=by simpa using hv
  simp[this,hd]
 ·simp[h4 o q hq]
theorem Rel.load (R:Rel P nt n0 w0 π0 U s a w β τ π) {t:TypeId} {X:Operand} {x:bB} {sz:Option Nat} (hx:dr X=some x) (ht:AD P t=some sz) {id:Nat} {K:SV→S→Prop}
    (h:bN (Pure P) id (.ld x sz) K s):∃ v y,(Instr.loadAt t (a.eval X)).run P w=.ok y w∧RV β τ w π v y∧v.gR U∧K v s:=by
  simp only [bN] at h
  cases ho:Eng.dh s x with
  | none=>rw [ho] at h; exact h.elim
  | some p =>
    rw [ho] at h
    obtain ⟨hr,hu⟩:=R.dh hx ho
    cases p with
    | dat b q=>exact h.elim
    | undef=>exact h.elim
    | vs _ _ _ _=>exact h.elim
    | oF _ _ _=>exact h.elim
    | raw _ _=>exact h.elim
    | ptr b off =>
      simp only [aE] at h
      cases hb:b9 b s.boxes with
      | none=>rw [hb] at h; exact h.elim
      | some z =>
        rw [hb] at h
        simp only [aE] at h
        cases hp:ay z.cells off sz with
        | none=>rw [hp] at h; exact h.elim
        | some av =>
          rw [hp] at h
          obtain ⟨h1,h2,h3,h4⟩:=R.boxes b z hb
          obtain ⟨f,hf,hs,hd,htg⟩:=h3.cells
          have hpd:=E7 hs hd hp
          have he:a.eval X=.pointer (some ⟨β b,off,none⟩):=hr
          cases sz with
          | none =>
            obtain ⟨hd',hlt⟩:=hpd
            refine ⟨.dat av (d7 off z.tags),f off,by simp only [he,Instr.loadAt,Instr.sureAddr,Sem.run_bind,Sem.run_pure,Result.andThen_ok]; exact oJ ht (hf off hlt),⟨hd',fun q hq=>htg off q hq⟩,?_,h⟩
            cases hq:d7 off z.tags with
            | none=>trivial
            | some q=>exact h4 off q hq
          | some n =>
            obtain ⟨hle,hd'⟩:=hpd
            refine ⟨.dat av none,_,by simp only [he,Instr.loadAt,Instr.sureAddr,Sem.run_bind,Sem.run_pure,Result.andThen_ok]; exact oI ht (fun j hj=>hf (off + j) (by omega)),⟨hd',fun q hq=>by cases hq⟩,trivial,h⟩
    | rp cs =>
      simp only [aE] at h
      cases hp:ay cs 0 sz with
      | none=>rw [hp] at h; exact h.elim
      | some av =>
        rw [hp] at h
        obtain ⟨B,off,f,he,hs,_,hf,hd⟩:=hr
        have hpd:=E7 hs hd hp
        have hget:∀ j,j < cs.length→w.cell? ⟨B,off + j,none⟩=some (f j):=fun j hj=>hf j cs[j] (List.getElem?_eq_getElem hj)
        cases sz with
        | none =>
          obtain ⟨hd',hlt⟩:=hpd
          refine ⟨.dat av none,f 0,by simp only [he,Instr.loadAt,Instr.sureAddr,Sem.run_bind,Sem.run_pure,Result.andThen_ok]; exact oJ ht (hget 0 hlt),⟨hd',fun q hq=>by cases hq⟩,trivial,h⟩
        | some n =>
          obtain ⟨hle,hd'⟩:=hpd
          refine ⟨.dat av none,_,by simp only [he,Instr.loadAt,Instr.sureAddr,Sem.run_bind,Sem.run_pure,Result.andThen_ok]; exact oI ht (fun j hj=>hget j (by omega)),⟨by simpa using hd',fun q hq=>by cases hq⟩,trivial,h⟩
theorem E8{w:World} {π:Nat->Nat->Prop} {av:AV} {u:Value} (h:DV w π av u) (hs:av.scalar=true):u.cells.toList=[u]:=by
 cases h<;>first|rfl|(simp[AV.scalar]at hs)
theorem gT{α:Type} (l ps:List α) (off:Nat) (h:off+ps.length<=l.length) (i:Nat):
  (l.take off++ps++l.drop (off+ps.length))[i]? =if i<off then l[i]? else if i<off+ps.length then ps[i-off]? else l[i]?:=by
 have hl:(l.take off).length=off:=by simp;omega
 by_cases h1:i<off
 ·rw[if_pos h1,List.append_assoc,List.getElem?_append_left (by omega),List.getElem?_take,if_pos h1]
 ·rw[if_neg h1]
  by_cases h2:i<off+ps.length
  ·rw[if_pos h2,List.append_assoc,List.getElem?_append_right (by omega),List.getElem?_append_left (by omega),hl]
  ·rw[if_neg h2,List.getElem?_append_right (by simp;omega),List.getElem?_drop]
   congr 1
   simp;omega
theorem Bk{l:List (Nat×Nat)} {p:Nat×Nat->Bool} {o q:Nat} (h:d7 o (l.filter p)=some q) (hp:∀x:Nat×Nat,p x=p (x.1,0)):d7 o l=some q/\p (o,0)=true:=by
 induction l with
 |nil=>simp[d7]at h
 |cons x r ih=>
  obtain⟨m,v⟩:=x;rw[List.filter_cons]at h
  by_cases hx:p (m,v)=true
  ·rw[if_pos hx]at h
   simp only[d7]at h⊢
   by_cases e:o=m
   ·subst e;simp at h⊢;exact⟨h,by rw[<-hp (o,v)];exact hx⟩
   ·have hf:(o==m)=false:=by simpa using e
    simp only[hf,cond_false]at h⊢;exact ih h
  ·rw[if_neg hx]at h
   obtain⟨h1,h2⟩:=ih h;refine⟨?_,h2⟩;simp only[d7]
   have e:o≠m:=fun e=>hx (by subst e;rw[hp (o,v)];exact h2)
   have hf:(o==m)=false:=by simpa using e
   simp only[hf,cond_false];exact h1
theorem Rel.store (R:Rel P nt n0 w0 π0 U s a w β τ π) {t:TypeId} {X V:Operand} {x v:bB} {z:Nat} (hx:dr X=some x) (hv:dr V=some v) (ht:gj P t=some z) {id:Nat} {K:SV→S→Prop}
    (h:bN (Pure P) id (.st x v z) K s):∃ s' w',(Instr.storeAt t (a.eval X) (a.eval V)).run P w=.ok () w'∧K .undef s'∧Rel P nt n0 w0 π0 U s' a w' β τ π:=by
  simp only [bN] at h
  cases ho:Eng.dh s x with
  | none=>rw [ho] at h; exact h.elim
  | some p =>
    rw [ho] at h
    obtain ⟨hr,hu⟩:=R.dh hx ho
    cases p with
    | dat b q=>exact h.elim
    | undef=>exact h.elim
    | vs _ _ _ _=>exact h.elim
    | oF _ _ _=>exact h.elim
    | raw _ _=>exact h.elim
    | rp cs=>exact h.elim
    | ptr b off =>
      simp only [aE] at h
      cases hb:b9 b s.boxes with
      | none=>rw [hb] at h; exact h.elim
      | some y =>
        rw [hb] at h
        simp only [aE] at h
        cases hov:Eng.dh s v with
        | none=>rw [hov] at h; exact h.elim
        | some u =>
          rw [hov] at h
          cases u with
          | undef=>exact h.elim
          | vs _ _ _ _=>exact h.elim
          | oF _ _ _=>exact h.elim
          | raw _ _=>exact h.elim
          | rp cs=>exact h.elim
          | ptr _ _=>exact h.elim
          | dat av q =>
            simp only [aE] at h
            obtain ⟨hok,hlen,hfit,hK⟩:=h
            obtain ⟨⟨hdv,htag⟩,huv⟩:=R.dh hv hov
            have he:a.eval X=.pointer (some ⟨β b,off,none⟩):=hr
            obtain ⟨h1,h2,⟨cur,el,hh,hcd,hcs,hct,hnp⟩,h4⟩:=R.boxes b y hb
            have hsz:cur.size=y.cells.length:=by have:=hcd.1; simp at this; exact this.symm
            have htup':∀ vs,av≠.cN vs:=fun vs e=>by subst e; simp [ig] at hok
            obtain ⟨hds,hsc⟩:=hdv.cells htup'
            have hvl:(a.eval V).cells.toList.length=z:=by rw [← hds.1]; exact hlen
            have hone:∀ u∈(a.eval V).cells.toList,u.oneCell'=true:=by
              intro u hu
              obtain ⟨i,hi⟩:=List.mem_iff_getElem?.1 hu
              have hil:i < av.cells.length:=by
                rw [hds.1]
                rcases Nat.lt_or_ge i (a.eval V).cells.toList.length with h|h
                · exact h
                · rw [List.getElem?_eq_none h] at hi; cases hi
              have hx':=List.getElem?_eq_getElem hil
              exact (hds.2 i _ _ hx' hi).JU (hsc _ (List.getElem_mem hil))
            have hst:=run_storeCells_at (P:=P) (β b) off el (a.eval V).cells.toList 0 cur w hh (by rw [hvl,hsz]; omega) hone
            simp only [Nat.add_zero] at hst
            have hrun:(Instr.storeAt t (a.eval X) (a.eval V)).run P w=.ok () (w.setRow (β b) (cur.toList.take off++(a.eval V).cells.toList++cur.toList.drop (off + (a.eval V).cells.toList.length)).toArray):=by
              have hz2:(a.eval V).cells.size=z:=by simpa using hvl
              simp [he,Instr.storeAt,Instr.sureAddr,storeVar,eU (w:=w) ht,hz2,hst]
            refine ⟨_,_,hrun,hK,R.S5 hb hh ?_ ?_ ?_⟩
            · -- cells
              refine ⟨?_,fun i c u hc hu=>?_⟩
              · simp [setCells,hds.1,hcd.1]
              · simp only [] at hu
                rw [gT _ _ _ (by rw [hvl]; simp; omega)] at hu
                simp only [setCells] at hc
                rw [gT _ _ _ (by omega)] at hc
                rw [hvl] at hu
                rw [hlen] at hc
                split at hc
                · rename_i hi; rw [if_pos hi] at hu; exact hcd.2 i c u hc hu
                · rename_i hi
                  rw [if_neg hi] at hu
                  split at hc
                  · rename_i hi2; rw [if_pos hi2] at hu; exact hds.2 _ c u hc hu
                  · rename_i hi2; rw [if_neg hi2] at hu; exact hcd.2 i c u hc hu
            · intro c hc
              simp only [setCells,List.mem_append] at hc
              rcases hc with (hc|hc)|hc
              · exact hcs c (List.mem_of_mem_take hc)
              · exact hsc c hc
              · exact hcs c (List.mem_of_mem_drop hc)
            · intro o q' hq'
              have hfil:∀ (o q':Nat),d7 o (y.tags.filter fun p=>p.1 < off || off + z≤p.1)=some q'→(cur.toList.take off++(a.eval V).cells.toList++cur.toList.drop (off + (a.eval V).cells.toList.length)).toArray[o]? = some (τ q')∧U q':=by
                intro o q' hq'
                obtain ⟨hq1,hq2⟩:=Bk hq' (fun x=>rfl)
                refine ⟨?_,h4 o q' hq1⟩
                have:=hct o q' hq1
                rw [List.getElem?_toArray,gT _ _ _ (by rw [hvl]; simp; omega),hvl]
                simp at hq2
                split
                · simpa using this
                · rw [if_neg (by omega)]; simpa using this
              cases q with
              | none=>exact hfil o q' hq'
              | some q =>
                simp only [d7] at hq'
                by_cases e:o=off
                · subst e
                  simp at hq'
                  subst hq'
                  have hsc1:av.scalar=true:=by cases av<;>simp_all [ig,AV.scalar]
                  have hz1:(a.eval V).cells.toList=[a.eval V]:=E8 hdv hsc1
                  refine ⟨?_,huv⟩
                  rw [List.getElem?_toArray,gT _ _ _ (by rw [hvl]; simp; omega),hz1]
                  simp only [List.length_singleton,Nat.lt_irrefl,if_false,Nat.lt_add_one,if_true,Nat.sub_self]
                  simpa using htag q rfl
                · have hf:(o == off)=false:=by simpa using e
                  simp only [hf,cond_false] at hq'
                  exact hfil o q' hq'
end ops
open Go.RowKit (Below)
section
variable{P:Program} {w:World} {π:Nat->Nat->Prop}
theorem DV.Pq{k:IntKind} {n:Int} {v:Value} (h:DV w π (.int k n) v):v=.int k n:=by cases h;rfl
theorem DV.sn{b:Bool} {v:Value} (h:DV w π (.bool b) v):v=.bool b:=by cases h;rfl
theorem sq{op:BinOp} {k:IntKind} {x y n:Int} (h:zn op k x y=some n):(Op.intBits op k x y).run P w=.ok (.int k n) w:=by
 unfold zn at h;unfold Op.intBits
 split at h<;>first|(cases h;rfl)|cases h
theorem Pt{op:BinOp} {k:IntKind} {x y:Int} {v:AV} (hs1:op≠.shl) (hs2:op≠.shr) (h:rP op k x y=some v) (t:TypeId):∃u,(binOp op t (.int k x) (.int k y)).run P w=.ok u w/\DV w π v u:=by
 cases op<;>simp only[rP]at h
 case add=>cases h;exact⟨_,by simp[binOp,Op.intArith],.int _ _⟩
 case sub=>cases h;exact⟨_,by simp[binOp,Op.intArith],.int _ _⟩
 case mul=>cases h;exact⟨_,by simp[binOp,Op.intArith],.int _ _⟩
 case quo=>
  split at h
  ·cases h
  ·rename_i hy;cases h;exact⟨_,by simp[binOp,Op.intDiv,hy],.int _ _⟩
 case rem=>
  split at h
  ·cases h
  ·rename_i hy;cases h;exact⟨_,by simp[binOp,Op.intDiv,hy],.int _ _⟩
 case and=>simp only[Option.map_eq_some_iff]at h;obtain⟨n,hn,rfl⟩:=h;exact⟨_,by simp only[binOp,ne_eq,not_true_eq_false,if_false];exact sq hn,.int _ _⟩
 case or=>simp only[Option.map_eq_some_iff]at h;obtain⟨n,hn,rfl⟩:=h;exact⟨_,by simp only[binOp,ne_eq,not_true_eq_false,if_false];exact sq hn,.int _ _⟩
 case xor=>simp only[Option.map_eq_some_iff]at h;obtain⟨n,hn,rfl⟩:=h;exact⟨_,by simp only[binOp,ne_eq,not_true_eq_false,if_false];exact sq hn,.int _ _⟩
 case andNot=>simp only[Option.map_eq_some_iff]at h;obtain⟨n,hn,rfl⟩:=h;exact⟨_,by simp only[binOp,ne_eq,not_true_eq_false,if_false];exact sq hn,.int _ _⟩
 case shl=>exact absurd rfl hs1
 case shr=>exact absurd rfl hs2
 case eql=>cases h;exact⟨_,by simp[binOp,Op.intCmp],.bool _⟩
 case neq=>cases h;exact⟨_,by simp[binOp,Op.intCmp],.bool _⟩
 case lss=>cases h;exact⟨_,by simp[binOp,Op.intCmp],.bool _⟩
 case leq=>cases h;exact⟨_,by simp[binOp,Op.intCmp],.bool _⟩
 case gtr=>cases h;exact⟨_,by simp[binOp,Op.intCmp],.bool _⟩
 case geq=>cases h;exact⟨_,by simp[binOp,Op.intCmp],.bool _⟩
theorem D6{op:BinOp} {k:IntKind} {x y:Int} {v:AV} (h:rY op k x y=some v):∃u,(∀k':IntKind,(Op.shift op k x k' y).run P w=.ok u w)/\DV w π v u:=by
 unfold rY at h;split at h
 ·cases h
 ·rename_i hy
  split at h
  ·cases h;exact⟨_,by simp[Op.shift,hy],.int _ _⟩
  ·cases h;exact⟨_,by simp[Op.shift,hy],.int _ _⟩
  ·cases h
theorem su{n:Nat} (h:DJ n=true):∃s p,FloatKind.f64.format.read n=.nan s p:=by
 unfold DJ FloatKind.decode at h;split at h
 ·rename_i s p hh;exact⟨s,p,hh⟩
 ·cases h
theorem Pu(x y t:Nat):(Question.nanBits .f64 x y).cut t=(t%2)*9223372036854775808+9218868437227405312+1+(t/2)%4503599627370495:=by
 simp only[Question.cut,Nat.reducePow,Nat.reduceSub]
theorem MD(f:Ieee.Format) (n:Nat) (h1:f.infRung<n%f.signWeight) (h2:f.binade<=f.infRung):f.read n=.nan (n/f.signWeight%2==1) (n%f.signWeight-f.infRung):=by
 unfold Ieee.Format.read
 rw[if_neg (by omega),if_neg (by omega),if_neg (by omega)]
theorem S6(n:Nat) (h1:Ieee.double.infRung<n%Ieee.double.signWeight):DJ n=true:=by
 unfold DJ FloatKind.decode
 rw[show FloatKind.f64.format=Ieee.double from rfl,MD _ _ h1 (by decide+kernel)]
theorem ME(a m k i s:Nat) (hs:s=k+i) (ha:a<2) (hm:i+1+m<s):i<(a*s+i+1+m)%s:=by
 have h:a=0\/a=1:=by omega
 rcases h with rfl|rfl
 ·rw[show 0*s+i+1+m=i+1+m by omega,Nat.mod_eq_of_lt hm];omega
 ·rw[show 1*s+i+1+m=s+(i+1+m)by omega,Nat.add_mod_left,Nat.mod_eq_of_lt hm];omega
theorem zw(x y t:Nat):DJ ((Question.nanBits .f64 x y).cut t)=true:=by
 apply S6
 rw[Pu]
 have hs:Ieee.double.signWeight=9223372036854775808:=by decide+kernel
 have hi:Ieee.double.infRung=9218868437227405312:=by decide+kernel
 rw[hs,hi]
 have:=Nat.mod_lt (t/2) (y:=4503599627370495) (by decide)
 generalize t/2%4503599627370495=m at*
 exact ME _ _ 4503599627370496 _ _ (by decide) (Nat.mod_lt _ (by decide)) (by omega)
def Sx(w w':World):Prop:=w'=w\/w'=w.drew
theorem Sx.dv{w w':World} {π:Nat->Nat->Prop} (h:Sx w w') {v:AV} {u:Value} (hd:DV w π v u):DV w' π v u:=by
 rcases h with rfl|rfl
 ·exact hd
 ·exact DV.mono (w:=w) (w':=w.drew) (π:=π) (fun _ _ h=>h) (fun _ _ _=>rfl) hd
theorem oK{op:BinOp} {x y:Nat} (hop:op=.add/\FloatKind.f64.format.add x y=none\/op=.sub/\FloatKind.f64.format.sub x y=none\/op=.mul/\FloatKind.f64.format.mul x y=none\/op=.quo/\FloatKind.f64.format.div x y=none) (t:TypeId):
  ∃u,(binOp op t (.float .f64 x) (.float .f64 y)).run P w=.ok u w.drew/\DV w π .eM u:=by
 rcases hop with⟨rfl,h⟩|⟨rfl,h⟩|⟨rfl,h⟩|⟨rfl,h⟩<;>
 exact⟨.float .f64 ((Question.nanBits .f64 x y).cut (w.tape w.drawn (Question.nanBits .f64 x y))),by simp[binOp,Op.floatArith,h,run_choose_drew,Question.forced],.eM _ (zw _ _ _)⟩
theorem K1{op:BinOp} {k:FloatKind} {x y:Nat} {v:AV} (h:Bb op k x y=some v) (t:TypeId):∃u w',Sx w w'/\(binOp op t (.float k x) (.float k y)).run P w=.ok u w'/\DV w π v u:=by
 have ar:∀(o:Option Nat),IB k o=some v->(∃r,o=some r/\v=.float k r)\/(o=none/\k=.f64/\v=.eM):=by
  intro o ho
  cases o with
  |some r=>left;cases k<;>(simp only[IB,Option.some.injEq]at ho;exact⟨r,rfl,ho.symm⟩)
  |none=>
   cases k
   ·cases ho
   ·right;simp only[IB,Option.some.injEq]at ho;exact⟨rfl,rfl,ho.symm⟩
 cases op<;>simp only[Bb]at h<;>try(cases h;done)
 case add=>
  rcases ar _ h with⟨n,hn,rfl⟩|⟨hn,rfl,rfl⟩
  ·exact⟨_,w,.inl rfl,by simp[binOp,Op.floatArith,hn],.float _ _⟩
  ·obtain⟨u,hu,hd⟩:=oK (P:=P) (w:=w) (π:=π) (op:=.add) (.inl ⟨rfl,hn⟩) t
   exact⟨u,_,.inr rfl,hu,hd⟩
 case sub=>
  rcases ar _ h with⟨n,hn,rfl⟩|⟨hn,rfl,rfl⟩
  ·exact⟨_,w,.inl rfl,by simp[binOp,Op.floatArith,hn],.float _ _⟩
  ·obtain⟨u,hu,hd⟩:=oK (P:=P) (w:=w) (π:=π) (op:=.sub) (.inr (.inl ⟨rfl,hn⟩)) t
   exact⟨u,_,.inr rfl,hu,hd⟩
 case mul=>
  rcases ar _ h with⟨n,hn,rfl⟩|⟨hn,rfl,rfl⟩
  ·exact⟨_,w,.inl rfl,by simp[binOp,Op.floatArith,hn],.float _ _⟩
  ·obtain⟨u,hu,hd⟩:=oK (P:=P) (w:=w) (π:=π) (op:=.mul) (.inr (.inr (.inl ⟨rfl,hn⟩))) t
   exact⟨u,_,.inr rfl,hu,hd⟩
 case quo=>
  rcases ar _ h with⟨n,hn,rfl⟩|⟨hn,rfl,rfl⟩
  ·exact⟨_,w,.inl rfl,by simp[binOp,Op.floatArith,hn],.float _ _⟩
  ·obtain⟨u,hu,hd⟩:=oK (P:=P) (w:=w) (π:=π) (op:=.quo) (.inr (.inr (.inr ⟨rfl,hn⟩))) t
   exact⟨u,_,.inr rfl,hu,hd⟩
 all_goals(cases h;exact⟨_,w,.inl rfl,by simp[binOp,Op.floatCmp],.bool _⟩)
theorem JW{a b:Ieee.Datum} (h:(∃s p,a=.nan s p)\/∃s p,b=.nan s p):a.sum b=none:=by
 rcases h with⟨s,p,rfl⟩|⟨s,p,rfl⟩<;>first|rfl|(cases a<;>rfl)
theorem GC{a b:Ieee.Datum} (h:(∃s p,a=.nan s p)\/∃s p,b=.nan s p):a.product b=none:=by
 rcases h with⟨s,p,rfl⟩|⟨s,p,rfl⟩<;>first|rfl|(cases a<;>rfl)
theorem E9{d:Nat} {a b:Ieee.Datum} (h:(∃s p,a=.nan s p)\/∃s p,b=.nan s p):a.quotient d b=none:=by
 rcases h with⟨s,p,rfl⟩|⟨s,p,rfl⟩<;>first|rfl|(cases a<;>rfl)
theorem uc{a b:Ieee.Datum} (h:(∃s p,a=.nan s p)\/∃s p,b=.nan s p):a.order b=none:=by
 rcases h with⟨s,p,rfl⟩|⟨s,p,rfl⟩<;>first|rfl|(cases a<;>rfl)
theorem Fa{op:BinOp} {x y:Nat} {v:AV} (hn:DJ x=true\/DJ y=true) (h:vB op=some v) (t:TypeId):∃u w',Sx w w'/\(binOp op t (.float .f64 x) (.float .f64 y)).run P w=.ok u w'/\DV w π v u:=by
 have hr:(∃s p,FloatKind.f64.format.read x=.nan s p)\/∃s p,FloatKind.f64.format.read y=.nan s p:=hn.imp su su
 have hopp:∀d:Ieee.Datum,(∃s p,d=.nan s p)->∃s p,d.opposite=.nan s p:=fun d ⟨s,p,h⟩=>by subst h;exact⟨_,_,rfl⟩
 have ho:FloatKind.f64.format.order x y=none:=uc hr
 have arith:∀o:BinOp,(o=.add\/o=.sub\/o=.mul\/o=.quo)->v=.eM->op=o->∃u w',Sx w w'/\(binOp op t (.float .f64 x) (.float .f64 y)).run P w=.ok u w'/\DV w π v u:=by
  intro o ho hv he;subst he hv
  have:op=.add/\FloatKind.f64.format.add x y=none\/op=.sub/\FloatKind.f64.format.sub x y=none\/op=.mul/\FloatKind.f64.format.mul x y=none\/op=.quo/\FloatKind.f64.format.div x y=none:=by
   rcases ho with rfl|rfl|rfl|rfl
   ·exact .inl ⟨rfl,by simp[Ieee.Format.add,JW hr]⟩
   ·exact .inr (.inl ⟨rfl,by simp[Ieee.Format.sub,JW (hr.imp id (hopp _))]⟩)
   ·exact .inr (.inr (.inl ⟨rfl,by simp[Ieee.Format.mul,GC hr]⟩))
   ·exact .inr (.inr (.inr ⟨rfl,by simp[Ieee.Format.div,E9 hr]⟩))
  obtain⟨u,hu,hd⟩:=oK (P:=P) (w:=w) (π:=π) this t
  exact⟨u,_,.inr rfl,hu,hd⟩
 cases op<;>simp only[vB,Option.some.injEq]at h<;>try(cases h;done)
 case add=>exact arith .add (.inl rfl) h.symm rfl
 case sub=>exact arith .sub (.inr (.inl rfl)) h.symm rfl
 case mul=>exact arith .mul (.inr (.inr (.inl rfl))) h.symm rfl
 case quo=>exact arith .quo (.inr (.inr (.inr rfl))) h.symm rfl
 all_goals(subst h;exact⟨_,w,.inl rfl,by simp[binOp,Op.floatCmp,ho],.bool _⟩)
theorem MF{P:Program} {w:World} {t:TypeId} (h:P.underlying t=some .bool) (x y:Bool):(Op.equal t (.bool x) (.bool y)).run P w=.ok (x==y) w:=by
 exact run_equalIn_bool' w 9999 t x y h
theorem gJ(op:BinOp) (t:TypeId) (X Y:Operand) {x y:Value} (h1:∀u,x≠.agg u) (h2:x≠.nilIface):(eqGuard op t X Y x y).run P w=.ok () w:=by
 unfold eqGuard
 cases x<;>first|exact absurd rfl h2|exact absurd rfl (h1 _)|(cases op<;>rfl)
theorem Pv{op:BinOp} {t:TypeId} (ht:JP P t=true) {a b v:AV} {X Y:Operand} {x y:Value} (h:dZ op a b=some v) (ha:DV w π a x) (hb:DV w π b y):
  ∃u w',Sx w w'/\(do eqGuard op t X Y x y;binOp op t x y:Sem Value).run P w=.ok u w'/\DV w π v u:=by
 unfold dZ at h;split at h
 ·cases ha;cases hb
  obtain⟨u,hu,hd⟩:=D6 (P:=P) (w:=w) (π:=π) h
  refine⟨u,w,.inl rfl,?_,hd⟩
  rw[Sem.run_bind,gJ _ _ _ _ (fun _ h=>by cases h) (fun h=>by cases h)]
  exact hu .i64
 ·cases ha;cases hb
  obtain⟨u,hu,hd⟩:=D6 (P:=P) (w:=w) (π:=π) h
  refine⟨u,w,.inl rfl,?_,hd⟩
  rw[Sem.run_bind,gJ _ _ _ _ (fun _ h=>by cases h) (fun h=>by cases h)]
  exact hu .i64
 ·rename_i hs1 hs2
  split at h
  ·rename_i hk
   subst hk;cases ha;cases hb
   obtain⟨u,hu,hd⟩:=Pt (P:=P) (w:=w) (π:=π) (fun e=>hs1 e) (fun e=>hs2 e) h t
   refine⟨u,w,.inl rfl,?_,hd⟩
   rw[Sem.run_bind,gJ _ _ _ _ (fun _ h=>by cases h) (fun h=>by cases h)]
   exact hu
  ·cases h
 ·split at h
  ·rename_i hk
   subst hk;cases ha;cases hb
   obtain⟨u,w',hw',hu,hd⟩:=K1 (P:=P) (w:=w) (π:=π) h t
   refine⟨u,w',hw',?_,hd⟩
   rw[Sem.run_bind,gJ _ _ _ _ (fun _ h=>by cases h) (fun h=>by cases h)]
   exact hu
  ·cases h
 ·cases ha with
  |eM n hn=>
   cases hb
   obtain⟨u,w',hw',hu,hd⟩:=Fa (P:=P) (w:=w) (π:=π) (.inl hn) h t
   refine⟨u,w',hw',?_,hd⟩
   rw[Sem.run_bind,gJ _ _ _ _ (fun _ h=>by cases h) (fun h=>by cases h)]
   exact hu
 ·cases hb with
  |eM n hn=>
   cases ha
   obtain⟨u,w',hw',hu,hd⟩:=Fa (P:=P) (w:=w) (π:=π) (.inr hn) h t
   refine⟨u,w',hw',?_,hd⟩
   rw[Sem.run_bind,gJ _ _ _ _ (fun _ h=>by cases h) (fun h=>by cases h)]
   exact hu
 ·cases ha with
  |eM n hn=>
   cases hb
   obtain⟨u,w',hw',hu,hd⟩:=Fa (P:=P) (w:=w) (π:=π) (.inl hn) h t
   refine⟨u,w',hw',?_,hd⟩
   rw[Sem.run_bind,gJ _ _ _ _ (fun _ h=>by cases h) (fun h=>by cases h)]
   exact hu
 ·cases h
theorem S7{op:BinOp} {neg:Bool} (hop:(op=.eql/\neg=false)\/(op=.neq/\neg=true)) {t:TypeId} (ht:Mx P t=true) {a b v:AV} {X Y:Operand} {x y:Value} (h:Wq neg a b=some v) (ha:DV w π a x) (hb:DV w π b y):
  ∃u,(do eqGuard op t X Y x y;binOp op t x y:Sem Value).run P w=.ok u w/\DV w π v u:=by
 have hu:P.underlying t=some .bool:=by
  unfold Mx at ht;split at ht
  ·assumption
  ·cases ht
 unfold Wq at h;split at h
 ·cases ha;cases hb;cases h
  rename_i x y
  have hr:=MF (w:=w) hu x y
  rcases hop with⟨rfl,rfl⟩|⟨rfl,rfl⟩
  ·refine⟨.bool (x==y),?_,.bool _⟩
   rw[Sem.run_bind,gJ _ _ _ _ (fun _ h=>by cases h) (fun h=>by cases h)]
   simp[binOp,hr]
  ·refine⟨.bool (x !=y),?_,.bool _⟩
   rw[Sem.run_bind,gJ _ _ _ _ (fun _ h=>by cases h) (fun h=>by cases h)]
   simp[binOp,hr,bne]
 ·cases h
theorem S8{op:UnOp} {a v:AV} {x:Value} (h:S0 op a=some v) (ha:DV w π a x):∃u,(Op.unary op x).run P w=.ok u w/\DV w π v u:=by
 unfold S0 at h;split at h
 ·cases ha;cases h;exact⟨_,rfl,.int _ _⟩
 ·cases ha
  simp only[Option.map_eq_some_iff]at h;obtain⟨n,hn,rfl⟩:=h;exact⟨_,sq hn,.int _ _⟩
 ·cases ha;cases h;exact⟨_,rfl,.float _ _⟩
 ·cases ha;cases h;exact⟨_,rfl,.bool _⟩
 ·cases h
theorem MG{s d:TypeId} {X:Operand} {xo:bB} {c:bW} (hc:JR P s d xo=some c) {a v:AV} {x:Value} (ha:DV w π a x)
  (h:(∃k,c=.oG k xo/\DW k a=some v)\/(∃k,c=.DH k xo/\DX k a=some v)\/(∃k,c=.Gt k xo/\zo k a=some v)):
  ∃u,(convert s d x).run P w=.ok u w/\DV w π v u:=by
 unfold JR at hc;split at hc
 ·rename_i k1 k2 hs hd
  cases hc
  rcases h with⟨k,e,h⟩|⟨k,e,h⟩|⟨k,e,h⟩<;>try(cases e;done)
  cases e;unfold DW at h;split at h
  ·cases ha;cases h
   exact⟨_,by simp[convert,run_underlying hs,run_underlying hd,Conv.intToInt],.int _ _⟩
  ·cases h
 ·rename_i k1 k2 hs hd
  cases hc
  rcases h with⟨k,e,h⟩|⟨k,e,h⟩|⟨k,e,h⟩<;>try(cases e;done)
  cases e;unfold DX at h;split at h
  ·cases ha;cases h
   exact⟨_,by simp[convert,run_underlying hs,run_underlying hd,Conv.intToFloat],.float _ _⟩
  ·cases h
 ·rename_i k1 k2 hs hd
  cases hc
  rcases h with⟨k,e,h⟩|⟨k,e,h⟩|⟨k,e,h⟩<;>try(cases e;done)
  cases e;unfold zo at h;split at h
  ·rename_i sk bb
   cases ha;split at h
   ·rename_i n hn
    split at h
    ·rename_i hr
     cases h
     exact⟨_,by simp[convert,run_underlying hs,run_underlying hd,Conv.floatToInt,hn,hr],.int _ _⟩
    ·cases h
   ·cases h
  ·cases h
 ·cases hc
theorem Pw{t e:TypeId} (he:P.underlying t=some (.slice e)) {Ts:Array TypeId} {Xs:Array Value} {a v:AV} {x:Value} (hT:Ts[0]? =some t) (hX:Xs[0]? =some x) (ha:DV w π a x) (h:Ay a=some v) (ty:TypeId):
  ∃u,(Builtin.len_ Ts ty Xs).run P w=.ok u w/\DV w π v u:=by
 unfold Ay at h;split at h
 ·cases ha;cases h
  exact⟨_,by simp[Builtin.len_,hT,hX,run_underlying he];rfl,.int _ _⟩
 ·cases ha<;>cases h
  ·exact⟨_,by simp[Builtin.len_,hT,hX,run_underlying he];rfl,.int _ _⟩
  ·exact⟨_,by simp[Builtin.len_,hT,hX,run_underlying he];rfl,.int _ _⟩
 ·cases h
end
open Go.RowKit (Below)
section
variable{P:Program} {w:World} {π:Nat->Nat->Prop}
theorem Px{a v:AV} {i:Nat} {x:Value} (h:Mu a i=some v) (ha:DV w π a x):∃u,(Instr.extract x i).run P w=.ok u w/\DV w π v u:=by
 unfold Mu at h;split at h
 ·rename_i vs
  cases ha with
  |cN as us hl hd=>
   have hi:i<vs.length:=by
    rcases Nat.lt_or_ge i vs.length with h'|h'
    ·exact h'
    ·rw[List.getElem?_eq_none h']at h;cases h
   have hu:us[i]? =some us[i]!:=by
    have:i<us.size:=by omega
    simp[this]
   exact⟨_,by simp[Instr.extract,hu],hd i v _ h hu⟩
 ·cases h
theorem GD{t:TypeId} {sz:Option Nat} (ht:AD P t=some sz) {cs:List AV} {us:Array Value} {off:Nat} {v:AV} (hl:cs.length=us.size) (hs:∀a∈cs,a.scalar=true)
  (hd:∀(i:Nat) (a:AV) (v:Value),cs[i]? =some a->us[i]? =some v->DV w π a v) (h:ay cs off sz=some v):∃u,(part t us off).run P w=.ok u w/\DV w π v u:=by
 have hpd:=E7 (w:=w) (π:=π) (f:=fun j=>us.getD j undef) (fun j x hx=>hs x (List.mem_of_getElem? hx)) (fun j x hx=>by
  have hj:j<us.size:=by
   rw[<-hl]
   rcases Nat.lt_or_ge j cs.length with h'|h'
   ·exact h'
   ·rw[List.getElem?_eq_none h']at hx;cases hx
  have hu:us[j]? =some us[j]:=Array.getElem?_eq_getElem hj
  have:=hd j x _ hx hu
  simpa[hj]using this) h
 cases sz with
 |none=>
  obtain⟨d,hu,hg⟩:=GB ht
  have h1:=wL (w:=w) hu
  have hlt:off<us.size:=by have:=hpd.2;omega
  exact⟨us[off],by simp[part,h1,hg,hlt],by simpa[hlt]using hpd.1⟩
 |some n=>
  obtain⟨d,hu,hg,hz⟩:=GA ht
  have h1:=wL (w:=w) hu
  have h2:=eU (w:=w) hz
  have hle:off+n<=us.size:=by have:=hpd.1;omega
  refine⟨.agg (us.extract off (off+n)),by simp[part,h1,hg,h2],?_⟩
  have:us.extract off (off+n)=((List.range n).map fun j=>us.getD (off+j) undef).toArray:=by
   apply Array.ext
   ·simp;omega
   ·intro i h1 h2
    simp at h2
    have:off+i<us.size:=by omega
    simp[this]
  rw[this];exact hpd.2
inductive vF (w:World):World->Prop
 |refl:vF w w
 |step {w':World}:vF w w'->vF w w'.drew
theorem vF.dv{w w':World} {π:Nat->Nat->Prop} (h:vF w w') {v:AV} {u:Value} (hd:DV w π v u):DV w' π v u:=by
 induction h with
 |refl=>exact hd
 |step _ ih=>exact Sx.dv (Or.inr rfl) ih
theorem vF.dvs{w w':World} {π:Nat->Nat->Prop} (h:vF w w') {v:List AV} {u:List Value} (hd:jt w π v u):jt w' π v u:=
 ⟨hd.1,fun i a v h1 h2=>h.dv (hd.2 i a v h1 h2)⟩
theorem vF.trans{w w' w'':World} (h:vF w w') (h':vF w' w''):vF w w'':=by
 induction h' with
 |refl=>exact h
 |step _ ih=>exact .step ih
theorem D7(mx:Bool) (x y t:Nat):DJ ((Question.nanMinMax .f64 mx x y).cut t)=true:=by
 have e:(Question.nanMinMax .f64 mx x y).cut t=(Question.nanBits .f64 x y).cut t:=by simp only[Question.cut]
 rw[e];exact zw x y t
theorem S9{mx:Bool} {x y:Nat} (h:FloatKind.f64.format.order x y=none):
  ∃u,((if mx then Builtin.max2 (.float .f64 x) (.float .f64 y)else Builtin.min2 (.float .f64 x) (.float .f64 y)):Sem Value).run P w=.ok u w.drew/\DV w π .eM u:=by
 cases mx
 ·exact⟨.float .f64 ((Question.nanMinMax .f64 false x y).cut (w.tape w.drawn (Question.nanMinMax .f64 false x y))),by simp[Builtin.min2,h,run_choose_drew,Question.forced],.eM _ (D7 _ _ _ _)⟩
 ·exact⟨.float .f64 ((Question.nanMinMax .f64 true x y).cut (w.tape w.drawn (Question.nanMinMax .f64 true x y))),by simp[Builtin.max2,h,run_choose_drew,Question.forced],.eM _ (D7 _ _ _ _)⟩
theorem Py{mx:Bool} {a b v:AV} {x y:Value} (h:Sr mx a b=some v) (ha:DV w π a x) (hb:DV w π b y):
  ∃u w',vF w w'/\((if mx then Builtin.max2 x y else Builtin.min2 x y):Sem Value).run P w=.ok u w'/\DV w π v u:=by
 have nan:∀n m:Nat,FloatKind.f64.format.order n m=none->v=.eM->x=.float .f64 n->y=.float .f64 m->∃u w',vF w w'/\((if mx then Builtin.max2 x y else Builtin.min2 x y):Sem Value).run P w=.ok u w'/\DV w π v u:=by
  intro n m ho hv hx hy;subst hv hx hy
  obtain⟨u,hu,hd⟩:=S9 (P:=P) (w:=w) (π:=π) (mx:=mx) ho
  exact⟨u,_,.step .refl,hu,hd⟩
 unfold Sr at h;split at h
 ·cases ha;cases hb;cases h
  cases mx<;>exact⟨_,w,.refl,rfl,.int _ _⟩
 ·split at h
  ·rename_i hk
   subst hk;cases ha;cases hb;rename_i k x y;split at h
   ·rename_i ho
    split at h
    ·rename_i hk;subst hk;cases h;exact nan _ _ ho rfl rfl rfl
    ·cases h
   ·rename_i ho;cases h;cases mx<;>exact⟨_,w,.refl,by simp[Builtin.max2,Builtin.min2,ho],.float _ _⟩
   ·rename_i ho;cases h;cases mx<;>exact⟨_,w,.refl,by simp[Builtin.max2,Builtin.min2,ho],.float _ _⟩
   ·rename_i ho;cases h;cases mx<;>exact⟨_,w,.refl,by simp[Builtin.max2,Builtin.min2,ho],.float _ _⟩
  ·cases h
 ·cases h;cases ha;cases hb
  exact nan _ _ (uc (.inl (su (by assumption)))) rfl rfl rfl
 ·cases h;cases ha;cases hb
  exact nan _ _ (uc (.inr (su (by assumption)))) rfl rfl rfl
 ·cases h
  cases ha with
  |eM n hn=>cases hb with
   |eM m hm=>exact nan _ _ (uc (.inl (su hn))) rfl rfl rfl
 ·cases h
theorem IL{mx:Bool}:∀{as:List AV} {us:List Value} {a v:AV} {x:Value} {w:World},as.foldlM (Sr mx) a=some v->DV w π a x->jt w π as us->
  ∃u w',vF w w'/\(us.foldlM (fun p q=>if mx then Builtin.max2 p q else Builtin.min2 p q) x:Sem Value).run P w=.ok u w'/\DV w' π v u
 |[],us,a,v,x,w,h,ha,hs=>by
  have:us=[]:=List.eq_nil_of_length_eq_zero (by simpa using hs.1.symm)
  subst this;simp at h;subst h;exact⟨x,w,.refl,rfl,ha⟩
 |b::as,us,a,v,x,w,h,ha,hs=>by
  cases us with
  |nil=>have:=hs.1;simp at this
  |cons y us=>
   simp only[List.foldlM_cons,Option.bind_eq_bind,Option.bind_eq_some_iff]at h;obtain⟨c,hc,h⟩:=h
   obtain⟨u,w1,hw1,hu,hd⟩:=Py (P:=P) hc ha (hs.2 0 b y rfl rfl)
   have hs':jt w π as us:=⟨by have:=hs.1;simpa using this,fun i a v h1 h2=>hs.2 (i+1) a v (by simpa using h1) (by simpa using h2)⟩
   obtain⟨u',w2,hw2,hu',hd'⟩:=IL h (hw1.dv hd) (hw1.dvs hs')
   exact⟨u',w2,hw1.trans hw2,by simp only[List.foldlM_cons,Sem.run_bind,hu,Result.andThen_ok];exact hu',hd'⟩
end
section ops
variable{P:Program} {nt:Nat} {n0:gb} {w0:World} {π0:Nat->Nat->Prop} {U:Nat->Prop} {s:S} {a:Act} {w:World} {β:Nat->Nat} {τ:Nat->Value} {π:Nat->Nat->Prop}
theorem ah{α:Type} {o:Option α} {k:α->Prop} (h:an o k):∃x,o=some x/\k x:=by
 cases o with
 |none=>exact h.elim
 |some x=>exact⟨x,rfl,h⟩
theorem RV.JX{cs:List AV} {v:Value} (h:RV β τ w π (.rp cs) v) (d:Nat):∃B off,v=.pointer (some ⟨B,off,none⟩)/\RV β τ w π (.rp (cs.drop d)) (.pointer (some ⟨B,off+d,none⟩)):=by
 obtain⟨B,off,f,hv,h1,h2,h3,h4⟩:=h
 refine⟨B,off,hv,B,off+d,fun j=>f (d+j),rfl,?_,?_,?_,?_⟩<;>intro j x hx<;>rw[List.getElem?_drop]at hx
 ·exact h1 _ x hx
 ·have:=h2 _ x hx;rwa[<-Nat.add_assoc]at this
 ·have:=h3 _ x hx;rwa[<-Nat.add_assoc]at this
 ·exact h4 _ x hx
theorem Rel.fieldAddr(R:Rel P nt n0 w0 π0 U s a w β τ π) {t:TypeId} {f:Nat} {fd:Field} {X:Operand} {x:bB} (hx:dr X=some x) (hf:wH P t f=some fd)
  (hz:¬(gj P fd.type==some 0||(gj P fd.type).isNone)=true) {id:Nat} {K:SV->S->Prop} (h:bN (Pure P) id (.fa x fd.offset) K s):
  ∃v y,(Instr.fieldAt t (a.eval X) f).run P w=.ok y w/\RV β τ w π v y/\v.gR U/\K v s:=by
 have hu:∃fs:Array Field,P.underlying t=some (.struct fs)/\fs[f]? =some fd:=by
  unfold wH at hf;split at hf
  ·exact⟨_,by assumption,hf⟩
  ·cases hf
 obtain⟨fs,hu,hfs⟩:=hu
 obtain⟨z,hz1,hz2⟩:∃z,gj P fd.type=some z/\z≠0:=by
  cases hs:gj P fd.type with
  |none=>simp[hs]at hz
  |some z=>exact⟨z,rfl,fun e=>by subst e;simp[hs]at hz⟩
 have hsz:=eU (w:=w) hz1
 have hrun:∀(B off:Nat),a.eval X=.pointer (some ⟨B,off,none⟩)->(Instr.fieldAt t (a.eval X) f).run P w=.ok (.pointer (some ⟨B,off+fd.offset,none⟩)) w:=by
  intro B off he;simp[Instr.fieldAt,run_underlying hu,hfs,he,Instr.sureAddr,fieldPlace,hsz,hz2,kN]
 simp only[bN]at h;obtain⟨p,hp,h⟩:=ah h;obtain⟨hr,hU⟩:=R.dh hx hp
 cases p with
 |dat _ _=>exact h.elim
 |undef=>exact h.elim
 |vs _ _ _ _=>exact h.elim
 |oF _ _ _=>exact h.elim
 |raw _ _=>exact h.elim
 |ptr b o=>exact⟨.ptr b (o+fd.offset),_,hrun _ _ hr,rfl,hU,h⟩
 |rp cs=>
  obtain⟨B,off,hv,hr'⟩:=RV.JX hr fd.offset;exact⟨.rp (cs.drop fd.offset),_,hrun _ _ hv,hr',trivial,h⟩
theorem Rel.idx(R:Rel P nt n0 w0 π0 U s a w β τ π) {X:Operand} {x:bB} {i:Int} {b:AV} (hx:dr X=some x) (hb:Eng.aF s x=some b) (hi:idxOf b=some i):∃k,a.eval X=.int k i:=by
 have hd:=R.aF hx hb
 unfold idxOf at hi;split at hi
 ·rename_i k n
  cases hi;exact⟨k,hd.Pq⟩
 ·cases hi
theorem Rel.MH(R:Rel P nt n0 w0 π0 U s a w β τ π) {t e:TypeId} {n z:Nat} {X I:Operand} {x i:bB} (hx:dr X=some x) (hi:dr I=some i) (ht:P.underlying t=some (.array n e)) (hz:gj P e=some z)
  {id:Nat} {K:SV->S->Prop} (h:bN (Pure P) id (.Gj x i n z) K s):
  ∃v y,(Instr.indexAt t (a.eval X) (a.eval I)).run P w=.ok y w/\RV β τ w π v y/\v.gR U/\K v s:=by
 simp only[bN]at h;obtain⟨p,hp,h⟩:=ah h;obtain⟨b,hb,h⟩:=ah h;obtain⟨j,hj,h⟩:=ah h;obtain⟨hlt,h⟩:=h;obtain⟨k,hk⟩:=R.idx hi hb hj;obtain⟨hr,hU⟩:=R.dh hx hp
 have hsz:=eU (w:=w) hz
 have hrun:∀(B off:Nat),a.eval X=.pointer (some ⟨B,off,none⟩)->(Instr.indexAt t (a.eval X) (a.eval I)).run P w=.ok (.pointer (some ⟨B,off+j.toNat*z,none⟩)) w:=by
  intro B off he;simp[Instr.indexAt,hk,he,asIntOf,run_underlying ht,Instr.sureAddr,hlt,hsz,kN]
 cases p with
 |dat _ _=>exact h.elim
 |undef=>exact h.elim
 |vs _ _ _ _=>exact h.elim
 |oF _ _ _=>exact h.elim
 |raw _ _=>exact h.elim
 |ptr b o=>exact⟨.ptr b (o+j.toNat*z),_,hrun _ _ hr,rfl,hU,h⟩
 |rp cs=>
  obtain⟨B,off,hv,hr'⟩:=RV.JX hr (j.toNat*z)
  exact⟨.rp (cs.drop (j.toNat*z)),_,hrun _ _ hv,hr',trivial,h⟩
theorem Rel.Pz(R:Rel P nt n0 w0 π0 U s a w β τ π) {t e:TypeId} {z:Nat} {X I:Operand} {x i:bB} (hx:dr X=some x) (hi:dr I=some i) (ht:P.underlying t=some (.slice e)) (hz:gj P e=some z)
  {id:Nat} {K:SV->S->Prop} (h:bN (Pure P) id (.Pm x i z) K s):
  ∃v y,(Instr.indexAt t (a.eval X) (a.eval I)).run P w=.ok y w/\RV β τ w π v y/\v.gR U/\K v s:=by
 simp only[bN]at h;obtain⟨l,hl,k1⟩:=ah h;obtain⟨b,hb,k2⟩:=ah k1;obtain⟨j,hj,k3⟩:=ah k2;obtain⟨xs,hxs,hlt,k4⟩:=ah k3;obtain⟨row,hrow,hrl,hK⟩:=ah k4;obtain⟨k,hk⟩:=R.idx hi hb hj
 have hd:=R.aF hx hl
 have hsz:=eU (w:=w) hz
 have hl':l=.sl xs:=by
  cases l<;>simp only[rowsOf]at hxs<;>try(cases hxs;done)
  ·cases hxs;simp at hlt;omega
  ·cases hxs;rfl
 subst hl';generalize hv:a.eval X=v at hd
 cases hd with
 |Mm A=>simp at hrow
 |sl _ B off cap z' f h1 h2 h3 h4 h5 h6=>
  have hzz':z'=z:=by rw[<-h2 _ _ hrow,hrl]
  subst hzz'
  refine⟨.rp row,.pointer (some ⟨B,off+j.toNat*z',none⟩),?_,⟨B,off+j.toNat*z',fun m=>f j.toNat m,rfl,?_,?_,?_,?_⟩,trivial,hK⟩
  ·simp[Instr.indexAt,hk,asIntOf,run_underlying ht,hlt,hsz,kN]
  ·intro m c hc;exact h3 _ m row c hrow hc
  ·intro m c hc;exact h4 _ m row c hrow hc
  ·intro m c hc;exact h5 _ m row c hrow hc
  ·intro m c hc;exact h6 _ m row c hrow hc
end ops
open Go.RowKit (Below)
theorem GF:∀(vs:List Value) (cells:Array Value) (off k:Nat),off+k+vs.length<=cells.size->
  ((vs.zipIdx k).foldl (fun cs (c,j)=>cs.setIfInBounds (off+j) c) cells).toList=cells.toList.take (off+k)++vs++cells.toList.drop (off+k+vs.length)
 |[],cells,off,k,h=>by simp
 |v::vs,cells,off,k,h=>by
  simp only[List.zipIdx_cons,List.foldl_cons]
  have hk:off+k<cells.size:=by simp at h;omega
  rw[GF vs (cells.setIfInBounds (off+k) v) off (k+1) (by simp at h⊢;omega)]
  have e:=list_seg_step cells.toList (off+k) v vs (by simp at h⊢;omega)
  simpa[Array.toList_setIfInBounds,Nat.add_assoc]using e
theorem D8{place:Nat->Option (Nat×Nat)} {cells:Array Value} {i off:Nat} {v:Value} {rest:List (Nat×Value)} (hp:place i=some (off,v.cells.size)) (hf:off+v.cells.size<=cells.size):
  ∃cells',Instr.fill place cells ((i,v)::rest)=Instr.fill place cells' rest/\cells'.toList=cells.toList.take off++v.cells.toList++cells.toList.drop (off+v.cells.toList.length)/\cells'.size=cells.size:=by
 have hl:=GF v.cells.toList cells off 0 (by simpa using hf)
 refine⟨(v.cells.toList.zipIdx 0).foldl (fun cs (c,j)=>cs.setIfInBounds (off+j) c) cells,?_,by simpa using hl,?_⟩
 ·simp only[Instr.fill,hp]
  have hn:¬(off+v.cells.size>cells.size):=by omega
  simp only[ne_eq,not_true_eq_false,decide_false,hn,Bool.or_self,Bool.false_eq_true,if_false,bne_self_eq_false]
  congr 1
  rw[<-Array.foldl_toList];simp
 ·have:=congrArg List.length hl
  simp at this;rw[<-Array.length_toList,hl];simp;omega
section
variable{P:Program} {w:World} {π:Nat->Nat->Prop}
theorem jt.splice{cs ps:List AV} {us vs:List Value} {off:Nat} (h:jt w π cs us) (k:jt w π ps vs) (hle:off+ps.length<=cs.length):
  jt w π (cs.take off++ps++cs.drop (off+ps.length)) (us.take off++vs++us.drop (off+vs.length)):=by
 have h1:=h.1
 have h2:=k.1
 refine⟨by simp;omega,fun i c u hc hu=>?_⟩
 rw[gT _ _ _ hle]at hc
 rw[gT _ _ _ (by omega)]at hu
 rw[<-h2]at hu;split at hc
 ·rename_i hi;rw[if_pos hi]at hu;exact h.2 i c u hc hu
 ·rename_i hi
  rw[if_neg hi]at hu;split at hc
  ·rename_i hi2;rw[if_pos hi2]at hu;exact k.2 _ c u hc hu
  ·rename_i hi2;rw[if_neg hi2]at hu;exact h.2 i c u hc hu
theorem Bl{t:TypeId} {zs:List AV} (h:zeroOf P t=some zs):∃z:Value,(zeroValue t).run P w=.ok z w/\jt w π zs z.cells.toList/\∀a∈zs,a.scalar=true:=by
 unfold zeroOf at h;split at h
 ·rename_i z hz
  simp only[Option.bind_eq_some_iff]at hz;obtain⟨i,hi,hz⟩:=hz
  have hm:=yJ (w:=w) (π:=π) _ _ h
  exact⟨z,by simp[zeroValue,typeInfo,hi,hz],hm.1,hm.2⟩
 ·cases h
end
section ops
variable{P:Program} {nt:Nat} {n0:gb} {w0:World} {π0:Nat->Nat->Prop} {U:Nat->Prop} {s:S} {a:Act} {w:World} {β:Nat->Nat} {τ:Nat->Value} {π:Nat->Nat->Prop}
theorem Rel.fill(R:Rel P nt n0 w0 π0 U s a w β τ π) {t:TypeId} {place:Nat->Option (Nat×Nat)} (hpl:∀i o z,JQ P t i=some (o,z)->place i=some (o,z)):
  ∀(Xs:List (Nat×Operand)) (ps:List (Nat×Nat×bB)) (as:List (Nat×List AV)) (cs:List AV) (us:Array Value),yH P t Xs=some ps->iD s ps=some as->sg cs.length ps=true->
   jt w π cs us.toList->(∀c∈cs,c.scalar=true)->
   ∃us',Instr.fill place us (Xs.map fun p=>(p.1,a.eval p.2))=some us'/\jt w π (nF cs as) us'.toList/\∀c∈nF cs as,c.scalar=true
 |[],ps,as,cs,us,h1,h2,h3,hd,hs=>by
  simp[yH]at h1;subst h1;simp[iD]at h2;subst h2;exact⟨us,rfl,hd,hs⟩
 |(i,X)::Xs,ps,as,cs,us,h1,h2,h3,hd,hs=>by
  simp only[yH]at h1;split at h1
  ·rename_i o z x ps' hp hx hps
   cases h1;simp only[iD]at h2;split at h2
   ·rename_i av as' hav has
    split at h2
    ·rename_i hz
     obtain⟨hz,hok⟩:=hz;cases h2;simp only[sg,Bool.and_eq_true,decide_eq_true_eq]at h3
     have hdv:=R.aF hx hav
     obtain⟨hcs,hsc⟩:=hdv.cells (fun vs e=>by subst e;simp[ig]at hok)
     have hsz:(a.eval X).cells.size=z:=by have:=hcs.1;simp at this;omega
     have husz:us.size=cs.length:=by have:=hd.1;simp at this;omega
     obtain⟨us1,he,hl1,hs1⟩:=D8 (place:=place) (cells:=us) (i:=i) (off:=o) (v:=a.eval X) (rest:=Xs.map fun p=>(p.1,a.eval p.2)) (by rw[hsz];exact hpl i o z hp) (by omega)
     have hd1:jt w π (cs.take o++av.cells++cs.drop (o+av.cells.length)) us1.toList:=by rw[hl1];exact hd.splice hcs (by omega)
     have hs1':∀c∈cs.take o++av.cells++cs.drop (o+av.cells.length),c.scalar=true:=by
      intro c hc;simp only[List.mem_append]at hc
      rcases hc with(hc|hc)|hc
      ·exact hs c (List.mem_of_mem_take hc)
      ·exact hsc c hc
      ·exact hs c (List.mem_of_mem_drop hc)
     obtain⟨us',hf,hd',hs'⟩:=R.fill hpl Xs ps' as' _ us1 hps has (by
      have:(cs.take o++av.cells++cs.drop (o+av.cells.length)).length=cs.length:=by simp;omega
      rw[this];exact h3.2) hd1 hs1'
     exact⟨us',by rw[List.map_cons,he];exact hf,hd',hs'⟩
    ·cases h2
   ·cases h2
  ·cases h1
theorem Bm{P:Program} {w:World} {α β:Type} (xs:Array α) (f:α->Sem β) (g:α->β) (h:∀x∈xs,(f x).run P w=.ok (g x) w):(xs.mapM f).run P w=.ok (xs.map g) w:=by
 obtain⟨l⟩:=xs;rw[List.mapM_toArray,Sem.run_map]
 have:∀l:List α,(∀x∈l,(f x).run P w=.ok (g x) w)->(l.mapM f).run P w=.ok (l.map g) w:=by
  intro l
  induction l with
  |nil=>intro _;rfl
  |cons x l ih=>
   intro h
   simp[List.mapM_cons,Sem.run_bind,h x (by simp),ih (fun y hy=>h y (by simp[hy]))]
 rw[this l (fun x hx=>h x (by simpa using hx))]
 simp
theorem Rel.build(R:Rel P nt n0 w0 π0 U s a w β τ π) {t:TypeId} {Xs:Array (Nat×Operand)} {zs:List AV} {ps:List (Nat×Nat×bB)} (hz:zeroOf P t=some zs) (hps:yH P t Xs.toList=some ps) (hfit:sg zs.length ps=true) (hok:E3 P t=true)
  {id:Nat} {K:SV->S->Prop} (h:bN (Pure P) id (.build zs ps) K s):
  ∃v y,(Instr.build t (Xs.map fun(i,x)=>(i,a.eval x))).run P w=.ok y w/\RV β τ w π v y/\v.gR U/\K v s:=by
 simp only[bN]at h;obtain⟨as,has,hK⟩:=ah h
 obtain⟨z,hzr,hzd,hzs⟩:=Bl (P:=P) (w:=w) (π:=π) hz
 unfold E3 at hok;split at hok
 ·rename_i fs hu
  have hm:=Bm (P:=P) (w:=w) fs (fun f=>do pure (f.offset,<-sizeOf f.type)) (fun f=>(f.offset,(gj P f.type).getD 0)) (by
   intro f hf
   have:=(List.all_eq_true.1 hok) f (by simpa using hf)
   cases hs:gj P f.type with
   |none=>simp[hs]at this
   |some z=>simp[eU (w:=w) hs])
  obtain⟨us',hf,hd,hs⟩:=R.fill (place:=((fs.map fun f=>(f.offset,(gj P f.type).getD 0))[·]?)) (fun i o z hp=>by
   unfold JQ at hp;simp only[hu]at hp;split at hp
   ·rename_i f hfi
    simp only[Option.map_eq_some_iff]at hp;obtain⟨z',hz',e⟩:=hp;cases e;simp[hfi,hz']
   ·cases hp) Xs.toList ps as zs z.cells hps has hfit hzd hzs
  refine⟨.dat (.agg (nF zs as)) none,.agg us',?_,⟨.agg _ _ (by have:=hd.1;simpa using this) hs (fun i a v ha hv=>hd.2 i a v ha (by simpa using hv)),fun t ht=>by cases ht⟩,trivial,hK⟩
  simp only[Instr.build,Sem.run_bind,hzr,Result.andThen_ok,run_underlying hu,hm]
  have:(Xs.map fun(i,x)=>(i,a.eval x)).toList=Xs.toList.map fun p=>(p.1,a.eval p.2):=by simp
  rw[this,hf];rfl
 ·rename_i n e hu
  cases hse:gj P e with
  |none=>simp[hse]at hok
  |some ze=>
   obtain⟨us',hf,hd,hs⟩:=R.fill (place:=fun i=>some (i*ze,ze)) (fun i o z hp=>by
    unfold JQ at hp;simp[hu,hse]at hp;obtain⟨rfl,rfl⟩:=hp
    rfl) Xs.toList ps as zs z.cells hps has hfit hzd hzs
   refine⟨.dat (.agg (nF zs as)) none,.agg us',?_,⟨.agg _ _ (by have:=hd.1;simpa using this) hs (fun i a v ha hv=>hd.2 i a v ha (by simpa using hv)),fun t ht=>by cases ht⟩,trivial,hK⟩
   simp only[Instr.build,Sem.run_bind,hzr,Result.andThen_ok,run_underlying hu,eU (w:=w) hse]
   have:(Xs.map fun(i,x)=>(i,a.eval x)).toList=Xs.toList.map fun p=>(p.1,a.eval p.2):=by simp
   rw[this,hf];rfl
 ·cases hok
end ops
open Go.RowKit (Below)
theorem kO{α:Type} {z:Nat}:∀{xs:List (List α)},(∀r∈xs,r.length=z)->∀{i j:Nat} {r:List α} {a:α},xs[i]? =some r->r[j]? =some a->xs.flatten[i*z+j]? =some a
 |[],h,i,j,r,a,hr,ha=>by simp at hr
 |x::xs,h,0,j,r,a,hr,ha=>by
  simp at hr;subst hr
  have hj:j<x.length:=by
   rcases Nat.lt_or_ge j x.length with h'|h'
   ·exact h'
   ·rw[List.getElem?_eq_none h']at ha;cases ha
  simp only[List.flatten_cons,Nat.zero_mul,Nat.zero_add];rw[List.getElem?_append_left hj];exact ha
 |x::xs,h,i+1,j,r,a,hr,ha=>by
  have hx:=h x (by simp)
  have:=kO (xs:=xs) (fun r hr=>h r (by simp[hr])) (by simpa using hr) ha
  simp only[List.flatten_cons]
  rw[List.getElem?_append_right (by rw[hx,Nat.add_mul];omega)]
  rw[hx,show(i+1)*z+j-z=i*z+j by rw[Nat.add_mul];omega]
  exact this
theorem iI{α:Type} {z:Nat}:∀{xs:List (List α)},(∀r∈xs,r.length=z)->xs.flatten.length=xs.length*z
 |[],h=>by simp
 |x::xs,h=>by
  have hx:=h x (by simp)
  have:=iI (xs:=xs) (fun r hr=>h r (by simp[hr]))
  simp[hx,this,Nat.add_mul];omega
section
variable{P:Program} {nt:Nat} {n0:gb} {w0:World} {π0:Nat->Nat->Prop} {U:Nat->Prop} {s:S} {a:Act} {w:World} {β:Nat->Nat} {τ:Nat->Value} {π:Nat->Nat->Prop}
def grow(π:Nat->Nat->Prop) (B m:Nat):Nat->Nat->Prop:=fun b o=>π b o\/(b=B/\o<m)
theorem Rel.newRow(R:Rel P nt n0 w0 π0 U s a w β τ π) {xs:List (List AV)} {z cap:Nat} {cs:Array Value} (e:TypeId) (hrow:∀r∈xs,r.length=z) (hcap:xs.length<=cap) (hlen:xs.length*z<=cs.size)
  (hd:∀(i:Nat) (x:AV) (v:Value),xs.flatten[i]? =some x->cs[i]? =some v->DV w π x v) (hs:∀r∈xs,∀x∈r,x.scalar=true):
  Rel P nt n0 w0 π0 U s a (w.alloc (.cells cs e)) β τ (grow π w.heap.size (xs.length*z))/\
   DV (w.alloc (.cells cs e)) (grow π w.heap.size (xs.length*z)) (.sl xs) (.slice (some ⟨w.heap.size,0,none⟩) xs.length cap):=by
 have hbel:Below w.heap.size w (w.alloc (.cells cs e)):=(Below.refl _ _).alloc (Nat.le_refl _) _
 refine⟨R.frame (fun _ _=>rfl) (fun _ _=>rfl) (fun _ h=>h) (fun _ _ h=>.inl h) (fun b o h=>?_) (fun b o h=>?_) hbel,?_⟩
 ·rcases h with h|⟨rfl,_⟩
  ·exact .inl h
  ·exact .inr (Nat.le_refl _)
 ·rcases h with h|⟨rfl,_⟩
  ·have:=R.eO b o h;simp;omega
  ·simp
 ·have hmono:∀{x:AV} {v:Value},DV w π x v->DV (w.alloc (.cells cs e)) (grow π w.heap.size (xs.length*z)) x v:=fun h=>h.mono (fun _ _ h=>.inl h) (fun b o h=>Below.tZ hbel (R.eO b o h))
  have hin:∀(i j:Nat) (r:List AV) (x:AV),xs[i]? =some r->r[j]? =some x->i*z+j<xs.length*z:=by
   intro i j r x hr hx
   have hf:=kO hrow hr hx
   rcases Nat.lt_or_ge (i*z+j) (xs.length*z)with h'|h'
   ·exact h'
   ·rw[List.getElem?_eq_none (by rw[iI hrow];exact h')]at hf;cases hf
  refine .sl xs w.heap.size 0 cap z (fun i j=>cs.getD (i*z+j) undef) hcap (fun i r hr=>hrow r (List.mem_of_getElem? hr)) (fun i j r x hr hx=>hs r (List.mem_of_getElem? hr) x (List.mem_of_getElem? hx)) ?_ ?_ ?_
  ·intro i j r x hr hx
   exact .inr ⟨rfl,by have:=hin i j r x hr hx;omega⟩
  ·intro i j r x hr hx
   have hlt:=hin i j r x hr hx
   rw[cell_of_row _ _ _ cs e (0,0) (heap_alloc_new w _)]
   have:i*z+j<cs.size:=by omega
   simp[this]
  ·intro i j r x hr hx
   have hlt:i*z+j<cs.size:=by have:=hin i j r x hr hx;omega
   have:=hd (i*z+j) x cs[i*z+j] (kO hrow hr hx) (Array.getElem?_eq_getElem hlt)
   have hgd:cs.getD (i*z+j) undef=cs[i*z+j]:=by simp[hlt]
   rw[hgd];exact hmono this
theorem jy{q k e:Nat}:∀{l:List (Nat×Nat)},d7 q (jr k l)=some e->d7 q l=some e/\q≠k
 |[],h=>by simp[jr,d7]at h
 |(m,v)::r,h=>by
  simp only[jr]at h
  by_cases hk:k=m
  ·subst hk
   simp only[beq_self_eq_true,cond_true]at h;obtain⟨h1,h2⟩:=jy h
   have hf:(q==k)=false:=by simpa using h2
   exact⟨by simp[d7,hf,h1],h2⟩
  ·have hf:(k==m)=false:=by simpa using hk
   simp only[hf,cond_false,d7]at h
   by_cases hq:q=m
   ·subst hq
    simp at h
    exact⟨by simp[d7,h],fun e=>hk e.symm⟩
   ·have hf':(q==m)=false:=by simpa using hq
    simp only[hf',cond_false]at h;obtain⟨h1,h2⟩:=jy h
    exact⟨by simp[d7,hf',h1],h2⟩
theorem Rel.sA(R:Rel P nt n0 w0 π0 U s a w β τ π) {id e:Nat} {v:Value} (hid:¬U id) (ht:E5 P w π n0.ok e v)
  (hl:∀q e' B,d7 q s.live=some e'->iH (τ q)=some B->iH v≠some B) (hb:∀b x,b9 b s.boxes=some x->iH v≠some (β b)):
  Rel P nt n0 w0 π0 (fk U id) {s with live:=(id,e)::s.live} a w β (DN τ id v) π:=by
 have hne:∀b,U b->b≠id:=fun b hb e=>hid (e▸hb)
 have R1:Rel P nt n0 w0 π0 (fk U id) s a w β (DN τ id v) π:=
  R.frame (fun _ _=>rfl) (fun b hb=>vE _ _ _ (hne b hb)) (fun n h=>.inl h) (fun _ _ h=>h) (fun _ _ h=>.inl h) R.eO (Below.refl _ _)
 have hcase:∀{q e'},d7 q ((id,e)::s.live)=some e'->(q=id/\e'=e)\/(q≠id/\d7 q s.live=some e'):=by
  intro q e' h;simp only[d7]at h
  by_cases hq:q=id
  ·subst hq;simp at h;exact .inl ⟨rfl,h.symm⟩
  ·have hf:(q==id)=false:=by simpa using hq
   simp only[hf,cond_false]at h;exact .inr ⟨hq,h⟩
 refine⟨R1.size,R1.slots,R1.boxes,R1.inj,fun q e' h=>?_,fun q q' e' e'' B h h' hB hB'=>?_,fun q e' b x h h' hB=>?_,R1.below,R1.eS,R1.eO,R1.eF,R1.dc,R1.mj,R1.jf,R1.kept⟩
 ·rcases hcase h with⟨rfl,rfl⟩|⟨_,h⟩
  ·exact⟨.inr rfl,by rw[cj];exact ht⟩
  ·exact R1.live q e' h
 ·rcases hcase h with⟨k1,_⟩|⟨hq,k⟩<;>rcases hcase h' with⟨k1',_⟩|⟨hq',k'⟩
  ·rw[k1,k1']
  ·rw[k1,cj]at hB
   rw[vE _ _ _ hq']at hB';exact absurd hB (hl q' e'' B k' hB')
  ·rw[k1',cj]at hB'
   rw[vE _ _ _ hq]at hB;exact absurd hB' (hl q e' B k hB)
  ·exact R1.cq q q' e' e'' B k k' hB hB'
 ·rcases hcase h with⟨rfl,rfl⟩|⟨hq,h⟩
  ·rw[cj]at hB;exact hb b x h' hB
  ·exact R1.cH q e' b x h h' hB
theorem Rel.IM(R:Rel P nt n0 w0 π0 U s a w β τ π) (q:Nat):Rel P nt n0 w0 π0 U {s with live:=jr q s.live} a w β τ π:=
 ⟨R.size,R.slots,R.boxes,R.inj,fun k e h=>R.live k e (jy h).1,fun k k' e e' B h h'=>R.cq k k' e e' B (jy h).1 (jy h').1,fun k e b x h=>R.cH k e b x (jy h).1,R.below,R.eS,R.eO,R.eF,R.dc,R.mj,R.jf,R.kept⟩
theorem Rel.GG(R:Rel P nt n0 w0 π0 U s a w β τ π) {B m:Nat} {cur cur':Array Value} {e:TypeId} (hB:n0.ok B) (hh:w.heap[B]? =some (.cells cur e (0,0)))
  (hsame:∀o,π B o->cur'[o]? =cur[o]?) (hl:∀q e',d7 q s.live=some e'->iH (τ q)≠some B) (hb:∀b x,b9 b s.boxes=some x->β b≠B):
  Rel P nt n0 w0 π0 U s a (w.setRow B cur') β τ (grow π B m):=by
 have hlt:=nI hh
 have hother:∀k,k≠B->(w.setRow B cur').heap[k]? =w.heap[k]?:=fun k hk=>setRow_other w _ k cur' hk
 have hc:∀b o,π b o->(w.setRow B cur').cell? ⟨b,o,none⟩=w.cell? ⟨b,o,none⟩:=by
  intro b o h
  by_cases e':b=B
  ·subst e'
   rw[cell_of_row _ _ _ cur' e (0,0) (setRow_heap w _ cur _ e _ hh),cell_of_row _ _ _ cur e (0,0) hh];exact hsame o h
  ·exact cell_setRow_other w _ cur' ⟨b,o,none⟩ e'
 have hp:∀b o,π b o->grow π B m b o:=fun _ _ h=>.inl h
 have hp':∀b o,b≠B->grow π B m b o->π b o:=fun b o hb h=>by
  rcases h with h|⟨h,_⟩
  ·exact h
  ·exact absurd h hb
 refine⟨R.size,fun t v h=>?_,fun b x h=>?_,R.inj,fun q e' h=>?_,R.cq,R.cH,R.below.trans ⟨rfl,rfl,rfl,by simp,fun k hk hx=>hother k (fun e=>by subst e;exact hB.elim (fun h=>by omega) hx),fun k o hk ho=>(hother k (fun e=>by subst e;rw[hh]at hk;cases hk;cases ho)).trans hk⟩,R.eS,fun b o h=>?_,fun b o h=>hp _ _ (R.eF b o h),fun b o h=>?_,R.mj,R.jf,fun b o h=>(hc b o (R.eF b o h)).trans (R.kept b o h)⟩
 ·obtain⟨⟨x,hx,hv⟩,hu⟩:=R.slots t v h
  exact⟨⟨x,hx,RV.mono (fun _ _=>rfl) (fun _ _=>rfl) hp hc hu hv⟩,hu⟩
 ·obtain⟨h1,h2,h3,h4⟩:=R.boxes b x h
  refine⟨h1,h2,h3.keep (fun _ _=>rfl) h4 (hother _ (hb b x h)) hp hc (fun o ho=>?_),h4⟩
  obtain⟨_,_,_,_,_,_,hn⟩:=h3;exact hn o (hp' _ o (hb b x h) ho)
 ·obtain⟨h1,h2⟩:=R.live q e' h
  exact⟨h1,h2.keep (fun C hC=>hother C (fun eC=>hl q e' h (by rw[hC,eC]))) (fun C o hC ho=>hp' C o (fun eC=>hl q e' h (by rw[hC,eC])) ho)⟩
 ·rcases h with h|⟨rfl,_⟩
  ·simpa using R.eO b o h
  ·simpa using hlt
 ·rcases h with h|⟨rfl,_⟩
  ·exact R.dc b o h
  ·exact .inr hB
theorem Rel.draw(R:Rel P nt n0 w0 π0 U s a w β τ π):Rel P nt n0 w0 π0 U s a w.drew β τ π:=
 R.frame (fun _ _=>rfl) (fun _ _=>rfl) (fun _ h=>h) (fun _ _ h=>h) (fun _ _ h=>.inl h) R.eO (Below.refl _ _).drew
theorem Rel.kP(R:Rel P nt n0 w0 π0 U s a w β τ π) {w':World} (h:vF w w'):Rel P nt n0 w0 π0 U s a w' β τ π:=by
 induction h with
 |refl=>exact R
 |step _ ih=>exact ih.draw
end
open Go.RowKit (Below)
section
variable{P:Program} {nt:Nat} {n0:gb} {w0:World} {π0:Nat->Nat->Prop} {U:Nat->Prop} {s:S} {a:Act} {w:World} {β:Nat->Nat} {τ:Nat->Value} {π:Nat->Nat->Prop}
theorem Rel.GH(R:Rel P nt n0 w0 π0 U s a w β τ π) (z:Nat):∀(Xs:List (Nat×Operand)) (xs:List bB) (rows:List (List AV)) (k:Nat) (pre tail:List AV) (us:Array Value),
  Xs.map (·.1)=(List.range Xs.length).map (· +k)->Xs.mapM (fun p=>dr p.2)=some xs->lT s z xs=some rows->jt w π (pre++tail) us.toList->(∀c∈pre++tail,c.scalar=true)->pre.length=k*z->tail.length=Xs.length*z->
  ∃us',Instr.fill (fun i=>some (i*z,z)) us (Xs.map fun p=>(p.1,a.eval p.2))=some us'/\jt w π (pre++rows.flatten) us'.toList/\(∀c∈pre++rows.flatten,c.scalar=true)/\rows.length=Xs.length/\∀r∈rows,r.length=z
 |[],xs,rows,k,pre,tail,us,h1,h2,h3,hd,hs,hp,ht=>by
  simp at h2;subst h2;simp[lT]at h3;subst h3
  have:tail=[]:=List.eq_nil_of_length_eq_zero (by simpa using ht)
  subst this
  exact⟨us,rfl,by simpa using hd,by simpa using hs,rfl,by simp⟩
 |(i,X)::Xs,xs,rows,k,pre,tail,us,h1,h2,h3,hd,hs,hp,ht=>by
  simp only[List.mapM_cons,Option.bind_eq_bind,Option.bind_eq_some_iff,Option.pure_def,Option.some.injEq]at h2;obtain⟨x,hx,xs',hxs,rfl⟩:=h2;simp only[lT]at h3;split at h3
  ·rename_i av rows' hav hrows
   split at h3
   ·rename_i hz
    obtain⟨hz,hok⟩:=hz;cases h3
    have hi:i=k:=by
     have:=congrArg (fun l=>l[0]?) h1
     simpa using this
    subst hi
    have h1':Xs.map (·.1)=(List.range Xs.length).map (· +(i+1)):=by
     have h1t:=congrArg List.tail h1
     simp only[List.map_cons,List.tail_cons,List.length_cons,List.range_succ_eq_map,List.map_map]at h1t;rw[h1t]
     apply List.map_congr_left
     intro q _;simp;omega
    have hdv:=R.aF hx hav
    obtain⟨hcs,hsc⟩:=hdv.cells (fun vs e=>by subst e;simp[ig]at hok)
    have hsz:(a.eval X).cells.size=z:=by have:=hcs.1;simp at this;omega
    have husz:us.size=pre.length+tail.length:=by have:=hd.1;simp at this;omega
    have htl:tail.length=Xs.length*z+z:=by rw[ht];simp[Nat.add_mul]
    obtain⟨us1,he,hl1,hs1⟩:=D8 (place:=fun i=>some (i*z,z)) (cells:=us) (i:=i) (off:=i*z) (v:=a.eval X) (rest:=Xs.map fun p=>(p.1,a.eval p.2)) (by rw[hsz]) (by omega)
    have hsp:=hd.splice hcs (off:=i*z) (by simp;omega)
    have heq:(pre++tail).take (i*z)++av.cells++(pre++tail).drop (i*z+av.cells.length)=(pre++av.cells)++tail.drop z:=by
     rw[<-hp,List.take_left,hz,List.drop_append,List.drop_eq_nil_of_le (by omega)]
     simp
    rw[heq]at hsp
    have hsall:∀c∈(pre++av.cells)++tail.drop z,c.scalar=true:=by
     intro c hc;simp only[List.mem_append]at hc
     rcases hc with(hc|hc)|hc
     ·exact hs c (by simp[hc])
     ·exact hsc c hc
     ·exact hs c (by simp[List.mem_of_mem_drop hc])
    obtain⟨us',hf,hd',hs',hlen,hrl⟩:=R.GH z Xs xs' rows' (i+1) (pre++av.cells) (tail.drop z) us1 h1' hxs hrows (by rw[hl1];exact hsp) hsall (by simp[hp,hz,Nat.add_mul]) (by simp;omega)
    refine⟨us',by rw[List.map_cons,he];exact hf,by simpa[List.append_assoc]using hd',by simpa[List.append_assoc]using hs',by simp[hlen],?_⟩
    intro r hr
    rcases List.mem_cons.1 hr with rfl|hr
    ·exact hz
    ·exact hrl r hr
   ·cases h3
  ·cases h3
theorem Rel.buildSlice(R:Rel P nt n0 w0 π0 U s a w β τ π) {t e:TypeId} {n z:Nat} {Xs:Array (Nat×Operand)} {zs:List AV} {xs:List bB} (ht:P.underlying t=some (.slice e)) (hzv:zeroOf P e=some zs) (hz:gj P e=some z)
  (hxs:Xs.toList.mapM (fun p=>dr p.2)=some xs) (hok:(n*z<=16777216&&0<z&&zs.length==z&&Xs.toList.map (·.1)==List.range n)=true) {id:Nat} (hid:¬U id) {K:SV->S->Prop} (h:bN (Pure P) id (.mz e z xs) K s):
  ∃v y s' w' τ' π',(Instr.buildSlice t n (Xs.map fun(i,x)=>(i,a.eval x))).run P w=.ok y w'/\RV β τ' w' π' v y/\v.gR (fk U id)/\K v s'/\Rel P nt n0 w0 π0 (fk U id) s' a w' β τ' π':=by
 simp only[bN]at h;obtain⟨rows,hrows,hK⟩:=ah h;simp only[Bool.and_eq_true,decide_eq_true_eq,beq_iff_eq]at hok;obtain⟨⟨⟨hn,hz0⟩,hzl⟩,hidx⟩:=hok
 obtain⟨zv,hzr,hzd,hzsc⟩:=Bl (P:=P) (w:=w) (π:=π) hzv
 have hXl:Xs.toList.length=n:=by have:=congrArg List.length hidx;simpa using this
 have hzsz:zv.cells.size=z:=by have:=hzd.1;simp at this;omega
 -- the row of zeros that is filled
 have hinit:jt w π ([]++(List.range (n*z)).map fun i=>zs.getD (i%z) default) ((Array.range (n*z)).map (zv.cells[· %zv.cells.size]!)).toList:=by
  refine⟨by simp,fun i c u hc hu=>?_⟩
  simp only[List.nil_append,List.getElem?_map,Array.toList_map,Array.toList_range]at hc hu
  by_cases hi:i<n*z
  ·have hm:i%z<z:=Nat.mod_lt _ hz0
   rw[List.getElem?_range hi]at hc hu;simp only[Option.map_some,Option.some.injEq]at hc hu;subst hc;subst hu
   have h1:zs[i%z]? =some (zs.getD (i%z) default):=by
    rw[List.getD_eq_getElem?_getD,List.getElem?_eq_getElem (by omega)];simp
   have h2:zv.cells.toList[i%z]? =some (zv.cells[i%zv.cells.size]!):=by
    rw[hzsz]
    have:i%z<zv.cells.size:=by omega
    simp[this]
   exact hzd.2 _ _ _ h1 h2
  ·rw[List.getElem?_eq_none (by simp;omega)]at hc
   simp at hc
 have hinits:∀c∈([]:List AV)++(List.range (n*z)).map fun i=>zs.getD (i%z) default,c.scalar=true:=by
  intro c hc;simp only[List.nil_append,List.mem_map,List.mem_range]at hc;obtain⟨i,hi,rfl⟩:=hc
  have hm:i%z<zs.length:=by rw[hzl];exact Nat.mod_lt _ hz0
  rw[List.getD_eq_getElem?_getD,List.getElem?_eq_getElem hm];exact hzsc _ (List.getElem_mem hm)
 obtain⟨us',hf,hd,hs,hlen,hrl⟩:=R.GH z Xs.toList xs rows 0 [] _ _ (by rw[hidx,hXl];simp) hxs hrows hinit hinits (by simp) (by simp[hXl])
 simp only[List.nil_append]at hd hs
 have hrn:rows.length=n:=by rw[hlen,hXl]
 have husz:us'.size=n*z:=by have:=hd.1;rw[iI hrl,hrn]at this;simpa using this.symm
 obtain⟨R',hdv⟩:=R.newRow (xs:=rows) (z:=z) (cap:=n) (cs:=us') e hrl (by omega) (by rw[hrn];omega) (fun i x v hx hv=>hd.2 i x v hx (by simpa using hv)) (fun r hr x hx=>hs x (List.mem_flatten.2 ⟨r,hr,hx⟩))
 obtain⟨i,hi,hisz⟩:∃i,P.info? e=some i/\i.size=z:=by
  simp only[gj,Option.map_eq_some_iff]at hz;obtain⟨i,hi,hiz⟩:=hz;exact⟨i,hi,hiz⟩
 have hsz0:n0.n<=w.heap.size:=Nat.le_trans R.eS R.below.size
 have R2:=R'.sA (v:=.slice (some ⟨w.heap.size,0,none⟩) rows.length n) hid (by
   refine .inr ⟨w.heap.size,rows.length,n,us',i,rfl,.inl hsz0,heap_alloc_new w _,by omega,?_,hi,by rw[hisz];exact husz,fun o ho hc=>?_⟩
   ·have:=Nat.le_mul_of_pos_right n hz0
    simp only[maxLen];omega
   ·rw[hisz]at ho
    rcases hc with h|⟨_,h⟩
    ·have:=R.eO _ _ h;omega
    ·omega)
  (fun q e' B hq hB hB'=>by
   have h1:=((R.live q e' hq).2.block hB).2
   simp[iH]at hB'
   omega)
  (fun b x hb hB'=>by
   obtain⟨_,_,⟨cur,el,hh,_⟩,_⟩:=R.boxes b x hb
   have:=nI hh
   simp[iH]at hB'
   omega)
 refine⟨.dat (.sl rows) (some id),_,_,_,_,_,?_,⟨hdv,fun t ht=>by cases ht;rw[cj]⟩,.inr rfl,hK,R2⟩
 have hlim:¬(n*z>16777216):=by omega
 have htl:(Xs.map fun(i,x)=>(i,a.eval x)).toList=Xs.toList.map fun p=>(p.1,a.eval p.2):=by simp
 by_cases hnz:n*z=0
 ·have hn0:n=0:=by
   rcases Nat.mul_eq_zero.1 hnz with h|h
   ·exact h
   ·omega
  subst hn0
  have hX:Xs.toList=[]:=List.eq_nil_of_length_eq_zero hXl
  have hus:us'=#[]:=by
   apply Array.eq_empty_of_size_eq_zero
   rw[husz];simp
  have hX':Xs=#[]:=by cases Xs;simp at hX;subst hX;rfl
  subst hX' hus
  simp[Instr.buildSlice,run_underlying ht,eU (w:=w) hz,Instr.fill,Go.newRow,hrn]
  congr 2
  exact Array.eq_empty_of_size_eq_zero (by simp)
 ·simp only[Instr.buildSlice,Sem.run_bind,run_underlying ht,Result.andThen_ok,eU (w:=w) hz]
  rw[if_neg (by simpa using hlim)]
  simp only[hnz,if_false,Sem.run_bind,Sem.run_pure,Result.andThen_ok,hzr,htl,hf,Go.newRow,run_newObj,hrn];rfl
theorem DV.news{ys:List (List AV)} {B off m c:Nat} {z:Nat} (h:DV w π (.sl ys) (.slice (some ⟨B,off,none⟩) m c)) (hz:∀r∈ys,r.length=z):
  m=ys.length/\∃news:List Value,news.length=m*z/\(∀j u,news[j]? =some u->w.cell? ((⟨B,off,none⟩:Addr).add j)=some u)/\(∀u∈news,u.oneCell'=true)/\jt w π ys.flatten news/\∀r∈ys,∀x∈r,x.scalar=true:=by
 cases h with
 |Mm _=>exact⟨rfl,[],by simp,by simp,by simp,⟨rfl,by simp⟩,by simp⟩
 |sl _ _ _ cap z' f h1 h2 h3 h4 h5 h6=>
  refine⟨rfl,?_⟩
  have hfl:=iI hz
  -- every place of the row is some element's
  have hat:∀q,q<ys.length*z->∃(i j:Nat) (r:List AV) (x:AV),ys[i]? =some r/\r[j]? =some x/\q=i*z+j/\ys.flatten[q]? =some x/\z'=z:=by
   intro q hq
   have hz0:0<z:=by
    rcases Nat.eq_zero_or_pos z with e|e
    ·subst e;simp at hq
    ·exact e
   have hi:q/z<ys.length:=by rw[Nat.div_lt_iff_lt_mul hz0];exact hq
   have hr:=List.getElem?_eq_getElem hi
   have hrl:=hz _ (List.getElem_mem hi)
   have hj:q%z<(ys[q/z]).length:=by rw[hrl];exact Nat.mod_lt _ hz0
   have hx:=List.getElem?_eq_getElem hj
   have hq':q/z*z+q%z=q:=by rw[Nat.mul_comm];exact Nat.div_add_mod q z
   refine⟨q/z,q%z,_,_,hr,hx,hq'.symm,?_,by rw[<-h2 _ _ hr,hrl]⟩
   have:=kO hz hr hx
   rwa[hq']at this
  refine⟨(List.range (ys.length*z)).map fun q=>f (q/z) (q%z),by simp,?_,?_,⟨by simp[hfl],?_⟩,fun r hr x hx=>?_⟩
  ·intro q u hu
   have hq:q<ys.length*z:=by
    rcases Nat.lt_or_ge q (ys.length*z)with h'|h'
    ·exact h'
    ·rw[List.getElem?_eq_none (by simp;omega)]at hu;cases hu
   obtain⟨i,j,r,x,hr,hx,he,_,hzz⟩:=hat q hq;subst hzz
   have hz0:0<z':=by
    rcases Nat.eq_zero_or_pos z' with e|e
    ·subst e;simp at hq
    ·exact e
   have hjz:j<z':=by
    rw[<-h2 _ _ hr]
    rcases Nat.lt_or_ge j r.length with h'|h'
    ·exact h'
    ·rw[List.getElem?_eq_none h']at hx;cases hx
   have hdv:q/z'=i:=by rw[he,Nat.mul_comm,Nat.mul_add_div hz0,Nat.div_eq_of_lt hjz,Nat.add_zero]
   have hmd:q%z'=j:=by rw[he,Nat.mul_comm,Nat.mul_add_mod,Nat.mod_eq_of_lt hjz]
   simp only[List.getElem?_map,List.getElem?_range hq,Option.map_some,Option.some.injEq]at hu;subst hu;rw[kN,hdv,hmd,he,<-Nat.add_assoc];exact h5 i j r x hr hx
  ·intro u hu
   simp only[List.mem_map,List.mem_range]at hu;obtain⟨q,hq,rfl⟩:=hu;obtain⟨i,j,r,x,hr,hx,he,_,hzz⟩:=hat q hq;subst hzz
   have hz0:0<z':=by
    rcases Nat.eq_zero_or_pos z' with e|e
    ·subst e;simp at hq
    ·exact e
   have hjz:j<z':=by
    rw[<-h2 _ _ hr]
    rcases Nat.lt_or_ge j r.length with h'|h'
    ·exact h'
    ·rw[List.getElem?_eq_none h']at hx;cases hx
   have hdv:q/z'=i:=by rw[he,Nat.mul_comm,Nat.mul_add_div hz0,Nat.div_eq_of_lt hjz,Nat.add_zero]
   have hmd:q%z'=j:=by rw[he,Nat.mul_comm,Nat.mul_add_mod,Nat.mod_eq_of_lt hjz]
   rw[hdv,hmd];exact(h6 i j r x hr hx).JU (h3 i j r x hr hx)
  ·intro q x u hx hu
   have hq:q<ys.length*z:=by
    rcases Nat.lt_or_ge q (ys.length*z)with h'|h'
    ·exact h'
    ·rw[List.getElem?_eq_none (by rw[hfl];omega)]at hx;cases hx
   obtain⟨i,j,r,x',hr,hx',he,hfx,hzz⟩:=hat q hq;subst hzz
   have hxx:x=x':=by rw[hx]at hfx;exact Option.some.inj hfx
   subst hxx
   have hz0:0<z':=by
    rcases Nat.eq_zero_or_pos z' with e|e
    ·subst e;simp at hq
    ·exact e
   have hjz:j<z':=by
    rw[<-h2 _ _ hr]
    rcases Nat.lt_or_ge j r.length with h'|h'
    ·exact h'
    ·rw[List.getElem?_eq_none h']at hx';cases hx'
   have hdv:q/z'=i:=by rw[he,Nat.mul_comm,Nat.mul_add_div hz0,Nat.div_eq_of_lt hjz,Nat.add_zero]
   have hmd:q%z'=j:=by rw[he,Nat.mul_comm,Nat.mul_add_mod,Nat.mod_eq_of_lt hjz]
   simp only[List.getElem?_map,List.getElem?_range hq,Option.map_some,Option.some.injEq]at hu;subst hu;rw[hdv,hmd];exact h6 i j r x hr hx'
  ·obtain⟨i,hi⟩:=List.mem_iff_getElem?.1 hr
   obtain⟨j,hj⟩:=List.mem_iff_getElem?.1 hx
   exact h3 i j r x hi hj
theorem Rel.mB(R:Rel P nt n0 w0 π0 U s a w β τ π) {b:Nat} {x:bV} (h:b9 b s.boxes=some x):β b<w.heap.size:=by
 obtain⟨_,_,⟨cur,el,hh,_⟩,_⟩:=R.boxes b x h;exact nI hh
theorem Rel.grown(R:Rel P nt n0 w0 π0 U s a w β τ π) {id e z old:Nat} {i:TypeInfo} {zv:Value} (hi:P.info? e=some i) (hz:i.zero=some zv) (hsz:i.size=z) (hzs:zv.cells.size=z) (hz0:0<z) (hid:¬U id) {zs:List (List AV)} {vs:List Value} (hlv:vs.length=zs.length*z) (hd:jt w π zs.flatten vs) (hrow:∀r∈zs,r.length=z) (hsc:∀r∈zs,∀x∈r,x.scalar=true)
  (h63:zs.length<=maxLen) {cs:Array Value} (hcs:cs=vs.toArray++Builtin.zeroCells zv.cells (grownCap w zs.length old e-zs.length)):
  ∃π',Rel P nt n0 w0 π0 (fk U id) {s with live:=(id,e)::s.live} a (w.drew.alloc (.cells cs e)) β (DN τ id (.slice (some ⟨w.heap.size,0,none⟩) zs.length (grownCap w zs.length old e))) π'/\
   DV (w.drew.alloc (.cells cs e)) π' (.sl zs) (.slice (some ⟨w.heap.size,0,none⟩) zs.length (grownCap w zs.length old e)):=by
 have hge:=grownCap_ge w zs.length old e
 have hcm:grownCap w zs.length old e<=maxLen:=grownCap_le_maxLen w zs.length old e h63
 have hsize:cs.size=grownCap w zs.length old e*z:=by
  rw[hcs];simp only[Array.size_append,List.size_toArray,size_zeroCells,hzs,hlv,<-Nat.add_mul]
  congr 1;omega
 have hsz0:n0.n<=w.heap.size:=Nat.le_trans R.eS R.below.size
 obtain⟨R',hdv⟩:=R.draw.newRow (xs:=zs) (z:=z) (cap:=grownCap w zs.length old e) (cs:=cs) e hrow hge (by rw[hsize];exact Nat.mul_le_mul_right _ hge)
  (fun q x v hx hv=>by
   have hq:q<vs.length:=by
    rw[hlv,<-iI hrow]
    rcases Nat.lt_or_ge q zs.flatten.length with h'|h'
    ·exact h'
    ·rw[List.getElem?_eq_none h']at hx;cases hx
   rw[hcs,Array.getElem?_append_left (by simpa using hq)]at hv
   exact DV.mono (w:=w) (w':=w.drew) (π:=π) (fun _ _ h=>h) (fun _ _ _=>rfl) (hd.2 q x v hx (by simpa using hv))) hsc
 refine⟨_,R'.sA hid ?_ ?_ ?_,hdv⟩
 ·refine .inr ⟨w.heap.size,zs.length,grownCap w zs.length old e,cs,i,rfl,.inl hsz0,heap_alloc_new w.drew _,hge,hcm,hi,by rw[hsz];exact hsize,fun o ho hc=>?_⟩
  rw[hsz]at ho
  rcases hc with h|⟨_,h⟩
  ·have:=R.eO _ _ h;omega
  ·omega
 ·intro q e' B hq hB hB'
  have h1:=((R.live q e' hq).2.block hB).2
  simp[iH]at hB';omega
 ·intro b x hb hB'
  have:=R.mB hb
  simp[iH]at hB';omega
theorem Rel.append (R:Rel P nt n0 w0 π0 U s a w β τ π) {t e:TypeId} {i:TypeInfo} {zv:Value} {X Y:Operand} {x y:bB} (ht:P.underlying t=some (.slice e)) (hi:P.info? e=some i) (hz:i.zero=some zv) (hsz:(0 < i.size && zv.cells.size == i.size && 0 < i.bytes)=true)
    (hx:dr X=some x) (hy:dr Y=some y) {id:Nat} (hid:¬ U id) (ty:TypeId) {K:SV→S→Prop} (h:bN (Pure P) id (.app e i.size i.bytes x y) K s) :
    ∃ v u s' w' τ' π',(Builtin.append_ #[t,t] ty #[a.eval X,a.eval Y]).run P w=.ok u w'∧RV β τ' w' π' v u∧v.gR (fk U id)∧K v s'∧Rel P nt n0 w0 π0 (fk U id) s' a w' β τ' π':=by
  simp only [Bool.and_eq_true,decide_eq_true_eq,beq_iff_eq] at hsz
  obtain ⟨⟨hz0,hzs⟩,hb0⟩:=hsz
  simp only [bN] at h
  obtain ⟨p,hp,k1⟩:=ah h
  obtain ⟨hr,hU⟩:=R.dh hx hp
  cases p with
  | ptr _ _=>exact k1.elim
  | rp _=>exact k1.elim
  | undef=>exact k1.elim
  | vs _ _ _ _=>exact k1.elim
  | oF _ _ _=>exact k1.elim
  | raw _ _=>exact k1.elim
  | dat av q =>
    obtain ⟨xs,hxs,k2⟩:=ah k1
    obtain ⟨b,hb,k3⟩:=ah k2
    obtain ⟨ys,hys,hbytes,hrx,hry,k4⟩:=ah k3
    obtain ⟨hdx,htag⟩:=hr
    have hdy:=R.aF hy hb
    have hsub:∀ n,U n→fk U id n:=fun n h=>.inl h
    -- what is appended: nil,or a slice whose cells are known
    have hnews:(a.eval Y=.slice none 0 0∧ys=[])∨∃ (A:Addr) (m c:Nat),a.eval Y=.slice (some A) m c∧m=ys.length∧∃ news:List Value,news.length=m * i.size∧(∀ j u,news[j]? = some u→w.cell? (A.add j)=some u)∧(∀ u∈news,u.oneCell'=true)∧jt w π ys.flatten news∧∀ r∈ys,∀ x∈r,x.scalar=true:=by
      cases b<;>simp only [rowsOf] at hys<;>try (cases hys; done)
      · cases hys
        generalize a.eval Y=v at hdy
        cases hdy
        exact .inl ⟨rfl,rfl⟩
      · cases hys
        generalize a.eval Y=v at hdy
        cases hdy with
        | Mm A=>exact .inr ⟨A,0,0,rfl,rfl,[],by simp,by simp,by simp,⟨rfl,by simp⟩,by simp⟩
        | sl _ B off cap z f h1 h2 h3 h4 h5 h6 =>
          obtain ⟨hm,hn⟩:=DV.news (.sl ys B off cap z f h1 h2 h3 h4 h5 h6) hry
          exact .inr ⟨⟨B,off,none⟩,_,cap,rfl,rfl,hn⟩
    have h63':(xs.length + ys.length)≤maxLen:=by
      have:=Nat.le_mul_of_pos_right (xs.length + ys.length) hb0
      simp only [maxLen]; omega
    cases av<;>simp only [rowsOf] at hxs<;>try (cases hxs; done)
    case aL =>
      cases hxs
      have hvx:a.eval X=.slice none 0 0:=by generalize a.eval X=v at hdx; cases hdx; rfl
      by_cases hy0:ys=[]
      · subst hy0
        simp only [if_true] at k4
        refine ⟨.dat .aL none,.slice none 0 0,s,w,τ,π,?_,⟨.aL,fun t ht=>by cases ht⟩,trivial,k4,R.sub hsub⟩
        rcases hnews with ⟨hyv,_⟩|⟨A,m,c,hyv,hm,news,hl,_⟩
        · rw [hvx,hyv]
          simp [Builtin.append_,run_underlying ht,sizeOf,typeInfo,hi,Builtin.lenOf,Builtin.firstCells]
        · simp at hm; subst hm
          rw [hvx,hyv]
          simp [Builtin.append_,run_underlying ht,sizeOf,typeInfo,hi,Builtin.lenOf,Builtin.firstCells,loadCells,loadCellsFrom]
      · simp only [hy0,if_false,List.nil_append] at k4
        rcases hnews with ⟨_,hy0'⟩|⟨A,m,c,hyv,rfl,news,hl,hcell,hone,hdn,hscn⟩
        · exact absurd hy0' hy0
        · have hpos:0 < ys.length:=List.length_pos_iff.2 hy0
          simp only [List.length_nil,Nat.zero_add] at hbytes h63'
          have hrun:=run_append_nil (P:=P) w t ty e i zv ht hi hz A ys.length c news hl hcell hpos (by simp only [maxLen] at h63'; omega) (by omega)
          obtain ⟨π',R',hdv⟩:=R.grown (old:=0) hi hz rfl hzs hz0 hid hl hdn hry hscn h63' rfl
          exact ⟨.dat (.sl ys) (some id),_,_,_,_,_,by rw [hvx,hyv]; exact hrun,⟨hdv,fun t ht=>by cases ht; rw [cj]⟩,.inr rfl,k4,R'⟩
    case sl l =>
      cases hxs
      cases q with
      | none=>exact k4.elim
      | some q =>
        obtain ⟨hlive,hK⟩:=k4
        have hτ:a.eval X=τ q:=htag q rfl
        obtain ⟨hUq,htok⟩:=R.live q e hlive
        generalize hvx:a.eval X=v at hdx hτ
        rcases htok with hnil|⟨B,len,cap,cur,i',hsl,hB0,hh,hlc,hcm,hi',hcur,hfree⟩
        · rw [← hτ] at hnil
          subst hnil
          cases hdx
        · rw [← hτ] at hsl
          have hii:i'=i:=by rw [hi] at hi'; exact (Option.some.inj hi').symm
          subst hii
          subst hsl
          have hown:iH (τ q)=some B:=by rw [← hτ]; rfl
          have hlen:len=xs.length:=by cases hdx<;>rfl
          subst hlen
          obtain ⟨_,olds,hol,holds,holdone,hdo,hsco⟩:=DV.news hdx hrx
          have hcell0:∀ (j:Nat) (u:Value),olds[j]? = some u→cur[j]? = some u:=by
            intro j u hu
            have:=holds j u hu
            rw [kN,Nat.zero_add,cell_of_row w B j cur e (0,0) hh] at this
            exact this
          have hrows:∀ r∈xs++ys,r.length=i'.size:=fun r hr=>by
            rcases List.mem_append.1 hr with hr|hr
            · exact hrx r hr
            · exact hry r hr
          have hol':olds.length=xs.length * i'.size:=hol
          -- what is appended,whatever it is,as a list of values
          have hsplit:xs.flatten++ys.flatten=(xs++ys).flatten:=by simp
          have hcurle:xs.length * i'.size≤cur.size:=by rw [hcur]; exact Nat.mul_le_mul_right _ hlc
          have hneB:∀ q' e',d7 q' (jr q s.live)=some e'→iH (τ q')≠some B:=by
            intro q' e' hq' hB'
            obtain ⟨h1,h2⟩:=jy hq'
            exact h2 (R.cq q' q e' e B h1 hlive hB' hown)
          have hbox:∀ b x,b9 b s.boxes=some x→β b≠B:=fun b x hb e'=>R.cH q e b x hlive hb (by rw [hown,e'])
          by_cases hroom:xs.length + ys.length≤cap
          · -- in place
            have key:∃ (news:List Value),news.length=ys.length * i'.size∧jt w π ys.flatten news∧(∀ r∈ys,∀ x∈r,x.scalar=true) ∧
                (Builtin.append_ #[t,t] ty #[.slice (some ⟨B,0,none⟩) xs.length cap,a.eval Y]).run P w=.ok (.slice (some ⟨B,0,none⟩) (xs.length + ys.length) cap) (w.setRow B (cur.toList.take (xs.length * i'.size)++news++cur.toList.drop (xs.length * i'.size + news.length)).toArray):=by
              rcases hnews with ⟨hyv,rfl⟩|⟨A,m,c,hyv,rfl,news,hl,hcell,hone,hdn,hscn⟩
              · refine ⟨[],by simp,⟨rfl,fun i a v h=>by simp at h⟩,by simp,?_⟩
                rw [hyv]
                have hself:w.setRow B (cur.toList.take (xs.length * i'.size)++[]++cur.toList.drop (xs.length * i'.size + ([]:List Value).length)).toArray=w:=by
                  have:=setRow_self w B cur e (0,0) hh
                  simpa using this
                rw [hself]
                simp at hroom
                simp [Builtin.append_,run_underlying ht,sizeOf,typeInfo,hi,Builtin.lenOf,Builtin.firstCells,hroom,storeCells]
              · refine ⟨news,hl,hdn,hscn,?_⟩
                rw [hyv]
                exact run_append_room (P:=P) w t ty e i' ht hi B xs.length cap cur hh A ys.length c news hl hcell hone hroom (by rw [hl,hcur,← Nat.add_mul]; exact Nat.mul_le_mul_right _ hroom)
            obtain ⟨news,hl,hdn,hscn,hrun⟩:=key
            have hfit:xs.length * i'.size + news.length≤cur.size:=by rw [hl,hcur,← Nat.add_mul]; exact Nat.mul_le_mul_right _ hroom
            have hget:=gT cur.toList news (xs.length * i'.size) (by simpa using hfit)
            generalize hcur':(cur.toList.take (xs.length * i'.size)++news++cur.toList.drop (xs.length * i'.size + news.length)).toArray=cur' at hrun
            have hget':∀ o,cur'[o]? = if o < xs.length * i'.size then cur[o]? else if o < xs.length * i'.size + news.length then news[o - xs.length * i'.size]? else cur[o]?:=by
              intro o
              rw [← hcur',List.getElem?_toArray,hget]
              simp
            have R1:=(R.IM q).GG (m:=(xs.length + ys.length) * i'.size) (cur':=cur') hB0 hh (fun o ho=>by
              rw [hget' o,if_pos]
              rcases Nat.lt_or_ge o (xs.length * i'.size) with h'|h'
              · exact h'
              · exact absurd ho (hfree o h')) hneB hbox
            have hh':(w.setRow B cur').heap[B]? = some (.cells cur' e (0,0)):=setRow_heap w _ cur _ e _ hh
            have hcsz:cur'.size=cur.size:=by
              rw [← hcur']; simp; omega
            have hlive':∀ q' e' C,d7 q' (jr q s.live)=some e'→iH (τ q')=some C→iH (Value.slice (some ⟨B,0,none⟩) (xs.length + ys.length) cap)≠some C:=by
              intro q' e' C hq' hC hB'
              simp [iH] at hB'
              exact hneB q' e' hq' (by rw [hC,hB'])
            have R2:=R1.sA (id:=id) (e:=e) (v:=.slice (some ⟨B,0,none⟩) (xs.length + ys.length) cap) hid
              (.inr ⟨B,xs.length + ys.length,cap,cur',i',rfl,hB0,hh',hroom,hcm,hi,by rw [hcsz,hcur],fun o ho hc=>by
                rcases hc with h|⟨_,h⟩
                · exact hfree o (by rw [Nat.add_mul] at ho; omega) h
                · omega⟩) hlive' (fun b x hb hB'=>hbox b x hb (by simpa [iH] using hB'.symm))
            refine ⟨.dat (.sl (xs++ys)) (some id),_,_,_,_,_,hrun,⟨?_,fun t ht=>by cases ht; rw [cj]⟩,.inr rfl,hK,R2⟩
            -- the longer slice reads as the longer list
            have hmono:∀ {x:AV} {v:Value},DV w π x v→DV (w.setRow B cur') (grow π B ((xs.length + ys.length) * i'.size)) x v:=fun h=>h.mono (fun _ _ h=>.inl h) (fun b o h=>by
              by_cases e':b=B
              · subst e'
                rw [cell_of_row _ _ _ cur' e (0,0) hh',cell_of_row _ _ _ cur e (0,0) hh,hget' o,if_pos]
                rcases Nat.lt_or_ge o (xs.length * i'.size) with h'|h'
                · exact h'
                · exact absurd h (hfree o h')
              · exact cell_setRow_other w _ cur' ⟨b,o,none⟩ e')
            have hall:∀ (j:Nat) (x:AV),(xs++ys).flatten[j]? = some x→∃ v,cur'[j]? = some v∧DV w π x v:=by
              intro j x hx
              rw [← hsplit] at hx
              rw [hget' j]
              by_cases hj:j < xs.length * i'.size
              · rw [if_pos hj]
                rw [List.getElem?_append_left (by rw [iI hrx]; exact hj)] at hx
                obtain ⟨v,hv,hd⟩:=hdo.get hx
                exact ⟨v,hcell0 j v hv,hd⟩
              · rw [if_neg hj]
                rw [List.getElem?_append_right (by rw [iI hrx]; omega),iI hrx] at hx
                obtain ⟨v,hv,hd⟩:=hdn.get hx
                have:j - xs.length * i'.size < news.length:=by
                  rcases Nat.lt_or_ge (j - xs.length * i'.size) news.length with h'|h'
                  · exact h'
                  · rw [List.getElem?_eq_none h'] at hv; cases hv
                rw [if_pos (by omega)]
                exact ⟨v,hv,hd⟩
            have hxyl:xs.length + ys.length=(xs++ys).length:=by simp
            rw [hxyl]
            refine .sl (xs++ys) B 0 cap i'.size (fun i j=>cur'.getD (i * i'.size + j) undef) (by simpa using hroom) (fun i r hr=>hrows r (List.mem_of_getElem? hr)) (fun i j r x hr hx=>?_) (fun i j r x hr hx=>?_) (fun i j r x hr hx=>?_) (fun i j r x hr hx=>?_)
            · rcases List.mem_append.1 (List.mem_of_getElem? hr) with hr' | hr'
              · exact hsco r hr' x (List.mem_of_getElem? hx)
              · exact hscn r hr' x (List.mem_of_getElem? hx)
            · refine .inr ⟨rfl,?_⟩
              have hf:=kO hrows hr hx
              rcases Nat.lt_or_ge (i * i'.size + j) ((xs++ys).length * i'.size) with h'|h'
              · omega
              · rw [List.getElem?_eq_none (by rw [iI hrows]; exact h')] at hf; cases hf
            · obtain ⟨v,hv,hd⟩:=hall _ x (kO hrows hr hx)
              rw [Nat.zero_add,cell_of_row _ _ _ cur' e (0,0) hh',hv]
              simp [hv]
            · obtain ⟨v,hv,hd⟩:=hall _ x (kO hrows hr hx)
              simp only [Array.getD_eq_getD_getElem?,hv,Option.getD_some]
              have hmd:=hmono hd
              rw [hxyl] at hmd
              exact hmd
          · -- a new row
            rcases hnews with ⟨hyv,rfl⟩|⟨A,m,c,hyv,rfl,news,hl,hcell,hone,hdn,hscn⟩
            · simp at hroom; omega
            · have hrun:=run_append_grow (P:=P) w t ty e i' zv ht hi hz ⟨B,0,none⟩ xs.length cap olds hol holds A ys.length c news hl hcell (by omega) (by simp only [maxLen] at h63'; omega) (growslice_fits (by omega) hbytes)
              have hxyl:xs.length + ys.length=(xs++ys).length:=by simp
              have hlv:(olds++news).length=(xs++ys).length * i'.size:=by simp [hol,hl,Nat.add_mul]
              have hdv:jt w π (xs++ys).flatten (olds++news):=by rw [← hsplit]; exact hdo.append hdn
              have hscxy:∀ r∈xs++ys,∀ x∈r,x.scalar=true:=fun r hr=>by
                rcases List.mem_append.1 hr with hr|hr
                · exact hsco r hr
                · exact hscn r hr
              obtain ⟨π',R',hd'⟩:=(R.IM q).grown (old:=cap) hi hz rfl hzs hz0 hid hlv hdv hrows hscxy (by rw [← hxyl]; exact h63') rfl
              rw [hyv]
              rw [hxyl] at hrun
              refine ⟨.dat (.sl (xs++ys)) (some id),_,_,_,DN τ id (.slice (some ⟨w.heap.size,0,none⟩) (xs++ys).length (grownCap w (xs++ys).length cap e)),π',hrun,⟨?_,fun t ht=>by cases ht; rw [cj]⟩,.inr rfl,hK,?_⟩
              · have e1:olds.toArray++news.toArray=(olds++news).toArray:=by simp
                rw [e1]; exact hd'
              · have e1:olds.toArray++news.toArray=(olds++news).toArray:=by simp
                rw [e1]; exact R'
end
open Go.RowKit (Below)
def Mo(w:World) (π:Nat->Nat->Prop) (P:Program) (t:TypeId) (as:List AV) (v:Value):Prop:=
 if nC P t then∃xs:Array Value,v=.agg xs/\jt w π as xs.toList/\∀a∈as,a.scalar=true
 else∃a,as=[a]/\DV w π a v
section
variable{P:Program} {w:World} {π:Nat->Nat->Prop}
theorem mO:∀{ks ls:List CK} {as bs cs ds:List AV} {e:Bool},ks.length=as.length->as.length=bs.length->bZ (ks++ls) (as++cs) (bs++ds)=some e->∃e1 e2,bZ ks as bs=some e1/\bZ ls cs ds=some e2/\e=(e1&&e2)
 |[],ls,[],[],cs,ds,e,_,_,h=>⟨true,e,rfl,h,rfl⟩
 |[],ls,[],b::bs,_,_,_,_,h,_=>by simp at h
 |[],ls,a::as,_,_,_,_,h,_,_=>by simp at h
 |k::ks,ls,[],_,_,_,_,h,_,_=>by simp at h
 |k::ks,ls,a::as,[],_,_,_,_,h,_=>by simp at h
 |k::ks,ls,a::as,b::bs,cs,ds,e,hk,hl,h=>by
  simp only[List.cons_append,bZ]at h;split at h
  ·rename_i x y hx hy
   cases h
   obtain⟨e1,e2,h1,h2,h3⟩:=mO (by simpa using hk) (by simpa using hl) hy
   exact⟨x&&e1,e2,by simp[bZ,hx,h1],h2,by rw[h3,Bool.and_assoc]⟩
  ·cases h
theorem wM{t:TypeId} {z:Nat} (hz:gj P t=some z) {d:TypeDesc} (hu:P.underlying t=some d) (hone:nC P t=false->z=1) {as:List AV} {xs:Array Value} (hd:jt w π as xs.toList) (hs:∀a∈as,a.scalar=true) {off:Nat} (hle:off+z<=as.length):
  ∃v,(part t xs off).run P w=.ok v w/\Mo w π P t ((as.drop off).take z) v:=by
 have h1:=wL (P:=P) (w:=w) hu
 have h2:=eU (P:=P) (w:=w) hz
 have hl:xs.size=as.length:=by have:=hd.1;simp at this;omega
 cases hg:nC P t with
 |true=>
  refine⟨.agg (xs.extract off (off+z)),by simp[part,h1,hg,h2],?_⟩
  unfold Mo;rw[if_pos hg]
  refine⟨_,rfl,⟨by simp;omega,fun i a v ha hv=>?_⟩,fun a ha=>hs a (List.mem_of_mem_drop (List.mem_of_mem_take ha))⟩
  rw[List.getElem?_take]at ha;split at ha
  ·rename_i hi
   rw[List.getElem?_drop]at ha;refine hd.2 (off+i) a v ha ?_
   have:xs.toList[off+i]? =(xs.extract off (off+z)).toList[i]?:=by
    simp only[Array.getElem?_toList,Array.getElem?_extract]
    rw[if_pos (by omega)]
   rw[this];exact hv
  ·cases ha
 |false=>
  have hz1:=hone hg
  subst hz1
  have hlt:off<xs.size:=by omega
  refine⟨xs[off],by simp[part,h1,hg,hlt],?_⟩
  unfold Mo
  rw[if_neg (by simp[hg])]
  have hoff:off<as.length:=by omega
  refine⟨as[off],?_,hd.2 off _ _ (List.getElem?_eq_getElem hoff) (by simp[hlt])⟩
  rw[List.drop_eq_getElem_cons hoff];rfl
theorem wN{d t:Nat} {ks:List CK} (h:mK P d t=some ks):∃u,P.underlying t=some u/\(nC P t=false->ks.length=1):=by
 cases d with
 |zero=>simp[mK]at h
 |succ d=>
  simp only[mK]at h
  split at h<;>first|(rename_i hu;cases h;exact⟨_,hu,fun _=>rfl⟩)|skip
  ·rename_i fs hu;exact⟨_,hu,fun hg=>by simp[nC,hu]at hg⟩
  ·rename_i k e hu;exact⟨_,hu,fun hg=>by simp[nC,hu]at hg⟩
  ·cases h
theorem nJ{k:CK} {a b:AV} {e:Bool} (h:bZ [k] [a] [b]=some e):pU k a b=some e:=by
 simp only[bZ]at h;split at h
 ·rename_i x y hx hy;cases h;cases hy;simp[hx]
 ·cases h
theorem nK:∀{ks:List CK} {as bs:List AV} {e:Bool},bZ ks as bs=some e->ks.length=as.length/\as.length=bs.length
 |[],[],[],e,h=>⟨rfl,rfl⟩
 |[],[],b::bs,_,h=>by simp[bZ]at h
 |[],a::as,_,_,h=>by simp[bZ]at h
 |k::ks,[],_,_,h=>by simp[bZ]at h
 |k::ks,a::as,[],_,h=>by simp[bZ]at h
 |k::ks,a::as,b::bs,e,h=>by
  simp only[bZ]at h;split at h
  ·rename_i x y hx hy
   obtain⟨h1,h2⟩:=nK hy;simp[h1,h2]
  ·cases h
theorem Ta:∀ (d:Nat) (t:TypeId) (ks:List CK),mK P d t=some ks→∀ (D:Nat),d≤D→∀ (as bs:List AV) (x y:Value) (e:Bool),Mo w π P t as x→Mo w π P t bs y→bZ ks as bs=some e →
    (Op.equalIn D t x y).run P w=.ok e w:=by
  intro d
  induction d with
  | zero=>intro t ks h; simp [mK] at h
  | succ d ih =>
    intro t ks h D hD as bs x y e hx hy he
    obtain ⟨D,rfl⟩:∃ D',D=D' + 1:=⟨D - 1,by omega⟩
    obtain ⟨hla,hlb⟩:=nK he
    simp only [mK] at h
    -- the fields,one behind the other
    have hfields:∀ (fs:List Field) (off:Nat) (ls:List CK),Gw P (mK P d) fs off=some ls→∀ (xs ys:Array Value) (e:Bool),jt w π as xs.toList→(∀ a∈as,a.scalar=true)→jt w π bs ys.toList→(∀ a∈bs,a.scalar=true)→bZ ls (as.drop off) (bs.drop off)=some e→(Op.eqFields D xs ys fs).run P w=.ok e w:=by
      intro fs
      induction fs with
      | nil =>
        intro off ls ht xs ys e h1 h2 h3 h4 he
        simp [Gw] at ht
        subst ht
        obtain ⟨k1,k2⟩:=nK he
        have n1:as.drop off=[]:=List.eq_nil_of_length_eq_zero k1.symm
        have n2:bs.drop off=[]:=List.eq_nil_of_length_eq_zero (by rw [← k2,← k1]; rfl)
        rw [n1,n2] at he
        simp [bZ] at he
        subst he
        rfl
      | cons f fs ihf =>
        intro off ls ht xs ys e h1 h2 h3 h4 he
        simp only [Gw] at ht
        split at ht
        · cases ht
        · rename_i hname
          split at ht
          · rename_i ms hz
            split at ht
            · rename_i hsz
              obtain ⟨hsz,hpos⟩:=hsz
              simp only [Option.map_eq_some_iff] at ht
              obtain ⟨ls',ht,rfl⟩:=ht
              obtain ⟨k1,k2⟩:=nK he
              simp only [List.length_append,List.length_drop] at k1 k2
              obtain ⟨u,hu,hone⟩:=wN hz
              have hoff:f.offset=off:=by
                have:=not_or.1 hname
                simpa using this.2
              have hnm : f.name ≠ "_" := (not_or.1 hname).1
              have hma:off + ms.length≤as.length:=by omega
              obtain ⟨va,hva,hVa⟩:=wM (P:=P) hsz hu hone h1 h2 (off:=off) (by omega)
              obtain ⟨vb,hvb,hVb⟩:=wM (P:=P) hsz hu hone h3 h4 (off:=off) (by omega)
              have hsplit:∀ l:List AV,l.drop off=(l.drop off).take ms.length++l.drop (off + ms.length):=by
                intro l
                rw [← List.drop_drop,List.take_append_drop]
              rw [hsplit as,hsplit bs] at he
              obtain ⟨e1,e2,he1,he2,rfl⟩:=mO (by simp; omega) (by simp; omega) he
              have hr:=ih f.type ms hz D (by omega) _ _ va vb e1 hVa hVb he1
              have hrest:=ihf (off + ms.length) ls' ht xs ys e2 h1 h2 h3 h4 he2
              simp only [Op.eqFields,if_pos hnm,hoff,Sem.run_bind,hva,hvb,Result.andThen_ok,hr]
              cases e1
              · simp
              · simpa using hrest
            · cases ht
          · cases ht
    have hscalar:nC P t=false→∃ a b,as=[a]∧bs=[b]∧DV w π a x∧DV w π b y:=by
      intro hg
      simp only [Mo,hg,Bool.false_eq_true,if_false] at hx hy
      obtain ⟨a,rfl,ha⟩:=hx
      obtain ⟨b,rfl,hb⟩:=hy
      exact ⟨a,b,rfl,rfl,ha,hb⟩
    split at h
    · rename_i hu
      cases h
      obtain ⟨a,b,rfl,rfl,ha,hb⟩:=hscalar (by simp [nC,hu])
      have hc:=nJ he
      cases a<;>cases b<;>simp only [pU] at hc<;>try (cases hc; done)
      cases ha; cases hb; cases hc
      exact run_equalIn_bool' w D t _ _ hu
    · rename_i k hu
      cases h
      obtain ⟨a,b,rfl,rfl,ha,hb⟩:=hscalar (by simp [nC,hu])
      have hc:=nJ he
      cases a<;>cases b<;>simp only [pU] at hc<;>try (cases hc; done)
      split at hc
      · rename_i hk
        subst hk
        cases ha; cases hb; cases hc
        exact run_equalIn_int w D t _ k _ _ hu
      · cases hc
    · rename_i k hu
      cases h
      obtain ⟨a,b,rfl,rfl,ha,hb⟩:=hscalar (by simp [nC,hu])
      have hc:=nJ he
      cases a<;>cases b<;>simp only [pU] at hc<;>try (cases hc; done)
      split at hc
      · rename_i hk
        subst hk
        cases ha; cases hb; cases hc
        simp [Op.equalIn,run_underlying hu,Op.floatEq]
      · cases hc
    · rename_i hu
      cases h
      obtain ⟨a,b,rfl,rfl,ha,hb⟩:=hscalar (by simp [nC,hu])
      have hc:=nJ he
      cases a<;>cases b<;>simp only [pU] at hc<;>try (cases hc; done)
      cases ha; cases hb; cases hc
      simp [Op.equalIn,run_underlying hu]
    · rename_i fs hu
      split at h
      · cases h
      · rename_i hst
        simp only [Mo,nC,hu,if_true] at hx hy
        obtain ⟨xs,rfl,hxd,hxs⟩:=hx
        obtain ⟨ys,rfl,hyd,hys⟩:=hy
        have hfo:P.fieldsOf t=fs:=by simp [Program.fieldsOf,hu]
        rw [run_equalIn_struct w D t xs ys (by rw [hfo]; exact hu) (by simpa using hst),hfo]
        exact hfields fs.toList 0 ks h xs ys e hxd hxs hyd hys (by simpa using he)
    · rename_i k el hu
      split at h
      · rename_i ms hz
        split at h
        · rename_i hsz
          cases h
          simp only [Mo,nC,hu,if_true] at hx hy
          obtain ⟨xs,rfl,hxd,hxs⟩:=hx
          obtain ⟨ys,rfl,hyd,hys⟩:=hy
          obtain ⟨i,hi⟩:∃ i,P.info? el=some i:=by
            simp only [gj,Option.map_eq_some_iff] at hsz
            obtain ⟨i,hi,_⟩:=hsz
            exact ⟨i,hi⟩
          rw [run_equalIn_array w D xs ys hu hi]
          obtain ⟨u,hue,hone⟩:=wN hz
          have hcz:P.cellsOf el=ms.length:=by
            have:=hsz
            simp only [gj] at this
            simp [Program.cellsOf,this]
          rw [hcz]
          have hlk:as.length=k * ms.length:=by rw [← hla]; simp
          -- item by item
          have hitems:∀ (m off:Nat),off + m=k→∀ e,bZ (List.replicate m ms).flatten (as.drop (off * ms.length)) (bs.drop (off * ms.length))=some e→(Op.eqItems D el ms.length xs ys ((List.range m).map (· + off))).run P w=.ok e w:=by
            intro m
            induction m with
            | zero =>
              intro off hoff e2 he2
              have hoff':off=k:=by omega
              rw [hoff'] at he2
              have n1:as.drop (k * ms.length)=[]:=List.drop_eq_nil_of_le (by omega)
              have n2:bs.drop (k * ms.length)=[]:=List.drop_eq_nil_of_le (by omega)
              rw [n1,n2] at he2
              simp [bZ] at he2
              subst he2
              rfl
            | succ m ihm =>
              intro off hoff e he
              have hle:off * ms.length + ms.length≤k * ms.length:=by
                have:(off + 1) * ms.length≤k * ms.length:=Nat.mul_le_mul_right ms.length (by omega)
                rw [Nat.add_mul] at this; omega
              obtain ⟨va,hva,hVa⟩:=wM (P:=P) hsz hue hone hxd hxs (off:=off * ms.length) (by omega)
              obtain ⟨vb,hvb,hVb⟩:=wM (P:=P) hsz hue hone hyd hys (off:=off * ms.length) (by omega)
              have hsplit:∀ l:List AV,l.drop (off * ms.length)=(l.drop (off * ms.length)).take ms.length++l.drop ((off + 1) * ms.length):=by
                intro l
                rw [show (off + 1) * ms.length=off * ms.length + ms.length by rw [Nat.add_mul]; omega,← List.drop_drop,List.take_append_drop]
              rw [hsplit as,hsplit bs,List.replicate_succ,List.flatten_cons] at he
              obtain ⟨e1,e2,he1,he2,rfl⟩:=mO (by simp; omega) (by simp; omega) he
              have hr:=ih el ms hz D (by omega) _ _ va vb e1 hVa hVb he1
              have hrest:=ihm (off + 1) (by omega) e2 he2
              have hl:(List.range (m + 1)).map (· + off)=off :: (List.range m).map (· + (off + 1)):=by
                rw [List.range_succ_eq_map]
                simp
                intro q _
                omega
              rw [hl]
              simp only [Op.eqItems,Sem.run_bind,hva,hvb,Result.andThen_ok,hr]
              cases e1
              · simp
              · simpa using hrest
          have:=hitems k 0 (by omega) e (by simpa using he)
          simpa using this
        · cases h
      · cases h
    · cases h
end
end Go.Eng
