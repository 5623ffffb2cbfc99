/- THE PHASES OF A SET, ONE AFTER THE OTHER: what a loop over them is given (set.Each). -/
import Derived.Test.YtdfplndcbbofjaaGreatChecked
import Derived.Test.YtdfplndcbbofjaaGreatPkS19
import Derived.RangeFuncBox
import Derived.RangeFuncLeaves
import Derived.Shelf.Abstract
import Derived.WalkKit
import Derived.OwnWalkIn
import Derived.TacticsInMore
import Derived.LoopNIn
import Derived.LoopIn
namespace Go.Proofs.YtdfplndcbbofjaaGreat
open Go.RowKit Go.Shelf
set_option linter.unusedVariables false
attribute [local go_sem] Oper.semAt_some

set_option maxRecDepth 100000 in
set_option maxHeartbeats 4000000 in
theorem setEach_some(hH:Go.Eng.An Tryz.prog 51):Go.Eng.KS Tryz.prog 191:=by
  intro l B2 o2 s J Jx W cnt hc0 hcs1 hcs2 hcell hst hstx hY h0
  refine(callsIn_wide (n:=3)).1 ?_
  refine callsIn_of_wp Tryz.func191 rfl trivial ?_ rfl
  simp only[Tryz.ntmps191,List.size_toArray,List.length_cons,List.length_nil,Nat.reduceAdd,Nat.reduceSub,Array.replicate_succ,Array.replicate_zero,List.push_toArray,List.append_toArray,List.nil_append,List.cons_append]
  gi_wp2
  gi_loopw [4] (fun i wr=>∃k:Nat,k<=8/\i= .int .i64 k/\J (cnt k) wr) (fun i _=>8-(intOf i).toNat)
  case atStart=>exact⟨0,Nat.zero_le _,rfl,by rw[hc0];exact h0⟩
  case round=>
    obtain⟨k,hk,rfl,hJs⟩:=hrel
    by_cases hlt:k<8
    · have g2:=hcell _ wr hJs
      gi_wp2
      refine⟨trivial,(callsIn_wide (n:=2)).2 ((hH s k wr).mono ?_)⟩
      rintro e w1 ⟨rfl,hbel⟩
      have hJ1:=hst _ _ _ hJs hbel
      by_cases hb:Go.Eng.dP s k=true
      · rw[hb]
        obtain⟨fn,tmps,assign,body,hy,hR⟩:=hY 2 k w1 hlt hb hJ1
        gi_wp2
        refine hR.mono ?_
        rintro e W3 (⟨rfl,hJ3⟩|⟨rfl,hJx3⟩)
        · gi_wp2
          go_roundw
          case rel=>exact⟨k+1,by omega,by simp,by rw[hcs1 k hlt hb];exact hJ3⟩
          case measure=>simp[intOf];omega
        · gi_wp2
          refine bodyPost_ret (results_none rfl _ _ _) rfl ?_
          exact⟨⟨_,rfl⟩,.inr hJx3⟩
      · have hb':Go.Eng.dP s k=false:=by simpa using hb
        rw[hb']
        gi_wp2
        refine⟨fun _ h=>(by cases h),?_⟩
        gi_wp2
        go_roundw
        case rel=>exact⟨k+1,by omega,by simp,by rw[hcs2 k hlt hb'];exact hJ1⟩
        case measure=>simp[intOf];omega
    · obtain rfl:k=8:=by omega
      gi_wp2
      go_end0
      exact⟨⟨_,rfl⟩,.inl hJs⟩
end Go.Proofs.YtdfplndcbbofjaaGreat
