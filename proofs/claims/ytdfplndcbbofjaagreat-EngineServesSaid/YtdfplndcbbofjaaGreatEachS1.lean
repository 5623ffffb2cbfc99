/- THE BUSES THAT ARE IN A SET, ONE AFTER THE OTHER: what a loop over them is given (transit.each). -/
import Derived.Test.YtdfplndcbbofjaaGreatChecked
import Derived.Test.YtdfplndcbbofjaaGreatPkS19
import Derived.RangeFuncBox
import Derived.RangeFuncLeaves
import Derived.Shelf.Abstract
import Derived.WalkKit
import Derived.OwnWalkIn
import Derived.TacticsInMore
import Derived.LoopNIn
import Derived.LoopIn
namespace Go.Proofs.YtdfplndcbbofjaaGreat
open Go.RowKit Go.Shelf
set_option linter.unusedVariables false
attribute [local go_sem] Oper.semAt_some

set_option maxRecDepth 100000 in
set_option maxHeartbeats 4000000 in
theorem each1_some:Go.Eng.HG Tryz.prog 192:=by
  intro l B1 o1 B2 o2 b off len cap s f J Jx W cnt hc0 hcs1 hcs2 hlc h1 hcell hst hstx hY h0
  refine(callsIn_wide (n:=3)).1 ?_
  refine callsIn_of_wp Tryz.func192 rfl trivial ?_ rfl
  simp only[Tryz.ntmps192,List.size_toArray,List.length_cons,List.length_nil,Nat.reduceAdd,Nat.reduceSub,Array.replicate_succ,Array.replicate_zero,List.push_toArray,List.append_toArray,List.nil_append,List.cons_append]
  by_cases hn:4<len
  · have hmin:min len 4=4:=by omega
    rw[hmin]at*
    gi_wp2
    gi_loopw [14] (fun i wr=>∃k:Nat,k<=4/\i= .int .i64 k/\J (cnt k) wr) (fun i _=>4-(intOf i).toNat)
    case atStart=>exact⟨0,Nat.zero_le _,rfl,by rw[hc0];exact h0⟩
    case round=>
      obtain⟨k,hk,rfl,hJs⟩:=hrel
      by_cases hlt:k<4
      · obtain⟨g01,g2⟩:=hcell _ wr hJs
        obtain⟨g0,g1⟩:=g01 k (by omega)
        have g3:∀o,(wr.alloc o).cell? ⟨B2,o2,none⟩=some (.int .i64 s):=fun o=>(hcell _ _ (hst _ _ o hJs)).2
        by_cases hb:bits .and .i64 (s/2^k) 1=1
        · obtain⟨fn,tmps,assign,body,hy,hR⟩:=hY 2 k (wr.alloc (.cells #[.int .i64 (f k 0),.int .i64 (f k 1)] 96)) (by omega) hb (hst _ _ _ hJs)
          gi_wp2
          refine hR.mono ?_
          rintro e W3 (⟨rfl,hJ3⟩|⟨rfl,hJx3⟩)
          · gi_wp2
            go_roundw
            case rel=>exact⟨k+1,by omega,by simp,by rw[hcs1 k (by omega) hb];exact hJ3⟩
            case measure=>simp[intOf];omega
          · gi_wp2
            refine bodyPost_ret (results_none rfl _ _ _) rfl ?_
            exact⟨⟨_,rfl⟩,.inr hJx3⟩
        · gi_wp2
          refine⟨fun _ h=>(by cases h),?_⟩
          gi_wp2
          go_roundw
          case rel=>exact⟨k+1,by omega,by simp,by rw[hcs2 k (by omega) hb];exact hst _ _ _ hJs⟩
          case measure=>simp[intOf];omega
      · obtain rfl:k=4:=by omega
        gi_wp2
        go_end0
        exact⟨⟨_,rfl⟩,.inl hJs⟩
  · have hmin:min len 4=len:=by omega
    rw[hmin]at*
    gi_wp2
    gi_loopw [14] (fun i wr=>∃k:Nat,k<=len/\i= .int .i64 k/\J (cnt k) wr) (fun i _=>len-(intOf i).toNat)
    case atStart=>exact⟨0,Nat.zero_le _,rfl,by rw[hc0];exact h0⟩
    case round=>
      obtain⟨k,hk,rfl,hJs⟩:=hrel
      by_cases hlt:k<len
      · obtain⟨g01,g2⟩:=hcell _ wr hJs
        obtain⟨g0,g1⟩:=g01 k (by omega)
        have g3:∀o,(wr.alloc o).cell? ⟨B2,o2,none⟩=some (.int .i64 s):=fun o=>(hcell _ _ (hst _ _ o hJs)).2
        by_cases hb:bits .and .i64 (s/2^k) 1=1
        · obtain⟨fn,tmps,assign,body,hy,hR⟩:=hY 2 k (wr.alloc (.cells #[.int .i64 (f k 0),.int .i64 (f k 1)] 96)) (by omega) hb (hst _ _ _ hJs)
          gi_wp2
          refine hR.mono ?_
          rintro e W3 (⟨rfl,hJ3⟩|⟨rfl,hJx3⟩)
          · gi_wp2
            go_roundw
            case rel=>exact⟨k+1,by omega,by simp,by rw[hcs1 k (by omega) hb];exact hJ3⟩
            case measure=>simp[intOf];omega
          · gi_wp2
            refine bodyPost_ret (results_none rfl _ _ _) rfl ?_
            exact⟨⟨_,rfl⟩,.inr hJx3⟩
        · gi_wp2
          refine⟨fun _ h=>(by cases h),?_⟩
          gi_wp2
          go_roundw
          case rel=>exact⟨k+1,by omega,by simp,by rw[hcs2 k (by omega) hb];exact hst _ _ _ hJs⟩
          case measure=>simp[intOf];omega
      · obtain rfl:k=len:=by omega
        gi_wp2
        go_end0
        exact⟨⟨_,rfl⟩,.inl hJs⟩

set_option maxRecDepth 100000 in
set_option maxHeartbeats 4000000 in
theorem each1_none:Go.Eng.HH Tryz.prog 192:=by
  intro x l B1 o1 B2 o2 J W h1 hst h0
  refine(callsIn_wide (n:=3)).1 ?_
  refine callsIn_of_wp Tryz.func192 rfl trivial ?_ rfl
  simp only[Tryz.ntmps192,List.size_toArray,List.length_cons,List.length_nil,Nat.reduceAdd,Nat.reduceSub,Array.replicate_succ,Array.replicate_zero,List.push_toArray,List.append_toArray,List.nil_append,List.cons_append]
  gi_wp2
  gi_loopw [14] (fun i wr=>i= .int .i64 0/\J wr) (fun i _=>0)
  case atStart=>exact⟨rfl,h0⟩
  case round=>
    obtain⟨rfl,hJs⟩:=hrel
    gi_wp2
    go_end0
    exact⟨⟨_,rfl⟩,hJs⟩

theorem s192:Go.Eng.Gt.Spec (Go.Eng.Pure Tryz.prog) 192:=Go.Eng.Gt.of (by kernel_rfl) each1_some each1_none
end Go.Proofs.YtdfplndcbbofjaaGreat
