/- The engine and the library,part 10 of 18: what the proofs of this seat need of them. -/
import Derived.Test.YthoinfdfenkgnaaGreatPk9
set_option linter.unnecessarySimpa false
set_option linter.unusedSimpArgs false
set_option linter.unusedVariables false
set_option linter.defProp false
set_option maxRecDepth 10000
set_option maxHeartbeats 4000000
namespace Go.Eng
open Go
section
open Z
def kB:List AV:=[.bool false,.int .i64 0,.int .i64 0,.int .i64 0,.int .i64 0,.int .i64 0,.int .i64 0,.int .i64 0,.int .i64 0,.int .i64 0,.int .i64 0,.bool false,.bool false,.bool false,.int .i64 0,.int .i64 0,.int .i64 0,.int .i64 0,.int .i64 0,.int .i64 0,.int .i64 0,.int .i64 0,.int .i64 0,.int .i64 0,.bool false,.bool false,.bool false,.int .i64 0,.int .i64 0,.int .i64 0,.int .i64 0,.int .i64 0,.int .i64 0,.int .i64 0,.int .i64 0,.int .i64 0,.int .i64 0,.bool false,.bool false,.bool false,.int .i64 0,.int .i64 0,.int .i64 0,.int .i64 0,.int .i64 0,.int .i64 0,.int .i64 0,.int .i64 0,.int .i64 0,.int .i64 0,.bool false,.bool false,.bool false,.int .i64 0,.int .i64 0,.int .i64 0,.int .i64 0,.int .i64 0,.int .i64 0,.int .i64 0,.int .i64 0,.int .i64 0,.int .i64 0,.bool false,.bool false,.bool false,.int .i64 0,.int .i64 0,.int .i64 0,.int .i64 0,.int .i64 0,.int .i64 0,.int .i64 0,.int .i64 0,.int .i64 0,.int .i64 0,.bool false,.bool false,.bool false,.int .i64 0,.int .i64 0,.int .i64 0,.int .i64 0,.int .i64 0,.int .i64 0,.int .i64 0,.int .i64 0,.int .i64 0,.int .i64 0,.bool false,.bool false,.bool false,.int .i64 0,.int .i64 0,.int .i64 0,.int .i64 0,.int .i64 0,.int .i64 0,.int .i64 0,.int .i64 0,.int .i64 0,.int .i64 0,.bool false,.bool false,.aL,.int .i64 0,.int .i64 0,.int .i64 0,.int .i64 0,.int .i64 0,.int .i64 0,.int .i64 0,.int .i64 0,.aL,.aL,.aL,.int .i64 0,.int .i64 0,.int .i64 0,.int .i64 0,.int .i64 0,.int .i64 0,.int .i64 0,.int .i64 0,.int .i64 0,.int .i64 0,.int .i64 0,.int .i64 0,.int .i64 0,.int .i64 0,.int .i64 0,.int .i64 0,.int .i64 0,.int .i64 0,.int .i64 0,.int .i64 0,.int .i64 0,.int .i64 0,.int .i64 0,.int .i64 0,.int .i64 0,.int .i64 0,.int .i64 0,.int .i64 0,.int .i64 0,.int .i64 0,.int .i64 0,.int .i64 0,.int .i64 0,.int .i64 0,.int .i64 0,.int .i64 0,.int .i64 0,.int .i64 0,.int .i64 0]
def dY:List AV:=[.int .i64 0,.int .i64 0,.int .i64 0,.int .i64 0,.int .i64 0,.int .i64 0,.int .i64 0,.int .i64 0,.int .i64 0,.int .i64 0,.int .i64 0,.int .i64 0,.int .i64 0,.int .i64 0,.int .i64 0,.int .i64 0]
def rj(g0 g1:Nat):bM:=⟨43,[.cell 6 (some 16),.tmp 7],r [o 3 (w 0),o 4 (w 1),o 5 (w 2),o 6 (.alloc dY),V 7 (i 0)] (r [o 10 (L 5 8),o 11 (.build dY [(0,8,t 10)]),o 8 (.alloc dY),n (s 8 11 16)] (j (r [V 12 (i 0)] (u 0 (.loop (r [o 13 (bb .lss 12 (i 8))] (j (c 13 z (.exit 0)) (j (u 1 (r [M 14 12,M 9 14] (r [M 15 9,o 16 (f 8 8),o 17 (A 16 15 8 1),n (ss 17 (i 1) 1)] (r [M 18 9,o 19 (A 5 18 8 1),o 20 (l 19),o 21 (bb .and 20 (i 7)),M 22 9,o 23 (f 4 0),o 24 (A 23 22 8 1),o 25 (l 24),o 26 (bb .and 25 (i 7)),o 27 (b .eql 21 26)] (c 27 (R [M 28 9,M 29 9,o 30 (f 4 8),o 31 (A 30 29 8 1),o 32 (l 31),o 33 (.call g0 [t 32]),o 34 (f 8 8),o 35 (A 34 28 8 1),n (s 35 33 1)]) z))))) (R [o 36 (bb .add 12 (i 1)),M 12 36]))))))) (.seq (.kL [o 37 (L 8 16),o 38 (L 3 131),o 39 (L 4 16),o 40 (L 5 8),o 41 (.build kB [(0,131,t 38),(131,16,t 39),(147,8,t 40)]),o 42 (.call g1 [t 41]),n (s 6 37 16),M 7 42] [(1,6),(2,6),(3,6)]) y)))⟩
def rm:bM:=⟨7,[.tmp 2],r [V 2 (i 0)] (r [M 3 0,o 4 (.mm true [t 3,k (i 0)]),o 5 (.mm false [t 4,k (i 9999)]),o 6 (bb .add 5 (i 1)),M 2 6] y)⟩
def jJ(g0 g1 g2 g3 g4 g5 g6:Nat):bM:=⟨24,[.tmp 2],r [o 1 (w 0),V 2 (i 0)] (.scope 0 (r [V 3 (i 1)] (j (r [o 4 (L 1 155),o 5 (.rW (.func g0) [] [t 1]),o 6 (.call g1 [t 4,t 5])] (c 6 (.goto 0) z)) (r [V 3 (i 2)] (j (r [o 7 (L 1 155),o 8 (.rW (.func g2) [] [t 1]),o 9 (.call g1 [t 7,t 8])] (c 9 (.goto 0) z)) (r [V 3 (i 3)] (j (r [o 10 (L 1 155),o 11 (.rW (.func g3) [] [t 1]),o 12 (.call g1 [t 10,t 11])] (c 12 (.goto 0) z)) (r [V 3 (i 4)] (j (r [o 13 (L 1 155),o 14 (.rW (.func g4) [] [t 1]),o 15 (.call g1 [t 13,t 14])] (c 15 (.goto 0) z)) (r [V 3 (i 5)] (j (r [o 16 (L 1 155),o 17 (L 1 155),o 18 (.rW (.func g5) [t 17] []),o 19 (.call g1 [t 16,t 18])] (c 19 (.goto 0) z)) (r [V 3 (i 6)] (j (r [o 20 (L 1 155),o 21 (.rW (.func g6) [] [t 1]),o 22 (.call g1 [t 20,t 21])] (c 22 (.goto 0) z)) (r [V 3 (i 0)] (j (.label 0) (r [M 23 3,M 2 23] y))))))))))))))) (j z (r [M 23 3,M 2 23] y)))⟩
def kU:bM:=⟨22,[.tmp 4],r [o 2 (w 0),V 4 (F)] (j (r [o 7 (f 2 0),o 8 (f 7 0),o 9 (L 8 104),V 10 (i 0)] (u 0 (.loop (r [o 11 (bb .lss 10 (i 8))] (j (c 11 z (.exit 0)) (j (u 1 (r [M 12 10,o 13 (.DU (t 9) (t 10) 8 13 (some 13)),o 6 (.alloc cn),M 5 12,n (s 6 13 13)] (r [o 14 (f 6 0),o 15 (l 14),M 16 15,p 17 (m 1) 16,p 18 (m 5) 16,p 19 (.eP (t 17) [t 18]) 16,o 20 (P 16 19)] (c 20 (r [V 4 (T)] y) z)))) (R [o 21 (bb .add 10 (i 1)),M 10 21]))))))) (r [V 4 (F)] y))⟩
def iK(g0:Nat):bM:=⟨8,[.tmp 3],r [V 3 (F)] (r [o 4 (L 1 155),M 5 0,o 6 (.call g0 [t 4,t 5]),o 7 (bb .eql 6 (i 0)),M 3 7] y)⟩
def kV(g0:Nat):bM:=⟨12,[.tmp 4],r [o 2 (w 0),V 4 (i 0)] (r [M 5 1,o 6 (f 2 147),o 7 (A 6 5 8 1),o 8 (l 7),o 9 (bb .and 8 (i 7)),o 10 (.oG .u64 (t 9)),o 11 (.call g0 [t 10]),M 4 11] y)⟩
def iL(g0:Nat):bM:=⟨8,[.tmp 3],r [V 3 (F)] (r [o 4 (L 1 155),M 5 0,o 6 (.call g0 [t 4,t 5]),o 7 (bb .gtr 6 (i 1)),M 3 7] y)⟩
def iM(g0 g1:Nat):bM:=⟨12,[.tmp 3],r [V 3 (F)] (r [o 4 (L 1 155),M 5 0,o 6 (.call g0 [t 4,t 5]),M 7 6,p 8 (L 1 155) 7,p 9 (m 0) 7,p 10 (.call g1 [t 8,t 9]) 7,o 11 (P 7 10),M 3 11] y)⟩
def jK:bM:=⟨11,[.tmp 4],r [o 2 (w 0),V 4 (F)] (r [M 5 1,o 6 (f 2 147),o 7 (A 6 5 8 1),o 8 (l 7),o 9 (bb .and 8 (i 6)),o 10 (bb .neq 9 (i 0)),M 4 10] y)⟩
def iN(g0 g1:Nat):bM:=⟨8,[.tmp 4],r [o 2 (w 0),o 3 (w 1),V 4 (F)] (r [o 5 (L 2 155),o 6 (.rW (.func g0) [] [t 3,t 2]),o 7 (.call g1 [t 5,t 6]),M 4 7] y)⟩
def iO(g0:Nat):bM:=⟨15,[.tmp 3],r [V 3 (F)] (r [M 4 0,o 5 (f 1 147),o 6 (A 5 4 8 1),o 7 (l 6),o 8 (bb .and 7 (i 8)),o 9 (bb .neq 8 (i 0)),M 10 9,p 11 (L 1 155) 10,p 12 (m 0) 10,p 13 (.call g0 [t 11,t 12]) 10,o 14 (P 10 13),M 3 14] y)⟩
def iP(g0:Nat):bM:=⟨18,[.tmp 4],r [o 2 (w 0),V 4 (F)] (r [o 5 (L 2 155),M 6 1,o 7 (.call g0 [t 5,t 6,k (i 4),k (i 1)]),M 8 7,q 9 (L 2 155) 8,q 10 (m 1) 8,q 11 (.call g0 [t 9,t 10,k (i 1),k (i 2)]) 8,o 12 (Q 8 11),M 13 12,q 14 (L 2 155) 13,q 15 (m 1) 13,q 16 (.call g0 [t 14,t 15,k (i 2),k (i 4)]) 13,o 17 (Q 13 16),M 4 17] y)⟩
def iQ(g0:Nat):bM:=⟨21,[.tmp 3],r [V 3 (F)] (r [o 4 (L 1 155),M 5 0,o 6 (.call g0 [t 4,t 5,k (i 2),k (i 1)]),M 7 6,p 8 (m 0) 7,p 9 (f 1 131) 7,p 10 (f 9 8) 7,p 11 (A 10 8 8 1) 7,p 12 (l 11) 7,p 13 (m 0) 7,p 14 (f 1 0) 7,p 15 (f 14 0) 7,p 16 (A 15 13 8 13) 7,p 17 (f 16 6) 7,p 18 (l 17) 7,p 19 (b .lss 12 18) 7,o 20 (P 7 19),M 3 20] y)⟩
def jl:bM:=⟨26,[.tmp 8],r [o 4 (w 0),V 8 (F)] (r [M 9 1,o 10 (f 4 131),o 11 (f 10 0),o 12 (A 11 9 8 1),o 13 (l 12),o 14 (bb .and 13 (i 7)),M 15 2,o 16 (b .eql 14 15),M 17 16,p 18 (m 1) 17,p 19 (f 4 147) 17,p 20 (A 19 18 8 1) 17,p 21 (l 20) 17,p 22 (bb .and 21 (i 7)) 17,p 23 (m 3) 17,p 24 (b .eql 22 23) 17,o 25 (P 17 24),M 8 25] y)⟩
def gA(g0 g1:Nat):bM:=⟨8,[.tmp 2],r [V 2 (i 0)] (j (.cond (k (F)) (r [M 3 0,o 4 (.oG .u32 (t 3)),o 5 (.call g0 [t 4]),M 2 5] y) z) (r [M 6 0,o 7 (.call g1 [t 6]),M 2 7] y))⟩
def ic(g0 g1:Nat):bM:=⟨31,[.tmp 4],r [V 4 (F)] (r [M 5 0,o 6 (l 1),o 7 (b .neq 5 6),M 8 7,p 9 (l 1) 8,p 10 (f 2 0) 8,p 11 (f 10 105) 8,p 12 (A 11 9 8 1) 8,p 13 (l 12) 8,p 14 (m 0) 8,p 15 (.call g0 [t 13,t 14]) 8,p 16 (m 15) 8,q 17 (m 0) 16,q 18 (f 2 0) 16,q 19 (f 18 105) 16,q 20 (A 19 17 8 1) 16,q 21 (l 20) 16,q 22 (l 1) 16,q 23 (.call g0 [t 21,t 22]) 16,p 24 (Q 16 23) 8,o 25 (P 8 24),M 26 25,p 27 (L 2 155) 26,p 28 (m 0) 26,p 29 (.call g1 [t 27,t 28]) 26,o 30 (P 26 29),M 4 30] y)⟩
def iR:bM:=⟨35,[.tmp 2],r [V 2 (i 0)] (r [M 3 0,o 4 (bb .shr 3 (.int .u64 1)),o 5 (bb .and 4 (.int .u64 6148914691236517205)),M 6 0,o 7 (bb .and 6 (.int .u64 6148914691236517205)),o 8 (b .add 5 7),M 0 8] (r [M 9 0,o 10 (bb .shr 9 (.int .u64 2)),o 11 (bb .and 10 (.int .u64 3689348814741910323)),M 12 0,o 13 (bb .and 12 (.int .u64 3689348814741910323)),o 14 (b .add 11 13),M 0 14] (r [M 15 0,o 16 (bb .shr 15 (.int .u64 4)),M 17 0,o 18 (b .add 16 17),o 19 (bb .and 18 (.int .u64 1085102592571150095)),M 0 19] (r [M 20 0,M 21 0,o 22 (bb .shr 21 (.int .u64 8)),o 23 (b .add 20 22),M 0 23] (r [M 24 0,M 25 0,o 26 (bb .shr 25 (.int .u64 16)),o 27 (b .add 24 26),M 0 27] (r [M 28 0,M 29 0,o 30 (bb .shr 29 (.int .u64 32)),o 31 (b .add 28 30),M 0 31] (r [M 32 0,o 33 (.oG .i64 (t 32)),o 34 (bb .and 33 (i 127)),M 2 34] y)))))))⟩
end
section
open Z
def Cb(g0:Nat):bM:=⟨19,[.tmp 2],r [o 1 (w 0),V 2 (i 0)] (r [V 3 (i 0)] (j (r [o 6 (f 1 0),o 7 (L 6 104),V 8 (i 0)] (u 0 (.loop (r [o 9 (bb .lss 8 (i 8))] (j (c 9 z (.exit 0)) (j (u 1 (r [M 10 8,o 11 (.DU (t 7) (t 8) 8 13 (some 13)),o 5 (.alloc cn),M 4 10,n (s 5 11 13)] (r [o 12 (f 5 0),o 13 (l 12)] (c 13 (R [M 14 3,M 15 4,o 16 (.call g0 [t 14,t 15]),M 3 16]) z)))) (R [o 17 (bb .add 8 (i 1)),M 8 17]))))))) (r [M 18 3,M 2 18] y)))⟩
def oz(g0 g1:Nat):bM:=⟨51,[.tmp 4,.tmp 5,.tmp 6,.tmp 7],r [o 2 (w 0),V 4 (i 0),V 5 (i 0),V 6 (i 0),V 7 (F)] (.scope 0 (j (r [M 14 1,o 15 (.mz g0 1 [t 14]),o 16 (.call g1 [t 15]),o 17 (bb .eql 16 (i 0))] (c 17 (r [V 4 (i 0),V 5 (i 0),V 6 (i 0),V 7 (F)] y) z)) (j (.label 0) (j (r [o 18 (f 2 104),o 19 (l 18),o 20 (h 19),V 21 (i 0)] (u 0 (.loop (r [o 22 (b .lss 21 20)] (j (c 22 z (.exit 0)) (j (u 1 (r [M 23 21,o 24 (a 19 21 2),o 25 (L 24 2),o 9 (.alloc [.aL,.aL]),M 8 23,n (s 9 25 2)] (r [o 26 (L 9 2),V 27 (i 0)] (u 2 (.loop (r [o 28 (bb .lss 27 (i 2))] (j (c 28 z (.exit 2)) (j (u 3 (r [M 29 27,o 30 (.DU (t 26) (t 27) 2 1 none),M 10 29,M 11 30] (r [M 31 11,o 32 (h 31),V 33 (i 0)] (u 4 (.loop (r [o 34 (b .lss 33 32)] (j (c 34 z (.exit 4)) (j (u 5 (r [M 35 33,o 36 (a 31 33 1),o 37 (l 36),M 12 35,M 13 37] (r [M 38 13,M 39 1,o 40 (b .eql 38 39)] (c 40 (r [M 41 8,M 42 10,M 43 12,M 4 41,M 5 42,M 6 43,V 7 (T)] (.exit 0)) z)))) (R [o 44 (bb .add 33 (i 1)),M 33 44]))))))))) (R [o 45 (bb .add 27 (i 1)),M 27 45]))))))))) (R [o 46 (bb .add 21 (i 1)),M 21 46]))))))) (r [M 47 4,M 48 5,M 49 6,M 50 7,M 4 47,M 5 48,M 6 49,M 7 50] y)))) (j z (j (r [o 18 (f 2 104),o 19 (l 18),o 20 (h 19),V 21 (i 0)] (u 0 (.loop (r [o 22 (b .lss 21 20)] (j (c 22 z (.exit 0)) (j (u 1 (r [M 23 21,o 24 (a 19 21 2),o 25 (L 24 2),o 9 (.alloc [.aL,.aL]),M 8 23,n (s 9 25 2)] (r [o 26 (L 9 2),V 27 (i 0)] (u 2 (.loop (r [o 28 (bb .lss 27 (i 2))] (j (c 28 z (.exit 2)) (j (u 3 (r [M 29 27,o 30 (.DU (t 26) (t 27) 2 1 none),M 10 29,M 11 30] (r [M 31 11,o 32 (h 31),V 33 (i 0)] (u 4 (.loop (r [o 34 (b .lss 33 32)] (j (c 34 z (.exit 4)) (j (u 5 (r [M 35 33,o 36 (a 31 33 1),o 37 (l 36),M 12 35,M 13 37] (r [M 38 13,M 39 1,o 40 (b .eql 38 39)] (c 40 (r [M 41 8,M 42 10,M 43 12,M 4 41,M 5 42,M 6 43,V 7 (T)] (.exit 0)) z)))) (R [o 44 (bb .add 33 (i 1)),M 33 44]))))))))) (R [o 45 (bb .add 27 (i 1)),M 27 45]))))))))) (R [o 46 (bb .add 21 (i 1)),M 21 46]))))))) (r [M 47 4,M 48 5,M 49 6,M 50 7,M 4 47,M 5 48,M 6 49,M 7 50] y))))⟩
def Et(g0:Nat):bM:=⟨18,[.tmp 2],r [V 2 (i 0)] (r [V 3 (i 0)] (j (r [M 6 0,o 7 (h 6),V 8 (i 0)] (u 0 (.loop (r [o 9 (b .lss 8 7)] (j (c 9 z (.exit 0)) (j (u 1 (r [o 10 (a 6 8 1),o 11 (l 10),M 5 11] (R [M 12 3,M 13 5,o 14 (.call g0 [t 13]),o 15 (b .or 12 14),M 3 15]))) (R [o 16 (bb .add 8 (i 1)),M 8 16]))))))) (r [M 17 3,M 2 17] y)))⟩
end
section
variable{t:Tb} (h:t.Ln)
include h
theorem Jh:t.cells.drop 105=t.conflict.map I++(aH nL.cells t.aM::aH Rl.cells t.bQ::aH Bs.cells t.jC::
  I t.extend::I t.gx::I t.start::I t.revert::I t.least::(t.cB.map I++[I t.mS,I t.share])):=by
 have e:(t.phases.flatMap Ph.cells).length=104:=by rw[aJ Ph.len,h.phases]
 have e2:t.cells.drop 105=(t.cells.drop 104).drop 1:=by rw[List.drop_drop]
 rw[e2,Tb.cells,List.drop_left' e];rfl
theorem U1:t.cells[104]? =some (aH Gr.cells t.groups):=by
 simp[Tb.cells,List.getElem?_append,aJ Ph.len,h.phases,h.conflict,h.cB,List.getElem?_cons]
end
def lvl(x:Nat):Bool:=SJ x 0&&LN x 4696837146684686336
def abe(x:Nat):Bool:=decide (IntKind.i64.wrap (x:Int)<0)
def Cc(x:Nat):Bool:=Pd x&& !abe x
def nL.Fw(d:nL):Prop:=d.on<2^64/\d.off<2^64/\d.delay<2^64/\d.extend<2^64
def Tb.Fw(t:Tb):Prop:=∀d∈t.aM.getD [],d.Fw
structure Rd where
 lock:List Int
 was:Int
 ee:Int
 deriving Inhabited,DecidableEq
def Rd.cells(s:Rd):List AV:=s.lock.map I++[I s.was,I s.ee]
structure Rn where
 aQ:Int
 time:Int
 fst:Int
 dR:Int
 left:Int
 jL:Int
 extra:Int
 done:Bool
 jW:Bool
 limit:Int
 up:Int
 down:Int
 deriving Inhabited,DecidableEq
def Rn.cells(r:Rn):List AV:=[I r.aQ,I r.time,I r.fst,I r.dR,I r.left,I r.jL,I r.extra,B r.done,B r.jW,I r.limit,I r.up,I r.down]
theorem Rn.len(r:Rn):r.cells.length=12:=rfl
def cz(l:List Rn):List AV:=l.flatMap Rn.cells
theorem dF{l:List Rn} (h:l.length=8):(cz l).length=96:=by rw[cz,aJ Rn.len,h]
def qC(s:Rd) (k:Nat):Int:=s.lock.getD k 0
def rq(t:Tb) (k:Nat):Bs:=(t.jC.getD []).getD k default
def m9(t:Tb):Nat:=min (t.jC.getD []).length 4
def iS(t:Tb) (s:Int):List Nat:=(List.range (m9 t)).filter fun k=>tb s k
def oA(t:Tb) (k:Nat):List AV:=[I k,.agg (rq t k).cells]
theorem Rd.at{s:Rd} (h:s.lock.length=4) {k:Nat} (hk:k<4):s.cells[k]? =some (I (qC s k)):=by
 have hk':k<s.lock.length:=by omega
 simp[Rd.cells,List.getElem?_append,hk',qC]
theorem Rd.U2{s:Rd} (h:s.lock.length=4):s.cells[4]? =some (I s.was):=by simp[Rd.cells,h]
theorem Rd.tj{s:Rd} (h:s.lock.length=4):s.cells[5]? =some (I s.ee):=by simp[Rd.cells,h]
theorem Rd.len{s:Rd} (h:s.lock.length=4):s.cells.length=6:=by simp[Rd.cells,h]
theorem Rd.whole{s:Rd} (h:s.lock.length=4):ay s.cells 0 (some 6)=some (.agg s.cells):=by
 have:=Rd.len h
 simp[ay,this];rw[<-this,List.take_length]
theorem gB{l:List Rn} (h:l.length=8):ay (cz l) 0 (some 96)=some (.agg (cz l)):=by
 have:=dF h
 simp[ay,this];rw[<-this,List.take_length]
theorem i6{l:List Rn} {k:Nat} (h:l.length=8) (hk:k<8):ay (cz l) (k*12) (some 12)=some (.agg (l.getD k default).cells):=by
 have hget:l[k]? =some (l.getD k default):=by
  have:k<l.length:=by omega
  simp[this]
 rw[cz,ja hget]
 exact eu (by rw[aJ Rn.len,jD hget]) rfl
theorem Hp{t:Tb} {s:Int} {i k:Nat} (h:(iS t s)[i]? =some k):k<4/\k<(t.jC.getD []).length/\tb s k=true:=by
 have:=List.mem_of_getElem? h
 simp only[iS,List.mem_filter,List.mem_range,m9]at this
 exact⟨by omega,by omega,this.2⟩
def Cd.Spec(C:aS) (f:Nat):Prop:=∀n:Int,C.c f [I n] (I (dS ((if 9999<(if 0>n then 0 else n)then 9999 else(if 0>n then 0 else n))+1))) none
def each.Spec(C:aS) (f:Nat):Prop:=∀(t:Tb) (s:Int),t.Ok->∃g,C.c f [.agg t.cells,I s] (.fn (.func g) [] [.ref t.cells,.ref [I s]]) none/\C.i (.fn (.func g) [] [.ref t.cells,.ref [I s]]) ((iS t s).map (oA t))
def Hq(s:Rd) (n:Int) (k:Nat):Int:=if qC s k<=0 then yE .i64 n (2^k)else n
def ru(t:Tb) (s:Rd) (ask:Int):Int:=(iS t ask).foldl (Hq s) 0
def Live.Spec(C:aS) (f:Nat):Prop:=∀(t:Tb) (s:Rd) (ask:Int),t.Ok->s.lock.length=4->C.c f [.agg t.cells,.agg s.cells,I ask] (I (ru t s ask)) none
def kC(is:Rn->Bool) (l:List Rn):Nat->Int
 |0=>0
 |k+1=>if is (l.getD k default)then d9 (kC is l k) k else kC is l k
def uw.Spec(C:aS) (f:Nat):Prop:=∀(l:List Rn) (g:Nat) (caps:List AV) (is:Rn->Bool),l.length=8->(∀r:Rn,C.c g (.agg r.cells::caps) (B (is r)) none)->C.c f [.agg (cz l),.fn (.func g) [] caps] (I (kC is l 8)) none
def Ks(t:Tb) (n:Int) (k:Nat):Int:=yE .i64 n (rq t k).set
def FM(t:Tb) (r:Rn):Bool:=r.aQ==1&&decide (r.extra<t.extend)
def Eu(t:Tb) (s:Rd) (l:List Rn) (ask:Int):Int:=if s.ee>=t.gx then 0 else dw .i64 ((iS t (ru t s ask)).foldl (Ks t) 0) (kC (FM t) l 8)
def Hr.Spec(C:aS) (f:Nat):Prop:=∀(t:Tb) (r:Rn),t.Ok->C.c f [.agg r.cells,.ref t.cells] (B (FM t r)) none
def NX.Spec(C:aS) (f:Nat):Prop:=∀(t:Tb) (s:Rd) (l:List Rn) (ask:Int),t.Ok->s.lock.length=4->l.length=8->C.c f [.agg t.cells,.agg s.cells,.agg (cz l),I ask] (I (Eu t s l ask)) none
def ux(r:Rn):Bool:=r.aQ==1
def Ce.Spec(C:aS) (f:Nat):Prop:=∀(r:Rn),C.c f [.agg r.cells] (B (ux r)) none
def Cf(t:Tb) (green:Int) (n:Int) (k:Nat):Int:=if dw .i64 (rq t k).set green==0 then yE .i64 n (ep .i64 255 (rq t k).set)else n
def Cg(t:Tb) (s:Rd) (l:List Rn) (ask:Int):Int:=(iS t (ru t s ask)).foldl (Cf t (kC ux l 8)) 0
def Early.Spec(C:aS) (f:Nat):Prop:=∀(t:Tb) (s:Rd) (l:List Rn) (ask:Int),t.Ok->s.lock.length=4->l.length=8->C.c f [.agg t.cells,.agg s.cells,.agg (cz l),I ask] (I (Cg t s l ask)) none
theorem vX{α:Type} {f:Int->α->Int} {b:Int} {l:List α} {i:Nat} {x:α} (h:l[i]? =some x):(l.take (i+1)).foldl f b=f ((l.take i).foldl f b) x:=kq h
theorem NY{k:Nat} (hk:k<8):IntKind.i64.wrap (1*2^min k IntKind.i64.bits)=2^k:=by
 have:k=0\/k=1\/k=2\/k=3\/k=4\/k=5\/k=6\/k=7:=by omega
 rcases this with rfl|rfl|rfl|rfl|rfl|rfl|rfl|rfl<;>decide
theorem Tb.LR{t:Tb} (ht:t.Ok):t.cells[116]? =some (I t.extend):=by
 simp[Tb.cells,List.getElem?_append,aJ Ph.len,ht.phases,ht.conflict]
theorem Tb.LS{t:Tb} (ht:t.Ok):t.cells[117]? =some (I t.gx):=by
 simp[Tb.cells,List.getElem?_append,aJ Ph.len,ht.phases,ht.conflict]
section
variable{P:Program} (hm:P.follows .mixedOrders=true) {f:Nat}
include hm
theorem Cd.ok(hc:bF P f=some qZ):Cd.Spec (Pure P) f:=by
 intro n
 refine ak hm hc (by show 1<=7;decide) (aj (keep:=[]) (i:=0) ?_)
 try simp only[I,RX,↓KW,seval,qZ,Z.H]
 rfl
theorem Ce.ok(hc:bF P f=some m8):Ce.Spec (Pure P) f:=by
 intro r
 refine ak hm hc (by show 1<=6;decide) (aj (keep:=[]) (i:=0) ?_)
 try simp only[I,B,RX,↓KW,seval,m8,Z.H,Rn.cells]
 rfl
theorem Hr.ok(hc:bF P f=some nV):Hr.Spec (Pure P) f:=by
 intro t r ht
 have h1:(t.cells.drop 116)[0]? =some (AV.int .i64 t.extend):=by rw[List.getElem?_drop];exact Tb.LR ht
 refine ak hm hc (by show 2<=14;decide) (aj (keep:=[]) (i:=0) ?_)
 try simp only[I,B,RX,↓KW,seval,nV,Z.H,Rn.cells]
 repeat' (((first|refine aV ?_ ?_|refine ax ?_ ?_|refine bC ?_ ?_)<;>intro h)<;>try simp only[RX,↓KW,seval,h1,h])
 all_goals simp_all [FM]
theorem uw.ok{fW:Nat} (hc:bF P f=some (o5 fW)) (hW:gO.Spec (Pure P) fW):uw.Spec (Pure P) f:=by
 intro l g caps is hl hg
 have hwh:=gB hl
 refine ak hm hc (by show 2<=21;decide) (aj (keep:=[]) (i:=0) ?_)
 try simp only[I,RX,↓KW,seval,o5,Z.H,hwh]
 refine aG (fun k:Nat=>(⟨[(9,.dat (I k) none),(5,.dat (I (kC is l k)) none),(8,.dat (.agg (cz l)) none),(1,.dat (.fn (.func g) [] caps) none)],[],[],400⟩:S)) (fun k=>8-k) (fun k=>k<=8) ?_ 0 (by omega) ?_
 ·intro k hk A back
  have hw:=aB (k:=k) (by omega)
  try simp only[I,RX,↓KW,seval]
  refine ax (fun h=>?_) (fun h=>?_)<;>try simp only[RX,↓KW,seval,h]
  ·have h8:k<8:=by have:=of_decide_eq_true h;omega
   have hat:=i6 hl h8
   have hn:kC is l (k+1)=if is (l.getD k default)then d9 (kC is l k) k else kC is l k:=rfl
   have hg':=hg (l.getD k default)
   generalize l.getD k default=r at*
   have hp:ay r.cells 0 (some 12)=some (.agg r.cells):=rfl
   try simp only[RX,↓KW,seval,hat,aP,Rn.len,hp]
   refine⟨by omega,?_⟩
   refine af hg' ?_;try simp only[B,RX,↓KW,seval]
   refine ax (fun h2=>?_) (fun h2=>?_)<;>try simp only[B,RX,↓KW,seval,h2]
   ·refine af (hW _ _) ?_
    try simp only[I,RX,↓KW,seval]
    refine back (k+1) _ (by omega) (by omega) (ai (by decide) ?_ ?_ ?_ ?_)<;>simp[LX,I,hw,hn,h2]
   ·refine back (k+1) _ (by omega) (by omega) (ai (by decide) ?_ ?_ ?_ ?_)<;>simp[LX,I,hw,hn,h2]
  ·have:k=8:=by have:=of_decide_eq_false h;omega
   subst this;try simp only[seval]
 ·refine ai (by decide) ?_ ?_ ?_ ?_<;>simp[LX,I,kC]
theorem Live.ok{fE:Nat} (hc:bF P f=some (qV fE)) (hE:each.Spec (Pure P) fE):Live.Spec (Pure P) f:=by
 intro t s ask ht hs
 have hp:=Tb.whole ht
 refine ak hm hc (by show 3<=24;decide) (aj (keep:=[]) (i:=0) ?_)
 try simp only[I,RX,↓KW,seval,qV,Z.H,hp]
 obtain⟨g,hg,hi⟩:=hE t ask ht;refine af hg ?_;try simp only[I,RX,seval]
 refine ia (fun n:Int=>(⟨[(11,.dat (.fn (.func g) [] [.ref t.cells,.ref [.int .i64 ask]]) none),(4,.ptr 5 0),(7,.ptr 7 0)],[(5,⟨s.cells,[]⟩),(7,⟨[I n],[]⟩)],[],400⟩:S)) (fun i n=>n=((iS t ask).take i).foldl (Hq s) 0) hi rfl (gZ fun _=>rfl) (fun _=>rfl) ?_ ?_ 0 (by simp) ?_
 ·rintro i x n hx rfl F back
  obtain⟨k,hk,rfl⟩:=m7 hx;obtain⟨h4,hlt,hb⟩:=Hp hk
  have hlk:=Rd.at hs h4
  have hn:=vX (f:=Hq s) (b:=0) hk
  have hpow:=NY (k:=k) (by omega)
  try simp only[I,RX,↓KW,seval,oA,hlk]
  refine⟨by omega,?_⟩
  refine ax (fun h=>?_) (fun h=>?_)<;>try simp only[RX,↓KW,seval,h]
  ·try simp only[seval,hpow]
   refine⟨by omega,back _ _ rfl ?_⟩
   refine ai (by decide) ?_ ?_ ?_ ?_<;>simp[LX,I,hn,Hq,of_decide_eq_true h]
  ·refine back _ _ rfl ?_
   refine ai (by decide) ?_ ?_ ?_ ?_<;>simp[LX,I,hn,Hq,of_decide_eq_false h]
 ·rintro n hn
  try simp only[I,RX,↓KW,seval,hn]
  simp[ru]
 ·refine ai (by decide) ?_ ?_ ?_ ?_<;>simp[LX,I]
theorem NX.ok{fL fE f1 fT:Nat} (hc:bF P f=some (qW fL fE f1 fT)) (hL:Live.Spec (Pure P) fL) (hE:each.Spec (Pure P) fE) (h1:Hr.Spec (Pure P) f1) (hT:uw.Spec (Pure P) fT):NX.Spec (Pure P) f:=by
 intro t s l ask ht hs hl8
 have hp:=Tb.whole ht
 have hsw:=Rd.whole hs
 have hsp:s.cells[5]? =some (AV.int .i64 s.ee):=Rd.tj hs
 have hbu:t.cells[117]? =some (AV.int .i64 t.gx):=Tb.LS ht
 have hrw:=gB hl8
 refine ak hm hc (by show 4<=34;decide) (aj (keep:=[]) (i:=0) ?_)
 try simp only[I,RX,↓KW,seval,qW,Z.H,hsp,hbu]
 refine ax (fun hsb=>?_) (fun hsb=>?_)<;>try simp only[RX,↓KW,seval,hp,hsw,hsb]
 ·have:=of_decide_eq_true hsb
  simp[Eu,this]
 ·have hsb':=of_decide_eq_false hsb
  refine af (hL t s ask ht hs) ?_;try simp only[I,RX,↓KW,seval]
  obtain⟨g,hg,hi⟩:=hE t (ru t s ask) ht
  refine af hg ?_;try simp only[I,RX,seval]
  refine ia (fun n:Int=>(⟨[(22,.dat (.fn (.func g) [] [.ref t.cells,.ref [.int .i64 (ru t s ask)]]) none),(4,.ptr 4 0),(6,.ptr 6 0),(9,.ptr 13 0)],[(4,⟨t.cells,[]⟩),(6,⟨cz l,[]⟩),(13,⟨[I n],[]⟩)],[],400⟩:S)) (fun i n=>n=((iS t (ru t s ask)).take i).foldl (Ks t) 0) hi rfl (gZ fun _=>rfl) (fun _=>rfl) ?_ ?_ 0 (by simp) ?_
  ·rintro i x n hx rfl F back
   obtain⟨k,hk,rfl⟩:=m7 hx
   have hn:=vX (f:=Ks t) (b:=0) hk
   try simp only[I,RX,↓KW,seval,oA,Bs.cells]
   refine back _ _ rfl ?_
   refine ai (by decide) ?_ ?_ ?_ ?_<;>simp[LX,I,hn,Ks]
  ·rintro n hn
   try simp only[I,RX,↓KW,seval,hn]
   refine dG (by rfl) ?_
   try simp only[RX,↓KW,seval,hrw]
   refine⟨rfl,af (hT l f1 [.ref t.cells] (FM t) hl8 (fun r=>h1 t r ht)) ?_⟩
   try simp only[I,RX,↓KW,seval]
   simp[Eu,hsb']
  ·refine ai (by decide) ?_ ?_ ?_ ?_<;>simp[LX,I]
theorem Early.ok{fT f1 fL fE:Nat} (hc:bF P f=some (oZ fT f1 fL fE)) (hT:uw.Spec (Pure P) fT) (h1:Ce.Spec (Pure P) f1) (hL:Live.Spec (Pure P) fL) (hE:each.Spec (Pure P) fE):Early.Spec (Pure P) f:=by
 intro t s l ask ht hs hl8
 have hp:=Tb.whole ht
 have hsw:=Rd.whole hs
 have hrw:=gB hl8
 refine ak hm hc (by show 4<=34;decide) (aj (keep:=[]) (i:=0) ?_)
 try simp only[I,RX,↓KW,seval,oZ,Z.H,hrw]
 refine af (hT l f1 [] ux hl8 h1) ?_;try simp only[I,RX,↓KW,seval,hp,hsw]
 refine af (hL t s ask ht hs) ?_;try simp only[I,RX,↓KW,seval]
 obtain⟨g,hg,hi⟩:=hE t (ru t s ask) ht
 refine af hg ?_;try simp only[I,RX,seval]
 refine ia (fun n:Int=>(⟨[(20,.dat (.fn (.func g) [] [.ref t.cells,.ref [.int .i64 (ru t s ask)]]) none),(9,.ptr 10 0),(10,.ptr 11 0)],[(10,⟨[I (kC ux l 8)],[]⟩),(11,⟨[I n],[]⟩)],[],400⟩:S)) (fun i n=>n=((iS t (ru t s ask)).take i).foldl (Cf t (kC ux l 8)) 0) hi rfl (gZ fun _=>rfl) (fun _=>rfl) ?_ ?_ 0 (by simp) ?_
 ·rintro i x n hx rfl F back
  obtain⟨k,hk,rfl⟩:=m7 hx
  have hn:=vX (f:=Cf t (kC ux l 8)) (b:=0) hk
  try simp only[I,RX,↓KW,seval,oA,Bs.cells]
  refine ax (fun h=>?_) (fun h=>?_)<;>try simp only[RX,↓KW,seval,h]
  ·refine back _ _ rfl ?_
   refine ai (by decide) ?_ ?_ ?_ ?_<;>simp[LX,I,hn,Cf,h]
  ·refine back _ _ rfl ?_
   refine ai (by decide) ?_ ?_ ?_ ?_<;>simp[LX,I,hn,Cf,h]
 ·rintro n hn
  try simp only[I,RX,↓KW,seval,hn]
  simp[Cg]
 ·refine ai (by decide) ?_ ?_ ?_ ?_<;>simp[LX,I]
def Hs.Spec(C:aS) (f:Nat):Prop:=∀(t:Tb) (s:Int),t.Ok->C.i (.fn (.func f) [] [.ref t.cells,.ref [I s]]) ((iS t s).map (oA t))
theorem each.ok{f1:Nat} (hc:bF P f=some (qY f1)) (h1:Hs.Spec (Pure P) f1):each.Spec (Pure P) f:=by
 intro t s ht;refine⟨f1,?_,h1 t s ht⟩
 refine ak hm hc (by show 2<=6;decide) (aj (keep:=[]) (i:=0) ?_)
 try simp only[I,RX,↓KW,seval,qY,Z.H]
 simp
end
theorem FN(x:Int) {k:Nat} (hk:k<8):dw .i64 (x.fdiv (2^min k IntKind.i64.bits)) 1=if tb x k then 1 else 0:=by
 have e:min k IntKind.i64.bits=k:=by have:IntKind.i64.bits=64:=rfl;omega
 have h1:tb (x.fdiv (2^k)) 0=tb x k:=by
  rw[B8 _ (by omega),B8 _ (by omega)]
  simp
 rw[e,Hh,h1]
def SL(n:Int):Int:=dS ((if 9999<(if 0>n then 0 else n)then 9999 else(if 0>n then 0 else n))+1)
def Ci(t:Tb) (s:Rd) (ask:Int) (k:Nat):Int:=if qC s k>0 then dS (qC s k-1)else if tb s.was k&& !tb ask k then(rq t k).lock else 0
def tq(t:Tb) (s:Rd) (ask:Int) (i:Nat):List Int:=(List.range 4).map fun k=>if k<i then Ci t s ask k else 0
def Ji(s:Rd) (held round:Bool):Int:=if held then SL (if round then 0 else s.ee)else if round then 0 else s.ee
def tr(t:Tb) (s:Rd) (ask:Int) (held round:Bool):Rd:=⟨tq t s ask (m9 t),ru t s ask,Ji s held round⟩
def Cj.Spec(C:aS) (f:Nat):Prop:=∀(t:Tb) (s:Rd) (ask:Int) (held round:Bool),t.Ok->s.lock.length=4->C.c f [.agg t.cells,.agg s.cells,I ask,B held,B round] (.agg (tr t s ask held round).cells) none
theorem Ht(t:Tb):iS t 15=List.range (m9 t):=by
 rw[iS,List.filter_eq_self];intro k hk;simp only[List.mem_range,m9]at hk
 have:k=0\/k=1\/k=2\/k=3:=by omega
 rcases this with rfl|rfl|rfl|rfl<;>decide
def tu(t:Tb) (s:Rd) (ask sp:Int) (i:Nat):List AV:=(⟨tq t s ask i,ru t s ask,sp⟩:Rd).cells
theorem NZ(t:Tb) (s:Rd) (ask sp:Int) {k:Nat} (hk:k<4):setCells (tu t s ask sp k) k [AV.int .i64 (Ci t s ask k)]=tu t s ask sp (k+1):=by
 have:k=0\/k=1\/k=2\/k=3:=by omega
 rcases this with rfl|rfl|rfl|rfl<;>simp[tu,Rd.cells,tq,setCells,List.range_succ]
theorem LU(t:Tb) (s:Rd) (ask sp:Int) {k:Nat} (hk:k<4) (h:Ci t s ask k=0):tu t s ask sp k=tu t s ask sp (k+1):=by
 have:k=0\/k=1\/k=2\/k=3:=by omega
 rcases this with rfl|rfl|rfl|rfl<;>simp[tu,Rd.cells,tq,List.range_succ,h]
theorem abf(a b c d:AV):setCells [a,b] 0 [c,d]=[c,d]:=rfl
theorem xD(t:Tb) (s:Rd) (ask sp:Int) (i:Nat):(tu t s ask sp i).length=6:=by simp[tu,Rd.cells,tq]
section
variable{P:Program} (hm:P.follows .mixedOrders=true) {f:Nat}
include hm
theorem Cj.ok {fL fM fE:Nat} (hc:bF P f=some (qX fL fM fE)) (hL:Live.Spec (Pure P) fL) (hM:Cd.Spec (Pure P) fM) (hE:each.Spec (Pure P) fE):Cj.Spec (Pure P) f:=by
  intro t s ask held round ht hs
  have hp:=Tb.whole ht
  have hsw:=Rd.whole hs
  have hsp:s.cells[5]? = some (AV.int .i64 s.ee):=Rd.tj hs
  have hwas:s.cells[4]? = some (AV.int .i64 s.was):=Rd.U2 hs
  obtain ⟨sp,hsp2⟩:∃ sp,sp=Ji s held round:=⟨_,rfl⟩
  refine ak hm hc (by show 5≤66; decide) (aj (keep:=[]) (i:=0) ?_)
  try simp only [I,B,RX,↓ KW,seval,qX,Z.H,hp,hsw]
  refine af (hL t s ask ht hs) ?_
  cases held<;>cases round
  all_goals
    try simp only [I,RX,↓ KW,seval,hp,hsp]
    repeat' (first | (refine af (hM _) ?_; try simp only [I,RX,↓ KW,seval,hp]) | (((first | refine aV ?_ ?_ | refine ax ?_ ?_ | refine bC ?_ ?_)<;>intro h)<;>try simp only [I,B,D,RX,↓ KW,seval,hp,hsw,h]))
    obtain ⟨g,hg,hi⟩:=hE t 15 ht
    refine af hg ?_
    try simp only [I,RX,seval]
    refine ia (fun y:Nat=>(⟨[(29,.dat (.fn (.func g) [] [.ref t.cells,.ref [.int .i64 15]]) none),(6,.ptr 5 0),(11,.ptr 15 0),(7,.ptr 6 0),(10,.ptr 7 0)],[(5,⟨s.cells,[]⟩),(15,⟨tu t s ask sp y,[]⟩),(6,⟨[I ask],[]⟩),(7,⟨[I 0,I 0,I 0,I 0,I 0,I 0],[]⟩)],[],400⟩:S)) (fun i y=>y=i∧i≤m9 t) hi rfl (gZ fun _=>rfl) (fun _=>rfl) ?_ ?_ 0 (by simp) ?_
    · rintro i x y hx ⟨rfl,hle⟩ F back
      obtain ⟨k,hk,rfl⟩:=m7 hx
      obtain ⟨h4,hlt,hb⟩:=Hp hk
      have hki:y=k:=by
        rw [Ht] at hk
        have h1:=(List.getElem?_eq_some_iff.1 hk).1
        rw [List.getElem?_range (by simpa using h1)] at hk
        simpa using hk
      subst hki
      have hlk:=Rd.at hs h4
      have hsa:=FN s.was (k:=y) (by omega)
      have hsb:=FN ask (k:=y) (by omega)
      have hse:=NZ t s ask sp h4
      have hkp:=LU t s ask sp h4
      have hle':y + 1≤m9 t:=by simp only [m9]; omega
      try simp only [I,RY,↓ KW,seval,oA,hlk,Bs.cells]
      refine ⟨by omega,?_⟩
      refine ax (fun h=>?_) (fun h=>?_)<;>try simp only [RY,↓ KW,seval,h]
      · have hN:Ci t s ask y=IntKind.i64.wrap (qC s y - 1):=by simp [Ci,dS,of_decide_eq_true h]
        rw [hN] at hse
        try simp only [I,RY,↓ KW,seval,hlk,xD,hse]
        refine ⟨by omega,by omega,by omega,back (y + 1) _ ⟨rfl,hle'⟩ ?_⟩
        refine ai (by decide) ?_ ?_ ?_ ?_<;>simp [LX,I]
      · have h':=of_decide_eq_false h
        try simp only [RY,↓ KW,seval,hwas,hsa]
        cases hta:tb s.was y<;>cases htb:tb ask y
        all_goals
          have hN:Ci t s ask y=if tb s.was y && !tb ask y then (rq t y).lock else 0:=by simp [Ci,h']
          rw [hN,hta,htb] at hse
          rw [hN,hta,htb] at hkp
          try simp only [RY,↓ KW,seval,htb,hsb,abf,xD]
          repeat' (refine And.intro (by omega) ?_)
          refine back (y + 1) _ ⟨rfl,hle'⟩ ?_
        · have hk2:=hkp (by simp)
          refine ai (by decide) ?_ ?_ ?_ ?_<;>simp [LX,I,hk2]
        · have hk2:=hkp (by simp)
          refine ai (by decide) ?_ ?_ ?_ ?_<;>simp [LX,I,hk2]
        · simp only [Bool.not_false,Bool.and_self,if_true] at hse
          refine ai (by decide) ?_ ?_ ?_ ?_<;>simp [LX,I,hse]
        · have hk2:=hkp (by simp)
          refine ai (by decide) ?_ ?_ ?_ ?_<;>simp [LX,I,hk2]
    · rintro y ⟨rfl,hle⟩
      have e:(iS t 15).length=m9 t:=by rw [Ht]; simp
      have hl6:=xD t s ask sp (m9 t)
      have htk:(tu t s ask sp (m9 t)).take 6=tu t s ask sp (m9 t):=by rw [List.take_of_length_le]; omega
      have hsz:setCells [AV.int .i64 0,AV.int .i64 0,AV.int .i64 0,AV.int .i64 0,AV.int .i64 0,AV.int .i64 0] 0 (tu t s ask sp (m9 t))=tu t s ask sp (m9 t):=bk (by rw [hl6]; rfl)
      have hpw:ay (tu t s ask sp (m9 t)) 0 (some 6)=some (.agg (tu t s ask sp (m9 t))):=by simp [ay,hl6,htk]
      try simp only [I,RY,↓ KW,seval,e,xD,hsz,hpw]
      simp [tu,tr,hsp2]
    · refine ai (by decide) ?_ ?_ ?_ ?_<;>simp [LX,I,hsp2,Ji,SL,dS,tu,Rd.cells,tq,List.range_succ]
end
theorem Q8{A B:List AV} {l:List Int} {o k:Nat} {x:Int} (hA:A.length=o) (hk:k<l.length):setCells (A++(l.map I++B)) (o+k) [I x]=A++((l.set k x).map I++B):=by
 obtain⟨U,y,V,rfl,rfl⟩:∃U y V,l=U++y::V/\k=U.length:=⟨l.take k,l[k],l.drop (k+1),by simp,by simp;omega⟩
 have e:A++((U++y::V).map I++B)=(A++U.map I)++([I y]++(V.map I++B)):=by simp
 rw[e,nM (mid:=[I y]) (ps:=[I x]) (by simp[hA]) rfl]
 simp
def Ev(f g:Nat->Int) (k:Nat):List Int:=(List.range 8).map fun p=>if p<k then f p else g p
theorem LV(f g:Nat->Int) (k:Nat):(Ev f g k).length=8:=by simp[Ev]
theorem Ew(f g:Nat->Int) {k:Nat} (hk:k<8):(Ev f g k).set k (f k)=Ev f g (k+1):=by
 have:k=0\/k=1\/k=2\/k=3\/k=4\/k=5\/k=6\/k=7:=by omega
 rcases this with rfl|rfl|rfl|rfl|rfl|rfl|rfl|rfl<;>simp[Ev,List.range_succ]
def Sh.AH(s:Sh) (k:Nat) (x:Int):Sh:={s with time:=s.time.set k x}
section
variable{s:Sh} (h:s.Ok) {k:Nat} (hk:k<8) (x:Int)
include h
theorem Sh.DD:(s.AH k x).Ok:=⟨h.aQ,by simp[Sh.AH,h.time],h.gV,h.dR⟩
include hk
end
structure gL where
 group:Int
 a0:Int
 a1:Int
 lU:Bool
 deriving Inhabited,DecidableEq
def gL.cells(r:gL):List AV:=[I r.group,I r.a0,I r.a1,B r.lU]
structure Pr where
 aq:Int
 which:Int
 time:Int
 held:List Int
 ee:Int
 deriving Inhabited,DecidableEq
def Pr.cells(p:Pr):List AV:=I p.aq::I p.which::I p.time::(p.held.map I++[I p.ee])
structure Ch where
 on:Bool
 dU:Int
 Pe:Int
 DR:Int
 held:Int
 tail:Int
 out:Bool
 deriving Inhabited,DecidableEq
def Ch.cells(c:Ch):List AV:=[B c.on,I c.dU,I c.Pe,I c.DR,I c.held,I c.tail,B c.out]
structure bP where
 runs:List Rn
 rings:gL
 kW:Rd
 pre:Pr
 calls:Cs
 gn:Option (List Ch)
 deriving Inhabited,DecidableEq
def bP.cells(s:bP):List AV:=cz s.runs++(s.rings.cells++(s.kW.cells++(s.pre.cells++(s.calls.cells++[aH Ch.cells s.gn]))))
structure bP.Ok (s:bP):Prop where
 runs:s.runs.length=8
 lock:s.kW.lock.length=4
 held:s.pre.held.length=4
def bP.rn(s:bP) (k:Nat):Rn:=s.runs.getD k default
section
variable{s:bP} (h:s.Ok)
include h
theorem bP.len:s.cells.length=117:=by
 simp[bP.cells,dF h.runs,gL.cells,Rd.cells,Pr.cells,Cs.cells,h.lock,h.held]
theorem bP.whole:ay s.cells 0 (some 117)=some (.agg s.cells):=by
 have:=bP.len h
 simp[ay,this];rw[<-this,List.take_length]
theorem bP.Ex:ay s.cells 0 (some 96)=some (.agg (cz s.runs)):=by
 have:=eu (pre:=[]) (mid:=cz s.runs) (post:=s.rings.cells++(s.kW.cells++(s.pre.cells++(s.calls.cells++[aH Ch.cells s.gn])))) (off:=0) (z:=96) rfl (dF h.runs)
 exact this
theorem bP.N0{k j:Nat} (hk:k<8) (hj:j<12):s.cells[k*12+j]? =(s.rn k).cells[j]?:=by
 rw[bP.cells,List.getElem?_append_left (by rw[dF h.runs];omega)]
 exact kG (i6 h.runs hk) hj
theorem bP.N1:s.cells[106]? =some (I s.pre.aq):=by
 simp[bP.cells,dF h.runs,gL.cells,Rd.cells,Pr.cells,Cs.cells,h.lock,h.held]
end
theorem Hu{v n:Int} (hn:0<n) (h2:n<1000):0<=place v n/\place v n<n:=by
 have h:=Int.tmod_lt_of_pos v hn
 have h3:-n<v.tmod n:=by have:=Int.lt_tmod_of_pos v hn;omega
 simp only[place];split
 ·rw[dS,aW (by omega) (by omega)];omega
 ·omega
theorem bP.SM{s:bP} (h:s.Ok) {k:Nat} (hk:k<8) (r:Rn):setCells s.cells (k*12) r.cells={s with runs:=s.runs.set k r}.cells:=by
 have hl:=h.runs
 have hget:s.runs[k]? =some (s.rn k):=by
  have:k<s.runs.length:=by omega
  simp[bP.rn,this]
 unfold bP.cells cz;simp only;rw[Nw hget,List.flatMap_append,List.flatMap_cons]
 conv=>lhs;rw[ja hget]
 rw[List.append_assoc,List.append_assoc,List.append_assoc,List.append_assoc]
 exact nM (by rw[aJ Rn.len,jD hget]) rfl
def Hv(x:Ph):Rn:=⟨0,9999,0,0,0,0,0,false,false,x.max,0,0⟩
def kX(t:Tb) (k:Nat):bP:=⟨(List.range 8).map fun p=>if p<k then Hv (aX t p)else default,⟨0,0,0,false⟩,⟨[0,0,0,0],0,0⟩,⟨0,0,0,[0,0,0,0],0⟩,⟨0,0⟩,none⟩
def kY(t:Tb):bP:={kX t 8 with rings:=⟨0,-1,-1,false⟩}
theorem N2(t:Tb) (k:Nat):(kX t k).Ok:=⟨by simp[kX],rfl,rfl⟩
theorem nX(t:Tb):(kY t).Ok:=⟨by simp[kY,kX],rfl,rfl⟩
theorem Jj(t:Tb) {k:Nat} (hk:k<8):{kX t k with runs:=(kX t k).runs.set k (Hv (aX t k))}=kX t (k+1):=by
 have:k=0\/k=1\/k=2\/k=3\/k=4\/k=5\/k=6\/k=7:=by omega
 rcases this with rfl|rfl|rfl|rfl|rfl|rfl|rfl|rfl<;>simp[kX,List.range_succ]
def AU.Spec(C:aS) (f:Nat):Prop:=∀t:Tb,t.Ln->C.c f [.agg t.cells] (.agg (kY t).cells) none
structure acJ (t:Tb) (s:Rd):Prop where
 len:s.lock.length=4
 ee:s.ee=0
 lo:∀k,0<=qC s k/\qC s k<=30
 off:∀k,m9 t<=k->qC s k=0
 was:∀k,tb s.was k=true->k<m9 t
theorem Hw:∀(l l':List Int) (n:Nat) (ks:List CK) (as bs:List AV),l.length=n->l'.length=n->bZ (List.replicate n .i++ks) (l.map I++as) (l'.map I++bs)=(bZ ks as bs).map fun r=>decide (l=l')&&r
 |[],[],n,ks,as,bs,h,h'=>by subst h;cases h:bZ ks as bs<;>simp[h]
 |[],y::l',n,ks,as,bs,h,h'=>by simp at h h';omega
 |x::l,[],n,ks,as,bs,h,h'=>by simp at h h';omega
 |x::l,y::l',0,ks,as,bs,h,h'=>by simp at h
 |x::l,y::l',n+1,ks,as,bs,h,h'=>by
  have ih:=Hw l l' n ks as bs (by simpa using h) (by simpa using h')
  simp only[List.replicate_succ,List.cons_append,List.map_cons,bZ,pU,if_true,ih]
  cases bZ ks as bs with
  |none=>rfl
  |some r=>
   simp only[Option.map_some,Option.some.injEq,List.cons.injEq]
   by_cases h1:x=y<;>by_cases h2:l=l'<;>simp[h1,h2]
section
variable{t:Tb} (h:t.Ln)
include h
theorem U3:ay t.cells 0 (some 104)=some (.agg (t.phases.flatMap Ph.cells)):=by
 have e:(t.phases.flatMap Ph.cells).length=104:=by rw[aJ Ph.len,h.phases]
 have l:=h.len
 simp only[ay]
 rw[if_pos (by omega),List.drop_zero,Tb.cells,List.take_left' e]
theorem SN:ay t.cells 121 (some 8)=some (.agg (t.cB.map I)):=by
 have l:=h.len
 have e:t.cells.drop 121=(t.cells.drop 105).drop 16:=by rw[List.drop_drop]
 have e2:∀l:List AV,l.drop 16=(l.drop 8).drop 8:=fun l=>by rw[List.drop_drop]
 simp only[ay]
 rw[if_pos (by omega),e,Jh h,e2,List.drop_left' (by simp[h.conflict])]
 simp only[List.drop_succ_cons,List.drop_zero]
 rw[List.take_left' (by simp[h.cB])]
end
def Can(s:Int):Prop:=0<=s/\s<256
theorem xE{s:Int} (h:Can s) {i:Nat} (h8:8<=i) (h64:i<64):tb s i=false:=by
 rw[B8 s h64]
 have hp:(2:Int)^8<=2^i:=by
  have e:(2:Int)^i=2^8*2^(i-8):=by rw[<-Int.pow_add];congr 1;omega
  have:(1:Int)<=2^(i-8):=by have:=Int.pow_pos (n:=(2:Int)) (m:=i-8) (by decide);omega
  rw[e];have h2:(2:Int)^8=256:=rfl
  rw[h2];omega
 have:s.fdiv (2^i)=0:=by
  rw[Int.fdiv_eq_ediv_of_nonneg _ (by omega)]
  exact Int.ediv_eq_zero_of_lt h.1 (by have:=h.2;omega)
 rw[this];rfl
theorem AW{x y:Int} (hx:Can x) (hy:Can y) (h:∀i,i<8->tb x i=tb y i):x=y:=by
 have hb:bv x=bv y:=by
  apply BitVec.eq_of_getLsbD_eq
  intro i hi
  have h64:i<64:=hi
  rcases Nat.lt_or_ge i 8 with h8|h8
  ·exact h i h8
  ·have a:=xE hx h8 h64
   have b:=xE hy h8 h64
   simp only[tb]at a b;rw[a,b]
 have:=congrArg BitVec.toNat hb
 simp only[bv,BitVec.toNat_ofInt]at this
 have hx':=hx;have hy':=hy
 unfold Can at hx' hy'
 have e:((2^64:Nat):Int)=18446744073709551616:=by decide
 rw[e]at this;omega
theorem U4{x:Int} (h0:0<=x) (h1:x<18446744073709551616) (h:∀i,8<=i->i<64->tb x i=false):Can x:=by
 refine⟨h0,?_⟩
 have hn:(bv x).toNat=x.toNat:=by
  simp only[bv,BitVec.toNat_ofInt]
  have e:((2^64:Nat):Int)=18446744073709551616:=by decide
  rw[e];omega
 have:x.toNat<2^8:=by
  apply Nat.lt_pow_two_of_testBit
  intro i hi
  rcases Nat.lt_or_ge i 64 with h64|h64
  ·have:=h i hi h64
   simp only[tb,BitVec.getLsbD]at this;rw[<-hn];exact this
  ·apply Nat.testBit_lt_two_pow
   have:x.toNat<2^64:=by
    omega
   exact Nat.lt_of_lt_of_le this (Nat.pow_le_pow_right (by decide) h64)
 omega
theorem Ck(b:BitVec 64) (h:b.getLsbD 63=false):IntKind.i64.wrap (b.toNat:Int)=b.toNat/\(b.toNat:Int)<9223372036854775808:=by
 have:b.toNat<2^63:=by
  apply Nat.lt_pow_two_of_testBit
  intro i hi
  rcases Nat.lt_or_ge i 64 with h64|h64
  ·have:i=63:=by omega
   subst this;exact h
  ·apply Nat.testBit_lt_two_pow
   exact Nat.lt_of_lt_of_le b.isLt (Nat.pow_le_pow_right (by decide) h64)
 refine⟨aW (by omega) (by omega),by omega⟩
theorem Cl{b:BitVec 64} (h:∀i,8<=i->i<64->b.getLsbD i=false):Can (IntKind.i64.wrap (b.toNat:Int)):=by
 obtain⟨h1,h2⟩:=Ck b (h 63 (by decide) (by decide))
 rw[h1]
 refine U4 (by omega) (by omega) fun i h8 h64=>?_
 simp only[tb,Jd];exact h i h8 h64
theorem tw{s:Int} {p:Nat} (hp:p<8):Can (d9 s p):=by
 have:d9 s p=IntKind.i64.wrap (((bv (dw .i64 s 255))|||bv (oR p)).toNat:Int):=rfl
 rw[this]
 refine Cl fun i h8 h64=>?_
 rw[BitVec.getLsbD_or]
 have a:=FB s 255 i
 have b:=FD hp i
 simp only[tb]at a b;rw[a,b]
 have c:=FC i
 simp only[tb]at c;rw[c]
 have:¬i<8:=by omega
 have h2:¬i=p:=by omega
 simp[this,h2]
theorem Hx(l:List Int):∀k,k<=8->Can (vR l k)
 |0,_=>by show Can 0;exact⟨by decide,by decide⟩
 |k+1,h=>by
  have ih:=Hx l k (by omega)
  simp only[vR];split
  ·have e:yE .i64 (vR l k) (2^k)=IntKind.i64.wrap ((bv (vR l k)|||bv (2^k)).toNat:Int):=rfl
   rw[e]
   refine Cl fun i h8 h64=>?_
   rw[BitVec.getLsbD_or]
   have a:=xE ih h8 h64
   have b:=Je (p:=k) (by omega) i
   simp only[tb]at a b;rw[a,b]
   have:¬i=k:=by omega
   simp[this]
  ·exact ih
theorem Q9(l:List Int):Can (SF l):=Hx l 8 (by omega)
theorem Ra{t:Tb} (h:t.Ln) {p:Nat} (hp:p<8):ay (t.phases.flatMap Ph.cells) (p*13) (some 13)=some (.agg (aX t p).cells):=by
 rw[ja (h.tc hp)]
 exact eu (by rw[aJ Ph.len,jD (h.tc hp)]) rfl
def o9(t:Tb):Nat->Int
 |0=>0
 |k+1=>if(aX t k).on then d9 (o9 t k) k else o9 t k
theorem Ey(t:Tb):∀k,k<=8->Can (o9 t k)
 |0,_=>by show Can 0;exact⟨by decide,by decide⟩
 |k+1,h=>by
  simp only[o9];split
  ·exact tw (by omega)
  ·exact Ey t k (by omega)
theorem Hy(t:Tb) (i:Nat):∀k,k<=8->tb (o9 t k) i=(decide (i<k)&&(aX t i).on)
 |0,_=>by simp[o9,AQ]
 |k+1,h=>by
  have ih:=Hy t i k (by omega)
  simp only[o9];split
  ·rename_i hk
   rw[ur (by omega),ih]
   by_cases e:i=k
   ·subst e;simp[hk]
   ·have h1:(i<k+1)↔i<k:=by omega
    have h2:i<k->i<8:=by omega
    by_cases h3:i<k
    ·simp[h1,h3,h2 h3,e]
    ·simp[h1,h3,e]
  ·rename_i hk
   rw[ih]
   by_cases e:i=k
   ·subst e;simp[hk]
   ·have:(i<k+1)↔i<k:=by omega
    simp[this]
theorem U5(t:Tb) (i:Nat):tb (wE t) i=(decide (i<8)&&(aX t i).on):=by
 rw[wE,YT]
 by_cases h:i<8
 ·have:(i:Int)∈xw t 8↔(aX t i).on=true:=by
   simp only[xw,List.mem_filter,List.mem_map,List.mem_range,Int.natCast_inj];constructor
   ·rintro⟨_,h2⟩;exact h2
   ·intro h2;exact⟨⟨i,h,rfl⟩,h2⟩
  simp[h,this]
 ·simp[h]
theorem U6(t:Tb):o9 t 8=wE t:=AW (Ey t 8 (by omega)) (Q9 _) fun i hi=>by rw[Hy t i 8 (by omega),U5]
theorem Hz(l:List Gr) {n m:Nat} (h:n<=m) (hm:m<=l.length):∃r,dm l m=dm l n++r:=by
 induction m with
 |zero=>exact⟨[],by rw[show n=0 by omega];simp⟩
 |succ m ih=>
  rcases Nat.lt_or_ge n (m+1)with h1|h1
  ·obtain⟨r,hr⟩:=ih (by omega) (by omega)
   obtain⟨gr,hgr⟩:∃x,l[m]? =some x:=⟨_,List.getElem?_eq_getElem (by omega)⟩
   exact⟨r++dz gr m 2,by rw[jG hgr,hr,List.append_assoc]⟩
  ·exact⟨[],by rw[show n=m+1 by omega];simp⟩
theorem HA(gr:Gr) (g:Nat) {k:Nat} (hk:k<2):∃r,dz gr g 2=dz gr g k++(bY g k ((gr.row k).getD [])++r):=by
 have:k=0\/k=1:=by omega
 rcases this with rfl|rfl
 ·exact⟨bY g 1 ((gr.row 1).getD []),by rw[fy,fy,List.append_assoc]⟩
 ·exact⟨[],by rw[fy];simp⟩
theorem FO(g k:Nat) (row:List Int) {n m:Nat} (h:n<=m) (hm:m<=row.length):∃r,bY g k (row.take m)=bY g k (row.take n)++r:=by
 induction m with
 |zero=>exact⟨[],by rw[show n=0 by omega];simp⟩
 |succ m ih=>
  rcases Nat.lt_or_ge n (m+1)with h1|h1
  ·obtain⟨r,hr⟩:=ih (by omega) (by omega)
   obtain⟨x,hx⟩:∃x,row[m]? =some x:=⟨_,List.getElem?_eq_getElem (by omega)⟩
   have hn:=kH (g:=g) (k:=k) hx
   by_cases h8:0<=x/\x<8
   ·exact⟨r++[⟨g,k,m,x⟩],by rw[hn.1 h8,hr,List.append_assoc]⟩
   ·exact⟨r,by rw[hn.2 h8,hr]⟩
  ·exact⟨[],by rw[show n=m+1 by omega];simp⟩
theorem HB{t:Tb} {p:Int} {g k i:Nat} {gr:Gr} (hp:0<=p/\p<8) (hg:(t.groups.getD [])[g]? =some gr) (hk:k<2) (hi:((gr.row k).getD [])[i]? =some p)
  (hno:∀x∈dm (t.groups.getD []) g++dz gr g k++bY g k (((gr.row k).getD []).take i),x.p≠p):aR t p=(⟨g,k,i,p⟩,true):=by
 have hlt:=(List.getElem?_eq_some_iff.1 hg).1
 have hil:=(List.getElem?_eq_some_iff.1 hi).1
 obtain⟨r1,h1⟩:=Hz (t.groups.getD []) (n:=g+1) (m:=(t.groups.getD []).length) (by omega) (Nat.le_refl _)
 obtain⟨r2,h2⟩:=HA gr g hk
 obtain⟨r3,h3⟩:=FO g k ((gr.row k).getD []) (n:=i+1) (m:=((gr.row k).getD []).length) (by omega) (Nat.le_refl _)
 rw[List.take_length]at h3
 have h4:=(kH (g:=g) (k:=k) hi).1 hp
 have hs:cU t=(dm (t.groups.getD []) g++dz gr g k++bY g k (((gr.row k).getD []).take i))++(⟨g,k,i,p⟩::(r3++r2++r1)):=by
  rw[cU,h1,jG hg,h2,h3,h4];simp only[List.append_assoc,List.cons_append,List.nil_append]
 have hf:(cU t).find? (fun x=>x.p==p)=some ⟨g,k,i,p⟩:=by
  rw[hs,List.find?_append]
  have:(dm (t.groups.getD []) g++dz gr g k++bY g k (((gr.row k).getD []).take i)).find? (fun x=>x.p==p)=none:=by
   rw[List.find?_eq_none];intro x hx;simpa using hno x hx
  rw[this];simp
 simp[aR,hf]
theorem Ez{t:Tb} {p:Int} (h:∀x∈cU t,x.p≠p):aR t p=(⟨0,0,0,0⟩,false):=by
 have:(cU t).find? (fun x=>x.p==p)=none:=by
  rw[List.find?_eq_none];intro x hx;simpa using h x hx
 simp[aR,this]
theorem HC{t:Tb} {x:Sp} (h:x∈cU t):0<=x.p/\x.p<8:=by
 simp only[cU,dm,dz,bY,List.mem_flatMap,List.mem_filterMap]at h;obtain⟨⟨gr,g⟩,_,k,_,⟨y,i⟩,_,h⟩:=h;simp only at h;split at h
 ·rename_i hy;cases h;exact hy
 ·cases h
def U7(l:List Int):Int:=l.foldl (fun s p=>yE .i64 s (oR p)) 0
def setOf.Spec(C:aS) (f:Nat):Prop:=∀l:Option (List Int),(l.getD []).length<=1000000000->C.c f [aH aD l] (I (U7 (l.getD []))) none
def Zh.Spec(C:aS) (f:Nat):Prop:=∀t:Tb,t.Ln->C.c f [.agg t.cells] (I (wE t)) none
def vY.Spec(C:aS) (f:Nat):Prop:=∀(t:Tb) (p:Int),t.Ok->C.c f [.agg t.cells,I p] (.cN [I (aR t p).1.group,I (aR t p).1.ring,I (aR t p).1.pos,B (aR t p).2]) none
theorem FP(p:Int):(U7 [p]==0)=!(decide (0<=p)&&decide (p<8)):=by
 simp only[U7,List.foldl_cons,List.foldl_nil]
 by_cases h:0<=p/\p<8
 ·obtain⟨n,rfl⟩:∃n:Nat,p=n:=⟨p.toNat,by omega⟩
  have hn:n<8:=by omega
  have:n=0\/n=1\/n=2\/n=3\/n=4\/n=5\/n=6\/n=7:=by omega
  rcases this with rfl|rfl|rfl|rfl|rfl|rfl|rfl|rfl<;>decide
 ·have e:oR p=0:=by unfold oR;rw[if_pos (by omega)]
  rw[e]
  have:(decide (0<=p)&&decide (p<8))=false:=by
   rw[Bool.and_eq_false_iff];simp only[decide_eq_false_iff_not];omega
  rw[this];decide
section
variable{P:Program} (hm:P.follows .mixedOrders=true) {f:Nat}
include hm
theorem setOf.ok{fB:Nat} (hc:bF P f=some (Et fB)) (hB:bit.Spec (Pure P) fB):setOf.Spec (Pure P) f:=by
 intro l hl
 refine ak hm hc (by show 1<=18;decide) (aj (keep:=[]) (i:=0) ?_)
 try simp only[I,RX,↓KW,Nat.reduceBEq,Nat.reduceAdd,Et,Z.H]
 refine aG (fun k:Nat=>(⟨[(8,.dat (I k) none),(7,.dat (I ((l.getD []).length:Nat)) none),(6,.dat (aH aD l) none),(3,.dat (I (((l.getD []).take k).foldl (fun s p=>yE .i64 s (oR p)) 0)) none)],[],[],400⟩:S)) (fun k=>(l.getD []).length-k) (fun k=>k<=(l.getD []).length) ?_ 0 (by omega) ?_
 rotate_left
 ·refine ai (by decide) ?_ ?_ ?_ ?_<;>simp[LX,I]
 intro k hk A back
 have hwr:=aB (k:=k) (by omega)
 try simp only[I,RX,↓KW,Nat.reduceBEq,Nat.reduceAdd]
 cases h2:decide ((k:Int)<(((l.getD []).length:Nat):Int))
 ·have e:k=(l.getD []).length:=by have:=of_decide_eq_false h2;omega
  subst e;rw[List.take_length];try simp only[RX,↓KW,Nat.reduceBEq,Nat.reduceAdd]
  rfl
 ·have h8:k<(l.getD []).length:=by have:=of_decide_eq_true h2;omega
  obtain⟨x,hx⟩:∃x,(l.getD [])[k]? =some x:=⟨_,List.getElem?_eq_getElem h8⟩
  have hn:=kq (f:=fun s p=>yE .i64 s (oR p)) (b:=0) hx
  try simp only[I,RX,↓KW,Nat.reduceBEq,Nat.reduceAdd,hx,aD]
  refine⟨by omega,?_⟩
  refine af (hB x) ?_;try simp only[I,RX,↓KW,Nat.reduceBEq,Nat.reduceAdd]
  refine back (k+1) _ (by omega) (by omega) ?_
  simp only[hn]
  refine ai (by decide) ?_ ?_ ?_ ?_<;>simp[LX,I,hwr]
theorem Zh.ok{fW:Nat} (hc:bF P f=some (Cb fW)) (hW:gO.Spec (Pure P) fW):Zh.Spec (Pure P) f:=by
 intro t h
 have hp:=U3 h
 rw[<-U6]
 refine ak hm hc (by show 1<=19;decide) (aj (keep:=[]) (i:=0) ?_)
 try simp only[I,RY,↓KW,Nat.reduceBEq,Nat.reduceAdd,Cb,Z.H,hp]
 refine aG (fun k:Nat=>(⟨[(8,.dat (I k) none),(7,.dat (.agg (t.phases.flatMap Ph.cells)) none),(3,.dat (I (o9 t k)) none)],[],[],400⟩:S)) (fun k=>8-k) (fun k=>k<=8) ?_ 0 (by omega) ?_
 rotate_left
 ·refine ai (by decide) ?_ ?_ ?_ ?_<;>simp[LX,I,o9]
 intro k hk A back
 have hwr:=aB (k:=k) (by omega)
 try simp only[I,RY,↓KW,Nat.reduceBEq,Nat.reduceAdd]
 cases h2:decide ((k:Int)<8)
 ·have e:k=8:=by have:=of_decide_eq_false h2;omega
  subst e;try simp only[RY,↓KW,Nat.reduceBEq,Nat.reduceAdd]
 ·have h8:k<8:=by have:=of_decide_eq_true h2;omega
  have hx:0<=(k:Int)/\(k:Int)<(8:Nat):=by omega
  have hat:=Ra h h8
  have hz:setCells cn 0 (aX t k).cells=(aX t k).cells:=bk rfl
  have hzl:cn.length=13:=rfl
  have p0:(aX t k).cells[0]? =some (AV.bool (aX t k).on):=rfl
  have hn:o9 t (k+1)=if(aX t k).on then d9 (o9 t k) k else o9 t k:=rfl
  try simp only[RY,↓KW,Nat.reduceBEq,Nat.reduceAdd,hx,hat,hz,hzl,Ph.len,p0]
  cases hon:(aX t k).on
  ·try simp only[RY,↓KW,Nat.reduceBEq,Nat.reduceAdd,hz]
   refine back (k+1) _ (by omega) (by omega) ?_
   rw[hon]at hn;simp only[hn]
   refine ai (by decide) ?_ ?_ ?_ ?_<;>simp[LX,I,hwr]
  ·try simp only[RY,↓KW,Nat.reduceBEq,Nat.reduceAdd,hz]
   refine af (hW _ _) ?_;try simp only[I,RY,↓KW,Nat.reduceBEq,Nat.reduceAdd]
   refine back (k+1) _ (by omega) (by omega) ?_
   rw[hon]at hn;simp only[hn]
   refine ai (by decide) ?_ ?_ ?_ ?_<;>simp[LX,I,hwr]
theorem vY.ok{e fO:Nat} (hc:bF P f=some (oz e fO)) (hO:setOf.Spec (Pure P) fO):vY.Spec (Pure P) f:=by
 intro t p ht
 have hg:=U1 ht.ln
 have c1:=hO (some [p]) (by simp)
 simp only[Option.getD_some]at c1
 refine ak hm hc (by show 2<=51;decide) (aj (keep:=[]) (i:=0) ?_)
 try simp only[I,B,RY,↓KW,Nat.reduceBEq,Nat.reduceAdd,oz,Z.H]
 refine af c1 ?_;cases hin:U7 [p]==0;rotate_left
 ·have hne:aR t p=(⟨0,0,0,0⟩,false):=by
   rw[FP]at hin
   refine Ez fun x hx e=>?_
   have:=HC hx
   rw[e]at this;simp[this]at hin
  try simp only[I,RY,↓KW,Nat.reduceBEq,Nat.reduceAdd,hin,hne]
 have hp:0<=p/\p<8:=by rw[FP]at hin;simpa using hin
 try simp only[I,RY,↓KW,Nat.reduceBEq,Nat.reduceAdd,hin,hg]
 refine aG (fun g:Nat=>(⟨[(21,.dat (I g) none),(20,.dat (I ((t.groups.getD []).length:Nat)) none),(19,.dat (aH Gr.cells t.groups) none),(1,.dat (I p) none),(4,.dat (I 0) none),(5,.dat (I 0) none),(6,.dat (I 0) none),(7,.dat (B false) none)],[],[],400⟩:S)) (fun g=>(t.groups.getD []).length-g) (fun g=>g<=(t.groups.getD []).length/\∀x∈dm (t.groups.getD []) g,x.p≠p) ?_ 0 (by simp[dm]) ?_
 rotate_left
 ·refine ai (by decide) ?_ ?_ ?_ ?_<;>simp[LX,I,B]
 rintro g ⟨hg1,hno⟩ A back
 have hb:=ht.groups
 have hw:=aB (k:=g) (by omega)
 try simp only[I,B,RY,↓KW,Nat.reduceBEq,Nat.reduceAdd]
 cases h2:decide ((g:Int)<(((t.groups.getD []).length:Nat):Int))
 ·have e:g=(t.groups.getD []).length:=by have:=of_decide_eq_false h2;omega
  subst e
  have hne:=Ez (t:=t) (p:=p) hno
  try simp only[RY,↓KW,Nat.reduceBEq,Nat.reduceAdd,hne]
 have hlt:g<(t.groups.getD []).length:=by have:=of_decide_eq_true h2;omega
 obtain⟨gr,hgr⟩:∃x,(t.groups.getD [])[g]? =some x:=⟨_,List.getElem?_eq_getElem hlt⟩
 have hrs:=ht.rows gr (List.mem_of_getElem? hgr)
 have hpart:ay (Gr.cells gr) 0 (some 2)=some (.agg (Gr.cells gr)):=rfl
 have hset:∀c:List AV,c.length=2->setCells c 0 (Gr.cells gr)=Gr.cells gr:=fun c h=>bk (by rw[h];rfl)
 try simp only[RY,↓KW,Nat.reduceBEq,Nat.reduceAdd,hgr,Gr.len,hpart,hset]
 refine⟨by omega,?_⟩
 try simp only[I,B,D,RY,↓KW,Nat.reduceBEq,Nat.reduceAdd,Nat.reduceLeDiff,Int.reduceNe,Int.reduceBEq,Int.reduceEq,reduceCtorEq,Nat.reduceMul,Int.reduceLT,Int.reduceLE,Int.reduceToNat,hset,Gr.len,hpart]
 refine aG (fun k:Nat=>(⟨[(27,.dat (I k) none),(26,.dat (.agg (Gr.cells gr)) none),(1,.dat (I p) none),(8,.dat (I g) none),(21,.dat (I g) none),(20,.dat (I ((t.groups.getD []).length:Nat)) none),(19,.dat (aH Gr.cells t.groups) none),(4,.dat (I 0) none),(5,.dat (I 0) none),(6,.dat (I 0) none),(7,.dat (B false) none)],[],[],500⟩:S)) (fun k=>2-k) (fun k=>k<=2/\∀x∈dm (t.groups.getD []) g++dz gr g k,x.p≠p) ?_ 0 ⟨by omega,by simpa[dz]using hno⟩ ?_
 rotate_left
 ·refine ai (by decide) ?_ ?_ ?_ ?_<;>simp[LX,I,B]
 rintro k ⟨hk,hno1⟩ A1 back1
 have hw1:=aB (k:=k) (by omega)
 try simp only[I,B,RY,↓KW,Nat.reduceBEq,Nat.reduceAdd]
 cases h3:decide ((k:Int)<2)
 ·have e:k=2:=by have:=of_decide_eq_false h3;omega
  subst e;try simp only[RY,↓KW,Nat.reduceBEq,Nat.reduceAdd]
  refine back (g+1) _ ⟨by omega,by rw[jG hgr];exact hno1⟩ (by omega) ?_
  refine ai (by decide) ?_ ?_ ?_ ?_<;>simp[LX,I,B,hw]
 have hk2:k<2:=by have:=of_decide_eq_true h3;omega
 have hx2:0<=(k:Int)/\(k:Int)<(2:Nat):=by omega
 have hrow:(Gr.cells gr)[k]? =some (aH aD (gr.row k)):=by
  have:k=0\/k=1:=by omega
  rcases this with rfl|rfl<;>rfl
 have hrl:((gr.row k).getD []).length<=1048576:=by
  have:k=0\/k=1:=by omega
  rcases this with rfl|rfl
  exact hrs.1;exact hrs.2
 try simp only[RY,↓KW,Nat.reduceBEq,Nat.reduceAdd,hx2,hrow]
 refine aG (fun i:Nat=>(⟨[(33,.dat (I i) none),(32,.dat (I (((gr.row k).getD []).length:Nat)) none),(31,.dat (aH aD (gr.row k)) none),(1,.dat (I p) none),(8,.dat (I g) none),(10,.dat (I k) none),(27,.dat (I k) none),(26,.dat (.agg (Gr.cells gr)) none),(21,.dat (I g) none),(20,.dat (I ((t.groups.getD []).length:Nat)) none),(19,.dat (aH Gr.cells t.groups) none),(4,.dat (I 0) none),(5,.dat (I 0) none),(6,.dat (I 0) none),(7,.dat (B false) none)],[],[],600⟩:S)) (fun i=>((gr.row k).getD []).length-i) (fun i=>i<=((gr.row k).getD []).length/\∀x∈dm (t.groups.getD []) g++dz gr g k++bY g k (((gr.row k).getD []).take i),x.p≠p) ?_ 0 ⟨by omega,by simpa[bY]using hno1⟩ ?_
 rotate_left
 ·refine ai (by decide) ?_ ?_ ?_ ?_<;>simp[LX,I,B]
 rintro i ⟨hi,hno2⟩ A2 back2
 have hw2:=aB (k:=i) (by omega)
 try simp only[I,B,RY,↓KW,Nat.reduceBEq,Nat.reduceAdd]
 cases h4:decide ((i:Int)<((((gr.row k).getD []).length:Nat):Int))
 ·have e:i=((gr.row k).getD []).length:=by have:=of_decide_eq_false h4;omega
  subst e;rw[List.take_length]at hno2;try simp only[RY,↓KW,Nat.reduceBEq,Nat.reduceAdd]
  refine back1 (k+1) _ ⟨by omega,by rw[fy,<-List.append_assoc];exact hno2⟩ (by omega) ?_
  refine ai (by decide) ?_ ?_ ?_ ?_<;>simp[LX,I,B,hw1]
 have hil:i<((gr.row k).getD []).length:=by have:=of_decide_eq_true h4;omega
 obtain⟨x,hx⟩:∃x,((gr.row k).getD [])[i]? =some x:=⟨_,List.getElem?_eq_getElem hil⟩
 try simp only[I,RY,↓KW,Nat.reduceBEq,Nat.reduceAdd,hx,aD]
 refine⟨by omega,?_⟩
 cases h5:x==p
 ·have hnx:x≠p:=by simpa using h5
  have hr:=kH (g:=g) (k:=k) hx
  try simp only[RY,↓KW,Nat.reduceBEq,Nat.reduceAdd]
  refine back2 (i+1) _ ⟨by omega,?_⟩ (by omega) ?_
  ·by_cases h8:0<=x/\x<8
   ·rw[hr.1 h8,<-List.append_assoc]
    intro y hy
    rcases List.mem_append.1 hy with hy|hy
    ·exact hno2 y hy
    ·rw[List.mem_singleton]at hy;subst hy;exact hnx
   ·rw[hr.2 h8];exact hno2
  ·refine ai (by decide) ?_ ?_ ?_ ?_<;>simp[LX,I,B,hw2]
 ·have ex:x=p:=by simpa using h5
  subst ex
  have hfound:=HB hp hgr hk2 hx hno2
  try simp only[RY,↓KW,Nat.reduceBEq,Nat.reduceAdd,hfound]
end
def fJ(s:Int):List Nat:=(List.range 8).filter fun p=>tb s p
theorem xF{s:Int} {p:Nat} (h:p∈fJ s):p<8:=by simp only[fJ,List.mem_filter,List.mem_range]at h;exact h.1
theorem Kt{s:Int} {p:Nat} (h:p∈fJ s):tb s p=true:=by simp only[fJ,List.mem_filter,List.mem_range]at h;exact h.2
theorem HD{s:Int} {p:Nat} (h8:p<8) (h:tb s p=true):p∈fJ s:=by simp only[fJ,List.mem_filter,List.mem_range];exact⟨h8,h⟩
def HE(t:Tb) (k:Nat):nL:=(t.aM.getD []).getD k default
def Ku(t:Tb) (k:Nat):Rl:=(t.bQ.getD []).getD k default
theorem AX(n:Int):iJ n=min (max n 0) 2147483647:=by
 simp only[iJ,fj];split<;>(try split)<;>omega
theorem uy(a b:Int):Fu a b=min (iJ a+iJ b) 2147483647:=by
 have ha:=eW a
 have hb:=eW b
 rw[Fu,AX];omega
def xG(l:List Int):Int:=(l.map iJ).sum
theorem Kv:∀l,0<=xG l
 |[]=>Int.le_refl _
 |x::l=>by
  have:=eW x
  have:=Kv l
  simp only[xG,List.map_cons,List.sum_cons]at*;omega
theorem HF:∀(l:List Int) (a:Int),0<=a->a<=2147483647->l.foldl Fu a=min (a+xG l) 2147483647
 |[],a,h0,h1=>by simp only[List.foldl_nil,xG,List.map_nil,List.sum_nil];omega
 |x::l,a,h0,h1=>by
  have hx:=eW x
  have hn:=Kv l
  have ha:iJ a=a:=by rw[AX];omega
  rw[List.foldl_cons,HF l _ (by rw[uy];have:=eW a;omega) (by rw[uy];omega),uy,ha]
  simp only[xG,List.map_cons,List.sum_cons]at*;omega
theorem mw(l:List Int):jH l=min (xG l) 2147483647:=by
 rw[jH,HF l 0 (by omega) (by omega),Int.zero_add]
theorem FQ(a b:Int):jH [a,b]=Fu a b:=by
 have ha:=eW a
 have hb:=eW b
 rw[mw,uy];simp only[xG,List.map_cons,List.map_nil,List.sum_cons,List.sum_nil];omega
theorem FR:∀(l:List Int) (a:Int),0<=a->l.foldl (fun n x=>if x>n then x else n) a=max a (gQ l)
 |[],a,h=>by show a=max a 0;omega
 |x::l,a,h=>by
  have e:gQ (x::l)=max (if x>0 then x else 0) (gQ l):=FR l _ (by show 0<=if x>0 then x else 0;split<;>omega)
  rw[List.foldl_cons,FR l _ (by split<;>omega),e]
  split<;>split<;>omega
theorem Cm(x:Int) (l:List Int):gQ (x::l)=max (max 0 x) (gQ l):=by
 have:gQ (x::l)=max (if x>0 then x else 0) (gQ l):=FR l _ (by show 0<=if x>0 then x else 0;split<;>omega)
 rw[this];split<;>omega
theorem LW:gQ []=0:=rfl
def pre(gr:Gr) (i:Nat):List Int:=(List.range i).flatMap fun k=>(gr.row k).getD []
theorem pg{α:Type} {l:List α} {p:α->Bool} (h:∀x∈l,p x=false):l.find? p=none:=by
 rw[List.find?_eq_none];intro x hx;simp[h x hx]
theorem U8(l:Option (List Int)) (i n:Int):(gW l i n).Fw:=by
 have r1:=bE l (dS (i+1)) (n:=4) (by decide) (by decide)
 have r2:=bE l (dS (i+2)) (n:=3) (by decide) (by decide)
 have r3:=bE l (dS (i+3)) (n:=4) (by decide) (by decide)
 have r4:=bE l (dS (i+4)) (n:=6) (by decide) (by decide)
 obtain⟨a,ha⟩:∃m:Nat,dA l (dS (i+1)) 4=m:=⟨(dA l (dS (i+1)) 4).toNat,by omega⟩
 obtain⟨b,hb⟩:∃m:Nat,dA l (dS (i+2)) 3=m:=⟨(dA l (dS (i+2)) 3).toNat,by omega⟩
 obtain⟨c,hc⟩:∃m:Nat,dA l (dS (i+3)) 4=m:=⟨(dA l (dS (i+3)) 4).toNat,by omega⟩
 obtain⟨d,hd⟩:∃m:Nat,dA l (dS (i+4)) 6=m:=⟨(dA l (dS (i+4)) 6).toNat,by omega⟩
 have k1:∀a:Nat,a<4->vm a<2^64:=by decide
 have k2:∀a:Nat,a<4->∀b:Nat,b<3->sS a b<2^64:=by decide+kernel
 have k3:∀c:Nat,c<6->xx c<2^64:=by decide+kernel
 refine⟨?_,?_,?_,?_⟩
 ·show vm _<_;rw[ha];exact k1 a (by omega)
 ·show sS _ _<_;rw[ha,hb];exact k2 a (by omega) b (by omega)
 ·show xx _<_;rw[hc];exact k3 c (by omega)
 ·show xx _<_;rw[hd];exact k3 d (by omega)
theorem N3(l:Option (List Int)):(gh l).Fw:=by
 intro d hd
 have e:(gh l).aM=dH (jV l (eG l).2 (dA l 175 9) (dA l 175 9).toNat):=rfl
 rw[e,dV,jV,List.mem_map]at hd;obtain⟨k,_,rfl⟩:=hd;exact U8 _ _ _
theorem N4{n:Int} (h1:-9223372036854775808<=n) (h2:n<=9223372036854775807):dS n=n:=aW h1 h2
structure U9 (x:Ph):Prop where
 min:1<=x.min/\x.min<=12
 max:x.min<=x.max/\x.max<=36
 top:x.max<=x.top/\x.top<=50
 Pb:0<=x.Pb/\x.Pb<=8
 step:1<=x.step/\x.step<=6
 ei:10<=x.ei/\x.ei<=13
 red:0<=x.red/\x.red<=4
 walk:(x.walk=0/\x.f7=0)\/(1<=x.walk/\x.walk<=10/\1<=x.f7/\x.f7<=10)
 kj:0<=x.kj/\x.kj<=3/\(x.kj=3->x.walk≠0)
 on:x.on=true
def nT(l:Option (List Int)):Nat:=(eG l).2
theorem HG(l:Option (List Int)):1<=nT l/\nT l<=8:=⟨B4 l,Er l⟩
structure N5 (n:Nat) (d:nL):Prop where
 phase:0<=d.phase/\d.phase<n
 may:lvl d.on=true/\lvl d.off=true/\Cc d.delay=true/\Cc d.extend=true
 most:0<=d.maxOn/\d.maxOn<=80/\0<=d.sI/\d.sI<=360
 order:SJ d.off d.on=false
theorem Rb(l:Option (List Int)) (i:Int) {n:Nat} (hn:1<=n) (h8:n<=8):N5 n (gW l i n):=by
 have r0:=bE l i (n:=(n:Int)) (by omega) (by omega)
 have r1:=bE l (dS (i+1)) (n:=4) (by decide) (by decide)
 have r2:=bE l (dS (i+2)) (n:=3) (by decide) (by decide)
 have r3:=bE l (dS (i+3)) (n:=4) (by decide) (by decide)
 have r4:=bE l (dS (i+4)) (n:=6) (by decide) (by decide)
 have r6:=bE l (dS (i+6)) (n:=60) (by decide) (by decide)
 have r7:=bE l (dS (i+7)) (n:=300) (by decide) (by decide)
 obtain⟨a,ha⟩:∃m:Nat,dA l (dS (i+1)) 4=m:=⟨(dA l (dS (i+1)) 4).toNat,by omega⟩
 obtain⟨b,hb⟩:∃m:Nat,dA l (dS (i+2)) 3=m:=⟨(dA l (dS (i+2)) 3).toNat,by omega⟩
 obtain⟨c,hc⟩:∃m:Nat,dA l (dS (i+3)) 4=m:=⟨(dA l (dS (i+3)) 4).toNat,by omega⟩
 obtain⟨d,hd⟩:∃m:Nat,dA l (dS (i+4)) 6=m:=⟨(dA l (dS (i+4)) 6).toNat,by omega⟩
 have k1:∀a:Nat,a<4->lvl (vm a)=true:=by decide+kernel
 have k2:∀a:Nat,a<4->∀b:Nat,b<3->lvl (sS a b)=true/\SJ (sS a b) (vm a)=false:=by decide+kernel
 have k3:∀c:Nat,c<6->Cc (xx c)=true:=by decide+kernel
 have e6:=N4 (n:=20+dA l (dS (i+6)) 60) (by omega) (by omega)
 have e7:=N4 (n:=60+dA l (dS (i+7)) 300) (by omega) (by omega)
 refine⟨r0,⟨?_,?_,?_,?_⟩,?_,?_⟩
 ·show lvl (vm _)=true;rw[ha];exact k1 a (by omega)
 ·show lvl (sS _ _)=true;rw[ha,hb];exact(k2 a (by omega) b (by omega)).1
 ·show Cc (xx _)=true;rw[hc];exact k3 c (by omega)
 ·show Cc (xx _)=true;rw[hd];exact k3 d (by omega)
 ·simp only[gW,e6,e7]
  split<;>split<;>omega
 ·show SJ (sS _ _) (vm _)=false;rw[ha,hb];exact(k2 a (by omega) b (by omega)).2
theorem Zi(l:Option (List Int)):((gh l).aM.getD []).length<=8/\∀d∈(gh l).aM.getD [],N5 (nT l) d:=by
 have e:(gh l).aM=dH (jV l (eG l).2 (dA l 175 9) (dA l 175 9).toNat):=rfl
 have r:=bE l 175 (n:=9) (by decide) (by decide)
 rw[e,dV]
 refine⟨by rw[yV];omega,fun d hd=>?_⟩
 rw[jV,List.mem_map]at hd;obtain⟨k,_,rfl⟩:=hd;exact Rb _ _ (HG l).1 (HG l).2
def Tog(t:Tb) (n:Nat) (s:Int):Prop:=Can s/\(∀i,i<8->tb s i=true->i<n)/\∀i j,i<8->j<8->tb s i=true->tb s j=true->i≠j->mu t i j=true
structure Va (t:Tb) (n:Nat) (r:Rl):Prop where
 bars:Can r.bars/\∀i,i<64->tb r.bars i=true->i<n/\tb r.iB i=false
 clear:Tog t n r.clear
 iB:Tog t n r.iB/\r.iB≠0
 exit:Tog t n r.exit/\r.exit≠0
 hold:(1<=r.hold/\r.hold<=10/\r.clear≠0)\/(r.hold=0/\r.clear=0)
 acK:0<=r.delay/\r.delay<=3/\1<=r.green/\r.green<=6/\0<=r.gV/\r.gV<=5/\1<=r.stay/\r.stay<=15
 most:r.most=0\/(r.stay<=r.most/\r.most<=44)
 limit:r.delay<r.limit/\r.limit<=10004
section
open Z
def pn:List AV:=[.eK,.eK,.eK,.eK,.eK,.eK,.eK,.eK,.eK,.eK,.eK,.eK]
def qD:List AV:=[.bool false,.int .i64 0,.int .i64 0,.int .i64 0,.int .i64 0,.int .i64 0,.int .i64 0,.int .i64 0,.int .i64 0,.int .i64 0,.int .i64 0,.bool false,.bool false,.bool false,.int .i64 0,.int .i64 0,.int .i64 0,.int .i64 0,.int .i64 0,.int .i64 0,.int .i64 0,.int .i64 0,.int .i64 0,.int .i64 0,.bool false,.bool false,.bool false,.int .i64 0,.int .i64 0,.int .i64 0,.int .i64 0,.int .i64 0,.int .i64 0,.int .i64 0,.int .i64 0,.int .i64 0,.int .i64 0,.bool false,.bool false,.bool false,.int .i64 0,.int .i64 0,.int .i64 0,.int .i64 0,.int .i64 0,.int .i64 0,.int .i64 0,.int .i64 0,.int .i64 0,.int .i64 0,.bool false,.bool false,.bool false,.int .i64 0,.int .i64 0,.int .i64 0,.int .i64 0,.int .i64 0,.int .i64 0,.int .i64 0,.int .i64 0,.int .i64 0,.int .i64 0,.bool false,.bool false,.bool false,.int .i64 0,.int .i64 0,.int .i64 0,.int .i64 0,.int .i64 0,.int .i64 0,.int .i64 0,.int .i64 0,.int .i64 0,.int .i64 0,.bool false,.bool false,.bool false,.int .i64 0,.int .i64 0,.int .i64 0,.int .i64 0,.int .i64 0,.int .i64 0,.int .i64 0,.int .i64 0,.int .i64 0,.int .i64 0,.bool false,.bool false,.bool false,.int .i64 0,.int .i64 0,.int .i64 0,.int .i64 0,.int .i64 0,.int .i64 0,.int .i64 0,.int .i64 0,.int .i64 0,.int .i64 0,.bool false,.bool false,.aL,.int .i64 0,.int .i64 0,.int .i64 0,.int .i64 0,.int .i64 0,.int .i64 0,.int .i64 0,.int .i64 0,.aL,.aL,.aL,.int .i64 0,.int .i64 0,.int .i64 0,.int .i64 0,.int .i64 0,.int .i64 0,.int .i64 0,.int .i64 0,.int .i64 0,.int .i64 0,.int .i64 0,.int .i64 0,.int .i64 0,.int .i64 0,.int .i64 0,.int .i64 0,.int .i64 0,.int .i64 0,.int .i64 0,.int .i64 0,.int .i64 0,.int .i64 0,.int .i64 0,.int .i64 0,.int .i64 0,.int .i64 0,.int .i64 0,.int .i64 0,.int .i64 0,.int .i64 0,.bool false,.bool false,.int .i64 0,.int .i64 0,.int .i64 0,.int .i64 0,.int .i64 0,.int .i64 0,.int .i64 0,.int .i64 0,.int .i64 0,.int .i64 0,.bool false,.bool false,.int .i64 0,.int .i64 0,.int .i64 0,.int .i64 0,.int .i64 0,.int .i64 0,.int .i64 0,.int .i64 0,.int .i64 0,.int .i64 0,.bool false,.bool false,.int .i64 0,.int .i64 0,.int .i64 0,.int .i64 0,.int .i64 0,.int .i64 0,.int .i64 0,.int .i64 0,.int .i64 0,.int .i64 0,.bool false,.bool false,.int .i64 0,.int .i64 0,.int .i64 0,.int .i64 0,.int .i64 0,.int .i64 0,.int .i64 0,.int .i64 0,.int .i64 0,.int .i64 0,.bool false,.bool false,.int .i64 0,.int .i64 0,.int .i64 0,.int .i64 0,.int .i64 0,.int .i64 0,.int .i64 0,.int .i64 0,.int .i64 0,.int .i64 0,.bool false,.bool false,.int .i64 0,.int .i64 0,.int .i64 0,.int .i64 0,.int .i64 0,.int .i64 0,.int .i64 0,.int .i64 0,.int .i64 0,.int .i64 0,.bool false,.bool false,.int .i64 0,.int .i64 0,.int .i64 0,.int .i64 0,.int .i64 0,.int .i64 0,.int .i64 0,.int .i64 0,.int .i64 0,.int .i64 0,.bool false,.bool false,.int .i64 0,.int .i64 0,.int .i64 0]
def ry(g0 g1 g2 g3 g4 g5:Nat):bM:=⟨147,[.cell 8 (some 8),.cell 9 (some 5)],r [o 4 (w 0),o 5 (w 1),o 7 (w 3),o 8 (.alloc [i 0,i 0,i 0,i 0,i 0,i 0,i 0,i 0]),o 9 (.alloc [i 0,i 0,i 0,F,F])] (r [o 16 (L 4 131),o 17 (L 4 131),o 18 (L 5 8),M 19 2,o 20 (.call g0 [t 17,t 18,t 19]),o 21 (L 7 96),o 22 (.build qD [(0,131,t 16),(131,8,t 20),(139,96,t 21)]),o 23 (w 22),M 10 23] (r [o 24 (.call g1 []),o 11 (.alloc pn),n (s 11 24 12)] (j (r [M 25 10,o 26 (.nc (t 25)),o 27 (f 26 131),o 28 (f 27 0),o 29 (l 28),o 30 (bb .lss 29 (i 0)),M 31 30,q 32 (m 10) 31,q 33 (.nc (t 32)) 31,q 34 (f 33 131) 31,q 35 (f 34 0) 31,q 36 (l 35) 31,q 37 (bb .geq 36 (i 6)) 31,o 38 (Q 31 37)] (c 38 (R [M 39 10,o 40 (.nc (t 39)),o 41 (f 40 131),o 42 (f 41 0),n (ss 42 (i 0) 1)]) z)) (r [M 43 10,o 44 (.nc (t 43)),o 45 (f 44 131),o 46 (f 45 0),o 47 (l 46),M 12 47] (j (r [o 48 (L 4 131),M 49 10,o 50 (.nc (t 49)),o 51 (f 50 131),o 52 (L 51 8),o 53 (.call g2 [t 48,t 52]),M 13 53] (r [M 54 13,o 55 (bb .geq 54 (i 0)),M 56 55,p 57 (m 12) 56,p 58 (bb .eql 57 (i 0)) 56,p 59 (m 58) 56,q 60 (m 12) 59,q 61 (bb .eql 60 (i 5)) 59,p 62 (Q 59 61) 56,p 63 (m 62) 56,q 64 (m 13) 63,q 65 (m 10) 63,q 66 (.nc (t 65)) 63,q 67 (f 66 131) 63,q 68 (f 67 1) 63,q 69 (l 68) 63,q 70 (b .lss 64 69) 63,p 71 (Q 63 70) 56,o 72 (P 56 71)] (c 72 (r [M 73 10,M 74 10,M 75 10,M 76 13,o 77 (.nc (t 73)),o 78 (f 77 131),o 79 (f 78 0),n (ss 79 (i 1) 1),o 80 (.nc (t 74)),o 81 (f 80 131),o 82 (f 81 1),n (s 82 76 1),o 83 (.nc (t 75)),o 84 (f 83 131),o 85 (f 84 2),n (ss 85 (i 0) 1)] (.seq (.kL [M 86 10,o 87 (.nc (t 86)),o 88 (f 87 131),o 89 (L 88 8),M 90 10,o 91 (.bI g3 [t 90]),n (s 8 89 8),n (s 9 91 5)] [(3,5)]) y)) z))) (r [M 92 12,o 93 (A 11 92 6 2),o 94 (f 93 0),o 95 (l 94),M 96 10,o 97 (.fQ (t 95) [t 96]),M 14 97] (j (r [M 98 12,o 99 (bb .eql 98 (i 5)),M 100 99,p 101 (m 14) 100,p 102 (bb .eql 101 (i 0)) 100,o 103 (P 100 102)] (c 103 (r [M 104 10,o 105 (.bI g4 [t 104]),o 15 (.alloc [i 0,i 0,i 0,F,F]),n (s 15 105 5)] (r [M 106 10,M 107 10,M 108 10,o 109 (.nc (t 106)),o 110 (f 109 131),o 111 (f 110 0),n (ss 111 (i 0) 1),o 112 (.nc (t 107)),o 113 (f 112 131),o 114 (f 113 1),n (ss 114 (i 0) 1),o 115 (.nc (t 108)),o 116 (f 115 131),o 117 (f 116 2),n (ss 117 (i 0) 1)] (.seq (.kL [M 118 10,o 119 (.nc (t 118)),o 120 (f 119 131),o 121 (L 120 8),o 122 (L 15 5),n (s 8 121 8),n (s 9 122 5)] [(4,5)]) y))) z)) (r [M 123 10,M 124 14,o 125 (.nc (t 123)),o 126 (f 125 131),o 127 (f 126 0),n (s 127 124 1)] (r [M 128 10,M 129 10,M 130 14,M 131 12,o 132 (b .neq 130 131),o 133 (.bI g5 [t 129,t 132]),o 134 (.nc (t 128)),o 135 (f 134 131),o 136 (f 135 2),n (s 136 133 1)] (.seq (.kL [M 137 10,o 138 (.nc (t 137)),o 139 (f 138 131),o 140 (L 139 8),M 141 14,o 142 (A 11 141 6 2),o 143 (f 142 1),o 144 (l 143),M 145 10,o 146 (.fQ (t 144) [t 145]),n (s 8 140 8),n (s 9 146 5)] [(3,9)]) y))))))))))⟩
def pq(g0:Nat):bM:=⟨32,[.tmp 4],r [o 2 (w 0),o 3 (w 1),V 4 (i 0)] (j (r [o 7 (L 2 131),o 8 (.call g0 [t 7]),o 9 (h 8),V 10 (i 0)] (u 0 (.loop (r [o 11 (b .lss 10 9)] (j (c 11 z (.exit 0)) (j (u 1 (r [M 12 10,o 13 (a 8 10 11),o 14 (L 13 11),o 6 (.alloc bz),M 5 12,n (s 6 14 11)] (r [M 15 5,o 16 (f 3 3),o 17 (A 16 15 4 1),o 18 (l 17),o 19 (f 6 4),o 20 (l 19),o 21 (b .gtr 18 20),M 22 21,p 23 (f 3 7) 22,p 24 (l 23) 22,p 25 (m 5) 22,p 26 (b .shr 24 25) 22,p 27 (bb .and 26 (i 1)) 22,p 28 (bb .eql 27 (i 0)) 22,o 29 (P 22 28)] (c 29 (r [M 30 5,M 4 30] y) z)))) (R [o 31 (bb .add 10 (i 1)),M 10 31]))))))) (r [V 4 (i (-1))] y))⟩
def pz(g0:Nat):bM:=⟨43,[.cell 6 (some 8)],r [o 3 (w 0),o 4 (w 1),o 6 (.alloc [i 0,i 0,i 0,i 0,i 0,i 0,i 0,i 0])] (r [V 7 (i 0)] (r [o 8 (.alloc [i 0,i 0,i 0,i 0])] (j (r [o 10 (L 3 131),o 11 (.call g0 [t 10]),o 12 (h 11),V 13 (i 0)] (u 0 (.loop (r [o 14 (b .lss 13 12)] (j (c 14 z (.exit 0)) (j (u 1 (r [M 15 13,M 9 15] (r [M 16 2,M 17 9,o 18 (b .shr 16 17),o 19 (bb .and 18 (i 1)),o 20 (bb .eql 19 (i 1))] (c 20 (r [M 21 7,M 22 9,o 23 (.bin .shl (k (i 1)) (t 22)),o 24 (b .or 21 23),M 7 24] (R [M 25 9,M 26 9,o 27 (f 4 3),o 28 (A 27 26 4 1),o 29 (l 28),o 30 (.mm true [t 29,k (i 0)]),o 31 (.mm false [t 30,k (i 2147483646)]),o 32 (bb .add 31 (i 1)),o 33 (A 8 25 4 1),n (s 33 32 1)])) z)))) (R [o 34 (bb .add 13 (i 1)),M 13 34]))))))) (r [o 35 (L 8 4),o 36 (f 4 7),o 37 (l 36),M 38 7,o 39 (b .and 37 38),o 40 (f 4 3),n (s 40 35 4),o 41 (f 4 7),n (s 41 39 1)] (r [o 42 (L 4 8),n (s 6 42 8)] y)))))⟩
def pE(g0:Nat):bM:=⟨23,[.tmp 4],r [o 2 (w 0),o 3 (w 1),V 4 (F)] (j (r [o 7 (L 2 131),o 8 (.call g0 [t 7]),o 9 (h 8),V 10 (i 0)] (u 0 (.loop (r [o 11 (b .lss 10 9)] (j (c 11 z (.exit 0)) (j (u 1 (r [M 12 10,o 13 (a 8 10 11),o 14 (L 13 11),o 6 (.alloc bz),M 5 12,n (s 6 14 11)] (r [M 15 5,o 16 (f 3 3),o 17 (A 16 15 4 1),o 18 (l 17),o 19 (f 6 10),o 20 (l 19),o 21 (b .gtr 18 20)] (c 21 (r [V 4 (T)] y) z)))) (R [o 22 (bb .add 10 (i 1)),M 10 22]))))))) (r [V 4 (F)] y))⟩
def nY(g0 g1 g2 g3 g4 g5 g6 g7 g8 g9 g10 g11:Nat):bM:=⟨8,[.cell 0 (some 12)],r [o 0 (.alloc pn)] (r [o 1 (.build [.eK,.eK] [(0,1,k (.fn (.func g0) [] [])),(1,1,k (.fn (.func g1) [] []))]),o 2 (.build [.eK,.eK] [(0,1,k (.fn (.func g2) [] [])),(1,1,k (.fn (.func g3) [] []))]),o 3 (.build [.eK,.eK] [(0,1,k (.fn (.func g4) [] [])),(1,1,k (.fn (.func g5) [] []))]),o 4 (.build [.eK,.eK] [(0,1,k (.fn (.func g6) [] [])),(1,1,k (.fn (.func g7) [] []))]),o 5 (.build [.eK,.eK] [(0,1,k (.fn (.func g8) [] [])),(1,1,k (.fn (.func g9) [] []))]),o 6 (.build [.eK,.eK] [(0,1,k (.fn (.func g10) [] [])),(1,1,k (.fn (.func g11) [] []))]),o 7 (.build pn [(0,2,t 1),(2,2,t 2),(4,2,t 3),(6,2,t 4),(8,2,t 5),(10,2,t 6)]),n (s 0 7 12)] y)⟩
def kZ(g0 g1 g2:Nat):bM:=⟨10,[.cell 2 (some 5)],r [o 2 (.alloc [i 0,i 0,i 0,F,F])] (r [M 3 0,M 4 0,o 5 (.bI g0 [t 4]),M 6 0,o 7 (.bI g1 [t 6]),o 8 (.EZ (t 7) 5 none),o 9 (.bI g2 [t 3,t 5,t 8]),n (s 2 9 5)] y)⟩
def lV(g0 g1 g2:Nat):bM:=⟨9,[.cell 2 (some 5)],r [o 2 (.alloc [i 0,i 0,i 0,F,F])] (r [M 3 0,M 4 0,o 5 (.bI g0 [t 4]),o 6 (.EZ (t 5) 3 none),o 7 (.bI g1 [t 3,t 6,k (.fn (.func g2) [] [])]),o 8 (.build [i 0,i 0,i 0,F,F] [(4,1,k (T)),(0,1,t 7)]),n (s 2 8 5)] y)⟩
def lW(g0 g1 g2:Nat):bM:=⟨53,[.tmp 4],r [V 4 (i 0)] (j (u 0 (j (r [M 6 1,M 5 6] (c 5 z (R [M 7 0,o 8 (.nc (t 7)),o 9 (f 8 131),o 10 (f 9 0),o 11 (l 10),o 12 (bb .eql 11 (i 0)),M 5 12]))) (c 5 (r [V 4 (i 0)] y) (j (r [M 14 0,o 15 (.nc (t 14)),o 16 (f 15 131),o 17 (f 16 0),o 18 (l 17),o 19 (bb .eql 18 (i 2)),M 20 19,p 21 (m 0) 20,p 22 (m 0) 20,p 23 (.bI g0 [t 22]) 20,p 24 (.EZ (t 23) 1 none) 20,p 25 (.bI g1 [t 21,t 24]) 20,p 26 (.un .not (t 25)) 20,o 27 (P 20 26),M 13 27] (c 13 z (R [M 28 0,o 29 (.nc (t 28)),o 30 (f 29 131),o 31 (f 30 0),o 32 (l 31),o 33 (bb .eql 32 (i 4)),M 34 33,p 35 (m 0) 34,p 36 (m 0) 34,p 37 (.bI g0 [t 36]) 34,p 38 (.EZ (t 37) 2 none) 34,p 39 (.bI g1 [t 35,t 38]) 34,p 40 (.un .not (t 39)) 34,o 41 (P 34 40),M 13 41]))) (c 13 (r [M 42 0,o 43 (.nc (t 42)),o 44 (f 43 131),o 45 (f 44 2),o 46 (l 45),M 4 46] y) z))))) (r [M 47 0,o 48 (.nc (t 47)),o 49 (f 48 131),o 50 (f 49 2),o 51 (l 50),o 52 (.call g2 [t 51]),M 4 52] y))⟩
def pF:bM:=⟨10,[.tmp 2],r [o 1 (w 0),V 2 .aL] (r [o 3 (f 1 114),o 4 (l 3),o 5 (f 1 114),o 6 (l 5),o 7 (h 6),o 8 (.mm false [t 7,k (i 4)]),o 9 (.SX 11 (t 4) none (some (t 8))),M 2 9] y)⟩
def lZ:bM:=⟨3,[.tmp 2],r [V 2 (i 0)] (r [V 2 (i 0)] y)⟩
def l6:bM:=⟨4,[.cell 2 (some 5)],r [o 2 (.alloc [i 0,i 0,i 0,F,F])] (r [o 3 (.build [i 0,i 0,i 0,F,F] [(3,1,k (T))]),n (s 2 3 5)] y)⟩
def jX(g0 g1 g2:Nat):bM:=⟨15,[.tmp 2],r [V 2 (i 0)] (j (u 0 (r [M 4 0,M 5 0,o 6 (.bI g0 [t 5]),o 7 (.bin .andNot (k (i 255)) (t 6)),o 8 (.bI g1 [t 4,t 7]),o 9 (.un .not (t 8)),M 3 9] (c 3 (r [V 2 (i 1)] y) (r [M 11 0,o 12 (.bI g2 [t 11]),o 13 (.EZ (t 12) 1 none),o 14 (bb .neq 13 (i 0)),M 10 14] (c 10 (r [V 2 (i 2)] y) z))))) (r [V 2 (i 4)] y))⟩
def jY(g0:Nat):bM:=⟨12,[.tmp 2],r [V 2 (i 0)] (j (.seq (.kL [M 3 0,o 4 (.nc (t 3)),o 5 (f 4 131),o 6 (f 5 2),o 7 (l 6),M 8 0,o 9 (.bI g0 [t 8]),o 10 (.EZ (t 9) 7 none),o 11 (b .geq 7 10)] [(4,6)]) (c 11 (r [V 2 (i 3)] y) z)) (r [V 2 (i 2)] y))⟩
def k9(g0 g1:Nat):bM:=⟨9,[.cell 2 (some 5)],r [o 2 (.alloc [i 0,i 0,i 0,F,F])] (r [M 3 0,M 4 0,o 5 (.bI g0 [t 4]),o 6 (.EZ (t 5) 1 none),o 7 (.bI g1 [t 3,t 6]),o 8 (.build [i 0,i 0,i 0,F,F] [(0,1,t 7)]),n (s 2 8 5)] y)⟩
def jm(g0 g1:Nat):bM:=⟨9,[.tmp 2],r [V 2 (i 0)] (j (r [M 3 0,M 4 0,o 5 (.bI g0 [t 4]),o 6 (.EZ (t 5) 2 none),o 7 (.bin .andNot (k (i 255)) (t 6)),o 8 (.bI g1 [t 3,t 7])] (c 8 (r [V 2 (i 4)] y) z)) (r [V 2 (i 3)] y))⟩
def jM(g0 g1 g2 g3:Nat):bM:=⟨18,[.cell 2 (some 5)],r [o 1 (w 0),o 2 (.alloc [i 0,i 0,i 0,F,F])] (.seq (.kL [o 4 (l 1),o 5 (l 1),o 6 (.bI g0 [t 5]),o 7 (.EZ (t 6) 2 none),o 8 (.bI g1 [t 4,t 7,k (i 0)]),o 3 (.alloc [i 0,i 0,i 0,F,F]),n (s 3 8 5)] [(0,2)]) (.seq (.kL [o 9 (l 1),o 10 (l 1),o 11 (.bI g0 [t 10]),o 12 (.EZ (t 11) 2 none),o 13 (.bin .andNot (k (i 255)) (t 12)),o 14 (.rW (.func g2) [] [t 1]),o 15 (.bI g3 [t 9,t 13,t 14]),o 16 (f 3 1),n (s 16 15 1)] [(0,2),(0,5),(1,5),(2,5),(3,5),(4,5)]) (r [o 17 (L 3 5),n (s 2 17 5)] y)))⟩
def jZ(g0 g1:Nat):bM:=⟨100,[.tmp 2],r [V 2 (i 0)] (.seq (.kL [M 7 0,o 8 (.bI g0 [t 7]),M 9 0,o 10 (.nc (t 9)),o 11 (f 10 131),o 12 (f 11 1),o 13 (l 12),o 14 (bb .geq 13 (i 0)),M 15 14,p 16 (m 0) 15,p 17 (.nc (t 16)) 15,p 18 (f 17 131) 15,p 19 (f 18 1) 15,p 20 (l 19) 15,p 21 (bb .lss 20 (i 4)) 15,o 22 (P 15 21),M 23 22,p 24 (m 0) 23,p 25 (m 0) 23,p 26 (.nc (t 25)) 23,p 27 (f 26 131) 23,p 28 (f 27 1) 23,p 29 (l 28) 23,p 30 (.nc (t 24)) 23,p 31 (f 30 131) 23,p 32 (f 31 3) 23,p 33 (A 32 29 4 1) 23,p 34 (l 33) 23,p 35 (bb .gtr 34 (i 0)) 23,o 36 (P 23 35),o 3 (.alloc bz),n (s 3 8 11),M 4 36] [(1,6),(1,22),(1,27),(6,31),(13,31),(22,31),(27,31)]) (r [o 37 (f 3 9),o 38 (l 37),o 39 (bb .gtr 38 (i 0)),M 40 39,p 41 (m 0) 40,p 42 (.nc (t 41)) 40,p 43 (f 42 131) 40,p 44 (f 43 2) 40,p 45 (l 44) 40,p 46 (f 3 9) 40,p 47 (l 46) 40,p 48 (b .geq 45 47) 40,o 49 (P 40 48),M 5 49] (j (r [M 50 5,o 51 (.un .not (t 50)),M 52 51,p 53 (m 4) 52,p 54 (m 53) 52,q 55 (m 0) 54,q 56 (.nc (t 55)) 54,q 57 (f 56 131) 54,q 58 (f 57 2) 54,q 59 (l 58) 54,q 60 (f 3 8) 54,q 61 (l 60) 54,q 62 (b .lss 59 61) 54,p 63 (Q 54 62) 52,o 64 (P 52 63)] (c 64 (r [V 2 (i 4)] y) z)) (j (r [M 65 5,M 66 65,p 67 (m 4) 66,o 68 (P 66 67)] (c 68 (R [M 69 0,o 70 (.nc (t 69)),o 71 (f 70 131),o 72 (f 71 7),o 73 (l 72),M 74 0,o 75 (.nc (t 74)),o 76 (f 75 131),o 77 (f 76 1),o 78 (l 77),o 79 (.bin .shl (k (i 1)) (t 78)),o 80 (b .or 73 79),o 81 (.nc (t 69)),o 82 (f 81 131),o 83 (f 82 7),n (s 83 80 1)]) z)) (j (r [M 84 0,o 85 (.nc (t 84)),o 86 (f 85 0),o 87 (L 86 131),M 88 0,o 89 (.nc (t 88)),o 90 (f 89 131),o 91 (L 90 8),o 92 (.call g1 [t 87,t 91]),M 6 92] (r [M 93 6,o 94 (bb .geq 93 (i 0))] (c 94 (r [M 95 0,M 96 6,o 97 (.nc (t 95)),o 98 (f 97 131),o 99 (f 98 1),n (s 99 96 1)] (r [V 2 (i 1)] y)) z))) (r [V 2 (i 5)] y))))))⟩
def lf(g0 g1:Nat):bM:=⟨9,[.cell 2 (some 5)],r [o 2 (.alloc [i 0,i 0,i 0,F,F])] (r [M 3 0,M 4 0,o 5 (.bI g0 [t 4]),o 6 (.EZ (t 5) 2 none),o 7 (.bI g1 [t 3,t 6]),o 8 (.build [i 0,i 0,i 0,F,F] [(0,1,t 7)]),n (s 2 8 5)] y)⟩
def j0(g0 g1 g2 g3:Nat):bM:=⟨22,[.tmp 2],r [o 1 (w 0),V 2 (i 0)] (r [o 5 (l 1),o 6 (.bI g0 [t 5]),o 7 (.EZ (t 6) 3 none),M 3 7] (r [o 8 (l 1),M 9 3,o 10 (.rW (.func g1) [] [t 1]),o 11 (.bI g2 [t 8,t 9,t 10]),M 4 11] (j (r [o 12 (l 1),M 13 3,o 14 (.bin .andNot (k (i 255)) (t 13)),o 15 (.bI g3 [t 12,t 14]),M 16 15,p 17 (m 4) 16,p 18 (m 3) 16,p 19 (bb .and 18 (i 255)) 16,p 20 (b .eql 17 19) 16,o 21 (P 16 20)] (c 21 (r [V 2 (i 0)] y) z)) (r [V 2 (i 5)] y))))⟩
def lg(g0 g1 g2:Nat):bM:=⟨11,[.cell 2 (some 5)],r [o 1 (w 0),o 2 (.alloc [i 0,i 0,i 0,F,F])] (.seq (.kL [o 3 (l 1),o 4 (l 1),o 5 (.bI g0 [t 4]),o 6 (.EZ (t 5) 3 none),o 7 (.bin .andNot (k (i 255)) (t 6)),o 8 (.rW (.func g1) [] [t 1]),o 9 (.bI g2 [t 3,t 7,t 8]),o 10 (.build [i 0,i 0,i 0,F,F] [(1,1,t 9)]),n (s 2 10 5)] [(0,2),(0,5),(1,5),(2,5),(3,5),(4,5)]) y)⟩
def l7(g0 g1 g2:Nat):bM:=⟨17,[.cell 6 (some 5)],r [o 3 (w 0),o 5 (w 2),o 6 (.alloc [i 0,i 0,i 0,F,F])] (.seq (.kL [o 7 (l 3),M 8 1,o 9 (.bin .andNot (k (i 255)) (t 8)),o 10 (.rW (.func g0) [] [t 5,t 3]),o 11 (.bI g1 [t 7,t 9,t 10]),o 12 (l 3),M 13 1,o 14 (.bin .andNot (k (i 255)) (t 13)),o 15 (.bI g1 [t 12,t 14,k (.fn (.func g2) [] [])]),o 16 (.build [i 0,i 0,i 0,F,F] [(1,1,t 11),(2,1,t 15)]),n (s 6 16 5)] [(0,3),(1,3),(2,3),(3,5),(3,6),(3,7),(4,5)]) y)⟩
def j4(g0:Nat):bM:=⟨13,[.tmp 2],r [V 2 (i 0)] (r [M 4 0,o 5 (.bI g0 [t 4]),o 3 (.alloc bz),n (s 3 5 11)] (j (r [o 6 (f 3 1),o 7 (l 6),o 8 (bb .neq 7 (i 0))] (c 8 (r [o 9 (f 3 1),o 10 (l 9),M 2 10] y) z)) (r [o 11 (f 3 2),o 12 (l 11),M 2 12] y)))⟩
def l9(g0:Nat):bM:=⟨34,[.cell 2 (some 11)],r [o 2 (.alloc bz)] (j (r [M 4 0,o 5 (.nc (t 4)),o 6 (f 5 0),o 7 (L 6 131),o 8 (.call g0 [t 7]),M 3 8] (r [M 9 0,o 10 (.nc (t 9)),o 11 (f 10 131),o 12 (f 11 1),o 13 (l 12),o 14 (bb .geq 13 (i 0)),M 15 14,p 16 (m 0) 15,p 17 (.nc (t 16)) 15,p 18 (f 17 131) 15,p 19 (f 18 1) 15,p 20 (l 19) 15,p 21 (m 3) 15,p 22 (h 21) 15,p 23 (b .lss 20 22) 15,o 24 (P 15 23)] (c 24 (r [M 25 3,M 26 0,o 27 (.nc (t 26)),o 28 (f 27 131),o 29 (f 28 1),o 30 (l 29),o 31 (a 25 30 11),o 32 (L 31 11),n (s 2 32 11)] y) z))) (r [o 33 (.build bz []),n (s 2 33 11)] y))⟩
def lp(g0 g1:Nat):bM:=⟨25,[.tmp 6],r [o 3 (w 0),o 5 (w 2),V 6 (i 0)] (r [o 7 (.alloc [i 0]),n (ss 7 (i 0) 1)] (j (r [M 9 1,o 10 (.call g0 [t 9])] (u 0 (.mI (t 10) [11] [11,8,12,13,14,15,16,17,18,19,20,21,22,23] (R [M 8 11]) (u 1 (r [o 12 (l 5),M 13 8,o 14 (l 3),M 15 8,o 16 (.nc (t 14)),o 17 (f 16 139),o 18 (A 17 15 8 12),o 19 (L 18 12),o 20 (.eP (t 12) [t 13,t 19])] (c 20 (R [o 21 (l 7),M 22 8,o 23 (.call g1 [t 21,t 22]),n (s 7 23 1)]) z)))))) (r [o 24 (l 7),M 6 24] y)))⟩
def pG(g0:Nat):bM:=⟨7,[.tmp 4],r [o 3 (w 1),V 4 (F)] (r [o 5 (L 3 12),o 6 (.call g0 [t 5]),M 4 6] y)⟩
def j5(g0 g1:Nat):bM:=⟨11,[.tmp 4],r [V 4 (F)] (r [M 5 0,M 6 1,o 7 (.bI g0 [t 5,t 6,k (.fn (.func g1) [] [])]),M 8 1,o 9 (bb .and 8 (i 255)),o 10 (b .eql 7 9),M 4 10] y)⟩
def rz:bM:=⟨7,[.tmp 2],r [V 2 (i 0)] (r [M 3 0,o 4 (.mm true [t 3,k (i 0)]),o 5 (.mm false [t 4,k (i 9999)]),o 6 (bb .add 5 (i 1)),M 2 6] y)⟩
def mb(g0 g1:Nat):bM:=⟨11,[.tmp 4],r [V 4 (F)] (r [M 5 0,M 6 1,o 7 (.bI g0 [t 5,t 6,k (.fn (.func g1) [] [])]),M 8 1,o 9 (bb .and 8 (i 255)),o 10 (b .eql 7 9),M 4 10] y)⟩
def j6(g0 g1:Nat):bM:=⟨9,[.tmp 4],r [o 2 (w 0),V 4 (i 0)] (r [o 5 (l 2),M 6 1,o 7 (.rW (.func g0) [] [t 2]),o 8 (.bI g1 [t 5,t 6,t 7]),M 4 8] y)⟩
def iT(g0:Nat):bM:=⟨15,[.tmp 5],r [o 4 (w 1),V 5 (F)] (r [o 6 (f 4 0),o 7 (l 6),o 8 (bb .eql 7 (i 1)),M 9 8,p 10 (l 2) 9,p 11 (f 4 2) 9,p 12 (L 11 2) 9,p 13 (.bI g0 [t 10,t 12]) 9,o 14 (P 9 13),M 5 14] y)⟩
def mc(g0:Nat):bM:=⟨21,[.tmp 4],r [o 3 (w 1),V 4 (F)] (.seq (.kL [o 5 (f 3 0),o 6 (l 5),o 7 (bb .neq 6 (i 1)),M 8 7,p 9 (f 3 0) 8,p 10 (l 9) 8,p 11 (bb .neq 10 (i 2)) 8,p 12 (m 11) 8,q 13 (f 3 1) 12,q 14 (l 13) 12,q 15 (m 0) 12,q 16 (.bI g0 [t 15]) 12,q 17 (.EZ (t 16) 6 none) 12,q 18 (b .geq 14 17) 12,p 19 (Q 12 18) 8,o 20 (P 8 19),M 4 20] [(1,11),(5,11),(9,11)]) y)⟩
def jn(g0:Nat):bM:=⟨23,[.tmp 5],r [o 4 (w 1),V 5 (F)] (r [o 6 (f 4 0),o 7 (l 6),o 8 (bb .eql 7 (i 1)),M 9 8,q 10 (L 4 12) 9,q 11 (.call g0 [t 10]) 9,q 12 (m 11) 9,p 13 (f 4 1) 12,p 14 (l 13) 12,p 15 (l 2) 12,p 16 (.nc (t 15)) 12,p 17 (f 16 0) 12,p 18 (f 17 119) 12,p 19 (l 18) 12,p 20 (b .geq 14 19) 12,q 21 (P 12 20) 9,o 22 (Q 9 21),M 5 22] y)⟩
def tA:bM:=⟨16,[.tmp 2],r [o 1 (w 0),V 2 (F)] (r [o 3 (f 1 0),o 4 (l 3),o 5 (bb .neq 4 (i 1)),M 6 5,p 7 (f 1 0) 6,p 8 (l 7) 6,p 9 (bb .neq 8 (i 2)) 6,o 10 (P 6 9),M 11 10,p 12 (f 1 0) 11,p 13 (l 12) 11,p 14 (bb .neq 13 (i 3)) 11,o 15 (P 11 14),M 2 15] y)⟩
def jN:bM:=⟨37,[.tmp 5],r [o 4 (w 1),V 5 (F)] (r [o 7 (f 4 2),o 8 (f 7 0),o 9 (l 8),o 10 (bb .eql 9 (i 1)),M 11 10,q 12 (f 4 2) 11,q 13 (f 12 0) 11,q 14 (l 13) 11,q 15 (bb .eql 14 (i 2)) 11,o 16 (Q 11 15),M 6 16] (r [o 17 (f 4 0),o 18 (l 17),o 19 (bb .eql 18 (i 1)),M 20 19,p 21 (f 4 1) 20,p 22 (l 21) 20,p 23 (l 2) 20,p 24 (m 0) 20,p 25 (.nc (t 23)) 20,p 26 (f 25 0) 20,p 27 (f 26 0) 20,p 28 (A 27 24 8 13) 20,p 29 (f 28 1) 20,p 30 (l 29) 20,p 31 (b .geq 22 30) 20,o 32 (P 20 31),M 33 32,p 34 (m 6) 33,p 35 (.un .not (t 34)) 33,o 36 (P 33 35),M 5 36] y))⟩
def j7(g0:Nat):bM:=⟨22,[.tmp 6],r [o 5 (w 1),V 6 (F)] (r [o 7 (f 5 0),o 8 (l 7),o 9 (bb .eql 8 (i 1)),M 10 9,p 11 (f 5 1) 10,p 12 (l 11) 10,p 13 (l 2) 10,p 14 (b .geq 12 13) 10,o 15 (P 10 14),M 16 15,p 17 (l 3) 16,p 18 (f 5 2) 16,p 19 (L 18 2) 16,p 20 (.bI g0 [t 17,t 19]) 16,o 21 (P 16 20),M 6 21] y)⟩
def nZ:bM:=⟨9,[.tmp 4],r [o 3 (w 1),V 4 (F)] (r [o 5 (f 3 2),o 6 (f 5 0),o 7 (l 6),o 8 (bb .eql 7 (i 1)),M 4 8] y)⟩
def ng:bM:=⟨8,[.tmp 4],r [o 3 (w 1),V 4 (F)] (r [o 5 (f 3 0),o 6 (l 5),o 7 (bb .eql 6 (i 1)),M 4 7] y)⟩
def jo(g0 g1:Nat):bM:=⟨29,[.tmp 5],r [o 4 (w 1),V 5 (F)] (.seq (.kL [o 6 (L 4 12),o 7 (.call g0 [t 6]),M 8 7,p 9 (f 4 1) 8,p 10 (l 9) 8,p 11 (l 2) 8,p 12 (.nc (t 11)) 8,p 13 (f 12 0) 8,p 14 (f 13 119) 8,p 15 (l 14) 8,p 16 (b .geq 10 15) 8,o 17 (P 8 16),M 18 17,p 19 (l 2) 18,p 20 (l 2) 18,p 21 (m 0) 18,p 22 (.nc (t 20)) 18,p 23 (f 22 0) 18,p 24 (f 23 105) 18,p 25 (A 24 21 8 1) 18,p 26 (l 25) 18,p 27 (.bI g1 [t 19,t 26]) 18,o 28 (P 18 27),M 5 28] [(0,21),(4,21),(5,21),(9,21),(14,21)]) y)⟩
end
end Go.Eng
