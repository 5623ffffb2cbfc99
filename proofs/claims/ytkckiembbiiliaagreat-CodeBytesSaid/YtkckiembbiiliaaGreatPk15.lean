/- The engine and the library,part 15 of 21: what the proofs of this seat need of them. -/
import Derived.Test.YtkckiembbiiliaaGreatPk14
set_option linter.unnecessarySimpa false
set_option linter.unusedSimpArgs false
set_option linter.unusedVariables false
set_option linter.defProp false
set_option maxRecDepth 10000
set_option maxHeartbeats 4000000
namespace Go.Eng
open Go
section
open Z
def pP(g0 g1 g2 g3 g4 g5 g6 g7 g8 g9 g10 g11 g12:Nat):dc:=⟨58,[.tmp 2],r [o 1 (w 0),V 2 (F)] (r [o 3 (f 1 0),o 4 (.Ed (t 3) 8 13),o 5 (.call g0 [t 4,k (i 8),k (.fn (.func g1) [] [])]),M 6 5,p 7 (f 1 104) 6,p 8 (l 7) 6,p 9 (.call g2 [t 8,k (i 4),k (.fn (.func g3) [] [])]) 6,o 10 (P 6 9),M 11 10,p 12 (f 1 105) 11,p 13 (.Ed (t 12) 8 1) 11,p 14 (.call g4 [k (i 255),t 13]) 11,o 15 (P 11 14),M 16 15,p 17 (f 1 113) 16,p 18 (l 17) 16,p 19 (.call g5 [t 18,k (i 16),k (.fn (.func g6) [] [])]) 16,o 20 (P 16 19),M 21 20,p 22 (f 1 114) 21,p 23 (l 22) 21,p 24 (.call g7 [t 23,k (i 4),k (.fn (.func g8) [] [])]) 21,o 25 (P 21 24),M 26 25,p 27 (f 1 115) 26,p 28 (l 27) 26,p 29 (.call g9 [t 28,k (i 4),k (.fn (.func g10) [] [])]) 26,o 30 (P 26 29),M 31 30,p 32 (f 1 116) 31,p 33 (l 32) 31,p 34 (f 1 117) 31,p 35 (l 34) 31,p 36 (f 1 118) 31,p 37 (l 36) 31,p 38 (f 1 119) 31,p 39 (l 38) 31,p 40 (f 1 120) 31,p 41 (l 40) 31,p 42 (.f9 g11 1 [t 33,t 35,t 37,t 39,t 41]) 31,p 43 (.call g12 [t 42]) 31,o 44 (P 31 43),M 45 44,p 46 (f 1 121) 45,p 47 (.Ed (t 46) 8 1) 45,p 48 (.call g4 [k (i 2),t 47]) 45,o 49 (P 45 48),M 50 49,p 51 (f 1 129) 50,p 52 (l 51) 50,p 53 (f 1 130) 50,p 54 (l 53) 50,p 55 (.f9 g11 1 [t 52,t 54]) 50,p 56 (.call g4 [k (i 2147483647),t 55]) 50,o 57 (P 50 56),M 2 57] y)⟩
def jA(g0 g1:Nat):dc:=⟨17,[.tmp 6],r [o 5 (w 2),V 6 (F)] (r [M 7 0,o 8 (h 7),M 9 1,o 10 (b .leq 8 9),M 11 10,p 12 (m 0) 11,p 13 (.Br (.func g0) [] [t 5]) 11,p 14 (.call g1 [t 12,t 13]) 11,p 15 (.un .not (t 14)) 11,o 16 (P 11 15),M 6 16] y)⟩
def nr(g0 g1 g2:Nat):dc:=⟨29,[.tmp 2],r [o 1 (w 0),V 2 (F)] (r [o 3 (f 1 1),o 4 (l 3),o 5 (f 1 2),o 6 (l 5),o 7 (f 1 3),o 8 (l 7),o 9 (f 1 4),o 10 (l 9),o 11 (f 1 5),o 12 (l 11),o 13 (f 1 6),o 14 (l 13),o 15 (f 1 7),o 16 (l 15),o 17 (f 1 8),o 18 (l 17),o 19 (f 1 9),o 20 (l 19),o 21 (.f9 g0 1 [t 4,t 6,t 8,t 10,t 12,t 14,t 16,t 18,t 20]),o 22 (.call g1 [t 21]),M 23 22,p 24 (f 1 10) 23,p 25 (l 24) 23,p 26 (.f9 g0 1 [t 25]) 23,p 27 (.call g2 [k (i 3),t 26]) 23,o 28 (P 23 27),M 2 28] y)⟩
def lG(g0 g1:Nat):dc:=⟨17,[.tmp 6],r [o 5 (w 2),V 6 (F)] (r [M 7 0,o 8 (h 7),M 9 1,o 10 (b .leq 8 9),M 11 10,p 12 (m 0) 11,p 13 (.Br (.func g0) [] [t 5]) 11,p 14 (.call g1 [t 12,t 13]) 11,p 15 (.un .not (t 14)) 11,o 16 (P 11 15),M 6 16] y)⟩
def rC(g0:Nat):dc:=⟨14,[.tmp 2],r [o 1 (w 0),V 2 (F)] (r [V 3 (.fn (.func g0) [] [])] (r [M 4 3,o 5 (.Aw (t 1) (k (i 0)) 2 1),o 6 (l 5),o 7 (.fc (t 4) [t 6]),M 8 7,p 9 (m 3) 8,p 10 (.Aw (t 1) (k (i 1)) 2 1) 8,p 11 (l 10) 8,p 12 (.fc (t 9) [t 11]) 8,o 13 (P 8 12),M 2 13] y))⟩
def qb(g0 g1:Nat):dc:=⟨10,[.tmp 4],r [o 2 (w 0),V 4 (F)] (r [M 5 1,M 6 1,o 7 (h 6),o 8 (.Br (.func g0) [] [t 2]),o 9 (.call g1 [t 5,t 7,t 8]),M 4 9] y)⟩
def iu(g0 g1:Nat):dc:=⟨17,[.tmp 6],r [o 5 (w 2),V 6 (F)] (r [M 7 0,o 8 (h 7),M 9 1,o 10 (b .leq 8 9),M 11 10,p 12 (m 0) 11,p 13 (.Br (.func g0) [] [t 5]) 11,p 14 (.call g1 [t 12,t 13]) 11,p 15 (.un .not (t 14)) 11,o 16 (P 11 15),M 6 16] y)⟩
def kq(g0 g1 g2 g3 g4:Nat):dc:=⟨38,[.tmp 2],r [o 1 (w 0),V 2 (F)] (r [V 3 (.fn (.func g0) [] [])] (r [o 4 (f 1 0),o 5 (l 4),o 6 (.f9 g1 1 [t 5]),o 7 (.call g2 [k (i 7),t 6]),M 8 7,p 9 (m 3) 8,p 10 (f 1 1) 8,p 11 (l 10) 8,p 12 (.fc (t 9) [t 11]) 8,o 13 (P 8 12),M 14 13,p 15 (m 3) 14,p 16 (f 1 2) 14,p 17 (l 16) 14,p 18 (.fc (t 15) [t 17]) 14,o 19 (P 14 18),M 20 19,p 21 (f 1 3) 20,p 22 (l 21) 20,p 23 (.call g3 [t 22]) 20,o 24 (P 20 23),M 25 24,p 26 (f 1 4) 25,p 27 (l 26) 25,p 28 (.call g3 [t 27]) 25,o 29 (P 25 28),M 30 29,p 31 (f 1 5) 30,p 32 (l 31) 30,p 33 (f 1 6) 30,p 34 (l 33) 30,p 35 (.f9 g1 1 [t 32,t 34]) 30,p 36 (.call g4 [t 35]) 30,o 37 (P 30 36),M 2 37] y))⟩
def jW(g0 g1:Nat):dc:=⟨17,[.tmp 6],r [o 5 (w 2),V 6 (F)] (r [M 7 0,o 8 (h 7),M 9 1,o 10 (b .leq 8 9),M 11 10,p 12 (m 0) 11,p 13 (.Br (.func g0) [] [t 5]) 11,p 14 (.call g1 [t 12,t 13]) 11,p 15 (.un .not (t 14)) 11,o 16 (P 11 15),M 6 16] y)⟩
def oe(g0 g1 g2:Nat):dc:=⟨35,[.tmp 2],r [o 1 (w 0),V 2 (F)] (r [o 3 (f 1 0),o 4 (l 3),o 5 (f 1 1),o 6 (l 5),o 7 (f 1 2),o 8 (l 7),o 9 (f 1 3),o 10 (l 9),o 11 (.f9 g0 1 [t 4,t 6,t 8,t 10]),o 12 (.call g1 [k (i 255),t 11]),M 13 12,p 14 (f 1 4) 13,p 15 (l 14) 13,p 16 (f 1 5) 13,p 17 (l 16) 13,p 18 (f 1 6) 13,p 19 (l 18) 13,p 20 (f 1 7) 13,p 21 (l 20) 13,p 22 (f 1 8) 13,p 23 (l 22) 13,p 24 (f 1 9) 13,p 25 (l 24) 13,p 26 (.f9 g0 1 [t 15,t 17,t 19,t 21,t 23,t 25]) 13,p 27 (.call g2 [t 26]) 13,o 28 (P 13 27),M 29 28,p 30 (f 1 10) 29,p 31 (l 30) 29,p 32 (.f9 g0 1 [t 31]) 29,p 33 (.call g1 [k (i 2147483647),t 32]) 29,o 34 (P 29 33),M 2 34] y)⟩
def kr(g0 g1:Nat):dc:=⟨17,[.tmp 6],r [o 5 (w 2),V 6 (F)] (r [M 7 0,o 8 (h 7),M 9 1,o 10 (b .leq 8 9),M 11 10,p 12 (m 0) 11,p 13 (.Br (.func g0) [] [t 5]) 11,p 14 (.call g1 [t 12,t 13]) 11,p 15 (.un .not (t 14)) 11,o 16 (P 11 15),M 6 16] y)⟩
def pQ(g0 g1 g2:Nat):dc:=⟨13,[.tmp 2],r [o 1 (w 0),V 2 (F)] (r [o 3 (f 1 0),o 4 (l 3),o 5 (.f9 g0 1 [t 4]),o 6 (.call g1 [k (i 255),t 5]),M 7 6,p 8 (f 1 1) 7,p 9 (l 8) 7,p 10 (.f9 g0 1 [t 9]) 7,p 11 (.call g2 [t 10]) 7,o 12 (P 7 11),M 2 12] y)⟩
def rD(g0:Nat):dc:=⟨5,[.tmp 2],r [V 2 (F)] (r [M 3 0,o 4 (.call g0 [k (i 9999),t 3]),M 2 4] y)⟩
def dV(g0:Nat):dc:=⟨9,[.tmp 4],r [V 4 (F)] (r [M 5 0,M 6 1,o 7 (.call g0 [t 5,t 6]),o 8 (bb .geq 7 (i 0)),M 4 8] y)⟩
def iP:dc:=⟨8,[.tmp 3],r [o 2 (w 0),V 3 (F)] (r [o 4 (l 1),o 5 (L 2 13),o 6 (.fc (t 4) [t 5]),o 7 (.un .not (t 6)),M 3 7] y)⟩
def fU(g0:Nat):dc:=⟨9,[.tmp 4],r [V 4 (F)] (r [M 5 0,M 6 1,o 7 (.call g0 [t 5,t 6]),o 8 (bb .geq 7 (i 0)),M 4 8] y)⟩
def ku:dc:=⟨8,[.tmp 3],r [o 2 (w 0),V 3 (F)] (r [o 4 (l 1),o 5 (L 2 2),o 6 (.fc (t 4) [t 5]),o 7 (.un .not (t 6)),M 3 7] y)⟩
def oQ(g0 g1:Nat):dc:=⟨5,[.tmp 2],r [V 2 (F)] (r [M 3 0,o 4 (.call g0 [t 3,k (i 8),k (.fn (.func g1) [] [])]),M 2 4] y)⟩
def nu(g0 g1:Nat):dc:=⟨17,[.tmp 6],r [o 5 (w 2),V 6 (F)] (r [M 7 0,o 8 (h 7),M 9 1,o 10 (b .leq 8 9),M 11 10,p 12 (m 0) 11,p 13 (.Br (.func g0) [] [t 5]) 11,p 14 (.call g1 [t 12,t 13]) 11,p 15 (.un .not (t 14)) 11,o 16 (P 11 15),M 6 16] y)⟩
def jN(g0 g1:Nat):dc:=⟨6,[.tmp 2],r [V 2 (F)] (r [M 3 0,o 4 (.f9 g0 1 [t 3]),o 5 (.call g1 [k (i 7),t 4]),M 2 5] y)⟩
def nR:dc:=⟨11,[.tmp 3],r [V 3 (F)] (r [M 4 0,o 5 (bb .geq 4 (i 0)),M 6 5,p 7 (m 0) 6,p 8 (l 1) 6,p 9 (b .leq 7 8) 6,o 10 (P 6 9),M 3 10] y)⟩
def dr(g0:Nat):dc:=⟨9,[.tmp 4],r [V 4 (F)] (r [M 5 0,M 6 1,o 7 (.call g0 [t 5,t 6]),o 8 (bb .geq 7 (i 0)),M 4 8] y)⟩
def gJ:dc:=⟨8,[.tmp 3],r [o 2 (w 0),V 3 (F)] (r [o 4 (l 1),o 5 (L 2 7),o 6 (.fc (t 4) [t 5]),o 7 (.un .not (t 6)),M 3 7] y)⟩
def mb:dc:=⟨9,[.tmp 2],r [V 2 (F)] (r [M 3 0,o 4 (bb .gtr 3 (.float .f64 0)),M 5 4,p 6 (m 0) 5,p 7 (bb .leq 6 (.float .f64 4696837146684686336)) 5,o 8 (P 5 7),M 2 8] y)⟩
def oR(g0 g1:Nat):dc:=⟨16,[.tmp 2],r [V 2 (F)] (r [M 6 0,o 7 (.call g0 [t 6]),M 5 7,o 8 (e 5 0),o 9 (e 5 1),M 3 8,M 4 9] (r [M 10 4,M 11 10,p 12 (m 0) 11,p 13 (.call g1 [t 12]) 11,p 14 (.un .not (t 13)) 11,o 15 (P 11 14),M 2 15] y))⟩
def eu(g0:Nat):dc:=⟨9,[.tmp 4],r [V 4 (F)] (r [M 5 0,M 6 1,o 7 (.call g0 [t 5,t 6]),o 8 (bb .geq 7 (i 0)),M 4 8] y)⟩
def jf:dc:=⟨8,[.tmp 3],r [o 2 (w 0),V 3 (F)] (r [o 4 (l 1),o 5 (L 2 11),o 6 (.fc (t 4) [t 5]),o 7 (.un .not (t 6)),M 3 7] y)⟩
def eP(g0:Nat):dc:=⟨9,[.tmp 4],r [V 4 (F)] (r [M 5 0,M 6 1,o 7 (.call g0 [t 5,t 6]),o 8 (bb .geq 7 (i 0)),M 4 8] y)⟩
def jB:dc:=⟨8,[.tmp 3],r [o 2 (w 0),V 3 (F)] (r [o 4 (l 1),o 5 (L 2 2),o 6 (.fc (t 4) [t 5]),o 7 (.un .not (t 6)),M 3 7] y)⟩
def rE:dc:=⟨9,[.tmp 2],r [V 2 (F)] (r [M 3 0,o 4 (bb .gtr 3 (.float .f64 0)),M 5 4,p 6 (m 0) 5,p 7 (bb .leq 6 (.float .f64 4696837146684686336)) 5,o 8 (P 5 7),M 2 8] y)⟩
def oS(g0 g1:Nat):dc:=⟨16,[.tmp 2],r [V 2 (F)] (r [M 6 0,o 7 (.call g0 [t 6]),M 5 7,o 8 (e 5 0),o 9 (e 5 1),M 3 8,M 4 9] (r [M 10 4,M 11 10,p 12 (m 0) 11,p 13 (.call g1 [t 12]) 11,p 14 (.un .not (t 13)) 11,o 15 (P 11 14),M 2 15] y))⟩
def cZ:dc:=⟨19,[.tmp 4],r [V 4 (i 0)] (j (r [M 6 0,o 7 (h 6),V 8 (i 0)] (u 0 (.loop (r [o 9 (b .lss 8 7)] (j (c 9 z (.exit 0)) (j (u 1 (r [M 10 8,M 5 10] (r [M 11 1,M 12 0,M 13 5,o 14 (a 12 13 13),o 15 (L 14 13),o 16 (.fc (t 11) [t 15])] (c 16 (r [M 17 5,M 4 17] y) z)))) (R [o 18 (bb .add 8 (i 1)),M 8 18]))))))) (r [V 4 (i (-1))] y))⟩
def ef:dc:=⟨19,[.tmp 4],r [V 4 (i 0)] (j (r [M 6 0,o 7 (h 6),V 8 (i 0)] (u 0 (.loop (r [o 9 (b .lss 8 7)] (j (c 9 z (.exit 0)) (j (u 1 (r [M 10 8,M 5 10] (r [M 11 1,M 12 0,M 13 5,o 14 (a 12 13 2),o 15 (L 14 2),o 16 (.fc (t 11) [t 15])] (c 16 (r [M 17 5,M 4 17] y) z)))) (R [o 18 (bb .add 8 (i 1)),M 8 18]))))))) (r [V 4 (i (-1))] y))⟩
def gE(g0:Nat):dc:=⟨9,[.tmp 4],r [V 4 (F)] (r [M 5 0,M 6 1,o 7 (.call g0 [t 5,t 6]),o 8 (bb .geq 7 (i 0)),M 4 8] y)⟩
def lH:dc:=⟨8,[.tmp 3],r [V 3 (F)] (r [o 4 (l 1),M 5 0,o 6 (.fc (t 4) [t 5]),o 7 (.un .not (t 6)),M 3 7] y)⟩
def cu:dc:=⟨19,[.tmp 4],r [V 4 (i 0)] (j (r [M 6 0,o 7 (h 6),V 8 (i 0)] (u 0 (.loop (r [o 9 (b .lss 8 7)] (j (c 9 z (.exit 0)) (j (u 1 (r [M 10 8,M 5 10] (r [M 11 1,M 12 0,M 13 5,o 14 (a 12 13 7),o 15 (L 14 7),o 16 (.fc (t 11) [t 15])] (c 16 (r [M 17 5,M 4 17] y) z)))) (R [o 18 (bb .add 8 (i 1)),M 8 18]))))))) (r [V 4 (i (-1))] y))⟩
def qc:dc:=⟨7,[.tmp 2],r [V 2 (F)] (r [M 3 0,o 4 (.xt .yf (t 3)),o 5 (.j4 .i64 (t 4)),o 6 (bb .lss 5 (i 0)),M 2 6] y)⟩
def dm:dc:=⟨19,[.tmp 4],r [V 4 (i 0)] (j (r [M 6 0,o 7 (h 6),V 8 (i 0)] (u 0 (.loop (r [o 9 (b .lss 8 7)] (j (c 9 z (.exit 0)) (j (u 1 (r [M 10 8,M 5 10] (r [M 11 1,M 12 0,M 13 5,o 14 (a 12 13 11),o 15 (L 14 11),o 16 (.fc (t 11) [t 15])] (c 16 (r [M 17 5,M 4 17] y) z)))) (R [o 18 (bb .add 8 (i 1)),M 8 18]))))))) (r [V 4 (i (-1))] y))⟩
def dH:dc:=⟨19,[.tmp 4],r [V 4 (i 0)] (j (r [M 6 0,o 7 (h 6),V 8 (i 0)] (u 0 (.loop (r [o 9 (b .lss 8 7)] (j (c 9 z (.exit 0)) (j (u 1 (r [M 10 8,M 5 10] (r [M 11 1,M 12 0,M 13 5,o 14 (a 12 13 2),o 15 (L 14 2),o 16 (.fc (t 11) [t 15])] (c 16 (r [M 17 5,M 4 17] y) z)))) (R [o 18 (bb .add 8 (i 1)),M 8 18]))))))) (r [V 4 (i (-1))] y))⟩
def fo:dc:=⟨19,[.tmp 4],r [V 4 (i 0)] (j (r [M 6 0,o 7 (h 6),V 8 (i 0)] (u 0 (.loop (r [o 9 (b .lss 8 7)] (j (c 9 z (.exit 0)) (j (u 1 (r [M 10 8,M 5 10] (r [M 11 1,M 12 0,M 13 5,o 14 (a 12 13 1),o 15 (l 14),o 16 (.fc (t 11) [t 15])] (c 16 (r [M 17 5,M 4 17] y) z)))) (R [o 18 (bb .add 8 (i 1)),M 8 18]))))))) (r [V 4 (i (-1))] y))⟩
end
section
open Z
def dI(g0 g1 g2:Nat):dc:=⟨243,[.tmp 4],r [o 2 (w 0),o 3 (w 1),V 4 (F)] (j (r [o 11 (f 2 0),o 12 (L 11 104),o 13 (f 3 0),o 14 (L 13 104),o 15 (.eqc [.b,.i,.i,.i,.i,.i,.i,.i,.i,.i,.i,.b,.b,.b,.i,.i,.i,.i,.i,.i,.i,.i,.i,.i,.b,.b,.b,.i,.i,.i,.i,.i,.i,.i,.i,.i,.i,.b,.b,.b,.i,.i,.i,.i,.i,.i,.i,.i,.i,.i,.b,.b,.b,.i,.i,.i,.i,.i,.i,.i,.i,.i,.i,.b,.b,.b,.i,.i,.i,.i,.i,.i,.i,.i,.i,.i,.b,.b,.b,.i,.i,.i,.i,.i,.i,.i,.i,.i,.i,.b,.b,.b,.i,.i,.i,.i,.i,.i,.i,.i,.i,.i,.b,.b] true (t 12) (t 14)),M 16 15,q 17 (f 2 105) 16,q 18 (L 17 8) 16,q 19 (f 3 105) 16,q 20 (L 19 8) 16,q 21 (.eqc [.i,.i,.i,.i,.i,.i,.i,.i] true (t 18) (t 20)) 16,o 22 (Q 16 21),M 23 22,q 24 (f 2 121) 23,q 25 (L 24 8) 23,q 26 (f 3 121) 23,q 27 (L 26 8) 23,q 28 (.eqc [.i,.i,.i,.i,.i,.i,.i,.i] true (t 25) (t 27)) 23,o 29 (Q 23 28),M 30 29,q 31 (f 2 104) 30,q 32 (l 31) 30,q 33 (h 32) 30,q 34 (f 3 104) 30,q 35 (l 34) 30,q 36 (h 35) 30,q 37 (b .neq 33 36) 30,o 38 (Q 30 37),M 39 38,q 40 (f 2 113) 39,q 41 (l 40) 39,q 42 (h 41) 39,q 43 (f 3 113) 39,q 44 (l 43) 39,q 45 (h 44) 39,q 46 (b .neq 42 45) 39,o 47 (Q 39 46),M 48 47,q 49 (f 2 114) 48,q 50 (l 49) 48,q 51 (h 50) 48,q 52 (f 3 114) 48,q 53 (l 52) 48,q 54 (h 53) 48,q 55 (b .neq 51 54) 48,o 56 (Q 48 55),M 57 56,q 58 (f 2 115) 57,q 59 (l 58) 57,q 60 (h 59) 57,q 61 (f 3 115) 57,q 62 (l 61) 57,q 63 (h 62) 57,q 64 (b .neq 60 63) 57,o 65 (Q 57 64)] (c 65 (r [V 4 (F)] y) z)) (j (r [o 66 (f 2 116),o 67 (l 66),o 68 (f 2 117),o 69 (l 68),o 70 (f 2 118),o 71 (l 70),o 72 (f 2 119),o 73 (l 72),o 74 (f 2 120),o 75 (l 74),o 76 (f 2 129),o 77 (l 76),o 78 (f 2 130),o 79 (l 78),o 80 (.f9 g0 1 [t 67,t 69,t 71,t 73,t 75,t 77,t 79]),o 81 (f 3 116),o 82 (l 81),o 83 (f 3 117),o 84 (l 83),o 85 (f 3 118),o 86 (l 85),o 87 (f 3 119),o 88 (l 87),o 89 (f 3 120),o 90 (l 89),o 91 (f 3 129),o 92 (l 91),o 93 (f 3 130),o 94 (l 93),o 95 (.f9 g0 1 [t 82,t 84,t 86,t 88,t 90,t 92,t 94]),o 96 (.call g1 [t 80,t 95]),o 97 (.un .not (t 96))] (c 97 (r [V 4 (F)] y) z)) (j (r [V 5 (i 0)] (u 0 (.loop (j (r [M 98 5,o 99 (f 2 104),o 100 (l 99),o 101 (h 100),o 102 (b .lss 98 101)] (c 102 z (.exit 0))) (j (u 1 (r [o 105 (f 2 104),o 106 (l 105),M 107 5,o 108 (a 106 107 2),o 109 (.Aw (t 108) (k (i 0)) 2 1),o 110 (l 109),o 111 (f 3 104),o 112 (l 111),M 113 5,o 114 (a 112 113 2),o 115 (.Aw (t 114) (k (i 0)) 2 1),o 116 (l 115),o 117 (.call g1 [t 110,t 116]),o 118 (.un .not (t 117)),M 119 118,q 120 (f 2 104) 119,q 121 (l 120) 119,q 122 (m 5) 119,q 123 (a 121 122 2) 119,q 124 (.Aw (t 123) (k (i 1)) 2 1) 119,q 125 (l 124) 119,q 126 (f 3 104) 119,q 127 (l 126) 119,q 128 (m 5) 119,q 129 (a 127 128 2) 119,q 130 (.Aw (t 129) (k (i 1)) 2 1) 119,q 131 (l 130) 119,q 132 (.call g1 [t 125,t 131]) 119,q 133 (.un .not (t 132)) 119,o 134 (Q 119 133)] (c 134 (r [V 4 (F)] y) z))) (R [M 103 5,o 104 (bb .add 103 (i 1)),M 5 104])))))) (j (r [V 6 (i 0)] (u 2 (.loop (j (r [M 135 6,o 136 (f 2 113),o 137 (l 136),o 138 (h 137),o 139 (b .lss 135 138)] (c 139 z (.exit 2))) (j (u 3 (.seq (.sV [o 142 (f 2 113),o 143 (l 142),M 144 6,o 145 (a 143 144 7),o 146 (L 145 7),o 147 (f 3 113),o 148 (l 147),M 149 6,o 150 (a 148 149 7),o 151 (L 150 7),o 7 (.alloc [i 0,.float .f64 0,.float .f64 0,.float .f64 0,.float .f64 0,i 0,i 0]),o 8 (.alloc [i 0,.float .f64 0,.float .f64 0,.float .f64 0,.float .f64 0,i 0,i 0]),n (s 7 146 7),n (s 8 151 7)] [(6,12),(9,12)]) (r [o 152 (f 7 0),o 153 (l 152),o 154 (f 8 0),o 155 (l 154),o 156 (b .neq 153 155),M 157 156,q 158 (f 7 5) 157,q 159 (l 158) 157,q 160 (f 8 5) 157,q 161 (l 160) 157,q 162 (b .neq 159 161) 157,o 163 (Q 157 162),M 164 163,q 165 (f 7 6) 164,q 166 (l 165) 164,q 167 (f 8 6) 164,q 168 (l 167) 164,q 169 (b .neq 166 168) 164,o 170 (Q 164 169),M 171 170,q 172 (f 7 1) 171,q 173 (l 172) 171,q 174 (.call g2 [t 173]) 171,q 175 (f 8 1) 171,q 176 (l 175) 171,q 177 (.call g2 [t 176]) 171,q 178 (b .neq 174 177) 171,o 179 (Q 171 178),M 180 179,q 181 (f 7 2) 180,q 182 (l 181) 180,q 183 (.call g2 [t 182]) 180,q 184 (f 8 2) 180,q 185 (l 184) 180,q 186 (.call g2 [t 185]) 180,q 187 (b .neq 183 186) 180,o 188 (Q 180 187),M 189 188,q 190 (f 7 3) 189,q 191 (l 190) 189,q 192 (.call g2 [t 191]) 189,q 193 (f 8 3) 189,q 194 (l 193) 189,q 195 (.call g2 [t 194]) 189,q 196 (b .neq 192 195) 189,o 197 (Q 189 196),M 198 197,q 199 (f 7 4) 198,q 200 (l 199) 198,q 201 (.call g2 [t 200]) 198,q 202 (f 8 4) 198,q 203 (l 202) 198,q 204 (.call g2 [t 203]) 198,q 205 (b .neq 201 204) 198,o 206 (Q 198 205)] (c 206 (r [V 4 (F)] y) z)))) (R [M 140 6,o 141 (bb .add 140 (i 1)),M 6 141])))))) (j (r [V 9 (i 0)] (u 4 (.loop (j (r [M 207 9,o 208 (f 2 114),o 209 (l 208),o 210 (h 209),o 211 (b .lss 207 210)] (c 211 z (.exit 4))) (j (u 5 (r [o 214 (f 2 114),o 215 (l 214),M 216 9,o 217 (a 215 216 11),o 218 (L 217 11),o 219 (f 3 114),o 220 (l 219),M 221 9,o 222 (a 220 221 11),o 223 (L 222 11),o 224 (.eqc [.i,.i,.i,.i,.i,.i,.i,.i,.i,.i,.i] true (t 218) (t 223))] (c 224 (r [V 4 (F)] y) z))) (R [M 212 9,o 213 (bb .add 212 (i 1)),M 9 213])))))) (j (r [V 10 (i 0)] (u 6 (.loop (j (r [M 225 10,o 226 (f 2 115),o 227 (l 226),o 228 (h 227),o 229 (b .lss 225 228)] (c 229 z (.exit 6))) (j (u 7 (r [o 232 (f 2 115),o 233 (l 232),M 234 10,o 235 (a 233 234 2),o 236 (L 235 2),o 237 (f 3 115),o 238 (l 237),M 239 10,o 240 (a 238 239 2),o 241 (L 240 2),o 242 (.eqc [.i,.i] true (t 236) (t 241))] (c 242 (r [V 4 (F)] y) z))) (R [M 230 10,o 231 (bb .add 230 (i 1)),M 10 231])))))) (r [V 4 (T)] y)))))))⟩
def nS:dc:=⟨26,[.tmp 4],r [V 4 (F)] (j (r [M 6 0,o 7 (h 6),M 8 1,o 9 (h 8),o 10 (b .neq 7 9)] (c 10 (r [V 4 (F)] y) z)) (j (r [V 5 (i 0)] (u 0 (.loop (j (r [M 11 5,M 12 0,o 13 (h 12),o 14 (b .lss 11 13)] (c 14 z (.exit 0))) (j (u 1 (r [M 17 0,M 18 5,o 19 (a 17 18 1),o 20 (l 19),M 21 1,M 22 5,o 23 (a 21 22 1),o 24 (l 23),o 25 (b .neq 20 24)] (c 25 (r [V 4 (F)] y) z))) (R [M 15 5,o 16 (bb .add 15 (i 1)),M 5 16])))))) (r [V 4 (T)] y)))⟩
def tE:dc:=⟨5,[.tmp 2],r [V 2 (.int .u64 0)] (r [M 3 0,o 4 (.xt .yf (t 3)),M 2 4] y)⟩
end
def wI(m n:Int):Bool:=decide (n>=0)&&decide (n<=m)
def Hf{α:Type} (row:α->List AV) (v:α->AV) (C:bw) (f:Nat):Prop:=∀(l:Option (List α)) (g:Nat) (fs cs:List AV) (is:α->Bool),(l.getD []).length<=1000000->
 (∀x∈l.getD [],C.c g (fs++[v x]++cs) (B (is x)) none)->∃n:Int,decide (n>=0)=(l.getD []).any is/\C.c f [aD row l,.fn (.func g) fs cs] (I n) none
def Hg{α:Type} (row:α->List AV) (v:α->AV) (C:bw) (f:Nat):Prop:=∀(l:Option (List α)) (g:Nat) (fs cs:List AV) (is:α->Bool),(l.getD []).length<=1000000->
 (∀x∈l.getD [],C.c g (fs++[v x]++cs) (B (is x)) none)->C.c f [aD row l,.fn (.func g) fs cs] (B ((l.getD []).any is)) none
def Hh{α:Type} (v:α->AV) (C:bw) (f:Nat):Prop:=∀(x:α) (g:Nat) (fs cs:List AV) (r:Bool),C.c g (fs++[v x]++cs) (B r) none->C.c f [v x,.ref [.fn (.func g) fs cs]] (B (!r)) none
def Sg{α:Type} (row:α->List AV) (v:α->AV) (C:bw) (f:Nat):Prop:=∀(l:Option (List α)) (most:Int) (g:Nat) (fs cs:List AV) (is:α->Bool),most<=1000000->
 (∀x∈l.getD [],C.c g (fs++[v x]++cs) (B (is x)) none)->C.c f [aD row l,I most,.fn (.func g) fs cs] (B (decide (((l.getD []).length:Int)<=most)&&(l.getD []).all is)) none
theorem sG{α:Type} (l:List α) (is:α->Bool):(!l.any fun x=>!is x)=l.all is:=by
 induction l with
 |nil=>rfl
 |cons a l ih=>simp only[List.any_cons,List.all_cons,<-ih];cases is a<;>simp
def JH.Spec(C:bw) (f:Nat):Prop:=Hf aA (fun n=>I n) C f
def JI.Spec(C:bw) (f:Nat):Prop:=Hg aA (fun n=>I n) C f
def JJ.Spec(C:bw) (f:Nat):Prop:=Hh (α:=Int) (fun n=>I n) C f
def Si.Spec(C:bw) (f:Nat):Prop:=Sg aA (fun n=>I n) C f
def JK.Spec(C:bw) (f:Nat):Prop:=Hf Ph.cells (fun p=>.agg p.cells) C f
def JL.Spec(C:bw) (f:Nat):Prop:=Hg Ph.cells (fun p=>.agg p.cells) C f
def JM.Spec(C:bw) (f:Nat):Prop:=Hh (α:=Ph) (fun p=>.agg p.cells) C f
def Vq.Spec(C:bw) (f:Nat):Prop:=Sg Ph.cells (fun p=>.agg p.cells) C f
def JN.Spec(C:bw) (f:Nat):Prop:=Hf Gr.cells (fun g=>.agg g.cells) C f
def JO.Spec(C:bw) (f:Nat):Prop:=Hg Gr.cells (fun g=>.agg g.cells) C f
def JP.Spec(C:bw) (f:Nat):Prop:=Hh (α:=Gr) (fun g=>.agg g.cells) C f
def Vr.Spec(C:bw) (f:Nat):Prop:=Sg Gr.cells (fun g=>.agg g.cells) C f
def JQ.Spec(C:bw) (f:Nat):Prop:=Hf fy.cells (fun d=>.agg d.cells) C f
def JR.Spec(C:bw) (f:Nat):Prop:=Hg fy.cells (fun d=>.agg d.cells) C f
def JS.Spec(C:bw) (f:Nat):Prop:=Hh (α:=fy) (fun d=>.agg d.cells) C f
def Vs.Spec(C:bw) (f:Nat):Prop:=Sg fy.cells (fun d=>.agg d.cells) C f
def JT.Spec(C:bw) (f:Nat):Prop:=Hf Rl.cells (fun r=>.agg r.cells) C f
def JU.Spec(C:bw) (f:Nat):Prop:=Hg Rl.cells (fun r=>.agg r.cells) C f
def JV.Spec(C:bw) (f:Nat):Prop:=Hh (α:=Rl) (fun r=>.agg r.cells) C f
def Vt.Spec(C:bw) (f:Nat):Prop:=Sg Rl.cells (fun r=>.agg r.cells) C f
def JW.Spec(C:bw) (f:Nat):Prop:=Hf Bs.cells (fun b=>.agg b.cells) C f
def JX.Spec(C:bw) (f:Nat):Prop:=Hg Bs.cells (fun b=>.agg b.cells) C f
def JY.Spec(C:bw) (f:Nat):Prop:=Hh (α:=Bs) (fun b=>.agg b.cells) C f
def Vu.Spec(C:bw) (f:Nat):Prop:=Sg Bs.cells (fun b=>.agg b.cells) C f
theorem oT{α:Type} {l:List α} {is:α->Bool} (h:l.any is=true):∃n,n<l.length/\(∃x,l[n]? =some x/\is x=true)/\(l.take n).any is=false:=by
 induction l with
 |nil=>cases h
 |cons a l ih=>
  cases ha:is a with
  |true=>exact⟨0,by simp,⟨a,rfl,ha⟩,rfl⟩
  |false=>
   rw[List.any_cons,ha,Bool.false_or]at h;obtain⟨n,h1,⟨x,h2,h3⟩,h4⟩:=ih h
   exact⟨n+1,by simpa using h1,⟨x,by simpa using h2,h3⟩,by simp[ha,h4]⟩
section
variable{P:Program} (hm:P.follows .mixedOrders=true) {f:Nat}
include hm
theorem JH.ok(hc:de P f=some fo):JH.Spec (Pure P) f:=by
 intro l g fs cs is hl hg
 cases hany:(l.getD []).any is with
 |false=>
  refine⟨-1,rfl,?_⟩
  refine aB hm hc (by show 2<=19;decide) (ax (keep:=[]) (i:=0) ?_)
  try simp only[I,B,D,RX,↓KW,seval,fo,Z.H,gU]
  refine aH (fun k:Nat=>(⟨[(8,.dat (I k) none),(7,.dat (I ((l.getD []).length:Nat)) none),(1,.dat (.fn (.func g) fs cs) none),(0,.dat (aD aA l) none)],[],[],400⟩:S)) (fun k=>(l.getD []).length-k) (fun k=>k<=(l.getD []).length) ?_ 0 (by omega) ?_
  ·intro k hk A back
   have hwr:=aF (k:=k) (by omega)
   try simp only[I,B,D,RX,↓KW,seval]
   refine aq (fun h2=>?_) (fun h2=>?_)<;>try simp only[I,B,D,RX,↓KW,seval,h2]
   ·have h8:k<(l.getD []).length:=by have:=of_decide_eq_true h2;omega
    obtain⟨x,hx⟩:∃x,(l.getD [])[k]? =some x:=⟨_,List.getElem?_eq_getElem h8⟩
    have hno:is x=false:=List.any_eq_false.1 hany x (List.mem_of_getElem? hx)|>Bool.eq_false_iff.2
    have hgx:=hg x (List.mem_of_getElem? hx)
    rw[hno]at hgx;try simp only[I,B,D,RX,↓KW,seval,iG,hx,aA]
    refine⟨by omega,?_⟩
    refine ai hgx ?_;try simp only[I,B,D,RX,↓KW,seval]
    refine back (k+1) _ (by omega) (by omega) ?_
    refine ah (by decide) ?_ ?_ ?_ ?_<;>simp[LX,I,B,D,hwr]
  ·refine ah (by decide) ?_ ?_ ?_ ?_<;>simp[LX,I,B,D]
 |true=>
  obtain⟨n,hn,hxn⟩:∃n,n<(l.getD []).length/\(∃x,(l.getD [])[n]? =some x/\is x=true)/\((l.getD []).take n).any is=false:=oT hany
  obtain⟨⟨xn,hxn,hisn⟩,hpre⟩:=hxn
  refine⟨n,by simp,?_⟩
  refine aB hm hc (by show 2<=19;decide) (ax (keep:=[]) (i:=0) ?_)
  try simp only[I,B,D,RX,↓KW,seval,fo,Z.H,gU]
  refine aH (fun k:Nat=>(⟨[(8,.dat (I k) none),(7,.dat (I ((l.getD []).length:Nat)) none),(1,.dat (.fn (.func g) fs cs) none),(0,.dat (aD aA l) none)],[],[],400⟩:S)) (fun k=>n-k) (fun k=>k<=n) ?_ 0 (by omega) ?_
  ·intro k hk A back
   have hwr:=aF (k:=k) (by omega)
   have h8:k<(l.getD []).length:=by omega
   have h2:decide ((k:Int)<((l.getD []).length:Nat))=true:=by simp;omega
   obtain⟨x,hx⟩:∃x,(l.getD [])[k]? =some x:=⟨_,List.getElem?_eq_getElem h8⟩
   have hgx:=hg x (List.mem_of_getElem? hx)
   try simp only[I,B,D,RX,↓KW,seval,h2,iG,hx,aA]
   refine⟨by omega,?_⟩
   by_cases e:k=n
   ·subst e
    have:x=xn:=by rw[hx]at hxn;exact Option.some.inj hxn
    subst this;rw[hisn]at hgx;refine ai hgx ?_;try simp only[I,B,D,RX,↓KW,seval]
   ·have hno:is x=false:=by
     refine Bool.eq_false_iff.2 (List.any_eq_false.1 hpre x ?_)
     refine List.mem_of_getElem? (i:=k) ?_
     rw[List.getElem?_take,if_pos (by omega)];exact hx
    rw[hno]at hgx;refine ai hgx ?_;try simp only[I,B,D,RX,↓KW,seval]
    refine back (k+1) _ (by omega) (by omega) ?_
    refine ah (by decide) ?_ ?_ ?_ ?_<;>simp[LX,I,B,D,hwr]
  ·refine ah (by decide) ?_ ?_ ?_ ?_<;>simp[LX,I,B,D]
theorem JI.ok{fI:Nat} (hc:de P f=some (gE fI)) (hI:JH.Spec (Pure P) fI):JI.Spec (Pure P) f:=by
 intro l g fs cs is hl hg;obtain⟨n,hn,hcall⟩:=hI l g fs cs is hl hg
 refine aB hm hc (by show 2<=9;decide) (ax (keep:=[]) (i:=0) ?_)
 try simp only[I,B,D,RX,↓KW,seval,gE,Z.H]
 refine ai hcall ?_;try simp only[I,B,D,RX,↓KW,seval,hn]
theorem JJ.ok(hc:de P f=some lH):JJ.Spec (Pure P) f:=by
 intro x g fs cs r hg
 refine aB hm hc (by show 2<=8;decide) (ax (keep:=[]) (i:=0) ?_)
 try simp only[I,B,D,RX,↓KW,seval,lH,Z.H]
 refine ai hg ?_;try simp only[I,B,D,RX,↓KW,seval]
theorem Si.ok{f1 fC:Nat} (hc:de P f=some (nu f1 fC)) (h1:JJ.Spec (Pure P) f1) (hC:JI.Spec (Pure P) fC):Si.Spec (Pure P) f:=by
 intro l most g fs cs is hm' hg
 refine aB hm hc (by show 3<=17;decide) (ax (keep:=[]) (i:=0) ?_)
 try simp only[I,B,D,RX,↓KW,seval,nu,Z.H,gU]
 cases hl:decide (((l.getD []).length:Int)<=most)
 ·try simp only[I,B,D,RX,↓KW,seval,hl]
  rfl
 ·have:=of_decide_eq_true hl
  try simp only[I,B,D,RX,↓KW,seval,hl]
  refine⟨rfl,?_⟩
  refine ai (hC l f1 [] [.ref [.fn (.func g) fs cs]] (fun x=>!is x) (by omega) (fun x hx=>h1 x g fs cs (is x) (hg x hx))) ?_
  try simp only[I,B,D,RX,↓KW,seval]
  rw[sG];rfl
theorem JK.ok(hc:de P f=some cZ):JK.Spec (Pure P) f:=by
 intro l g fs cs is hl hg
 have hpart:∀x:Ph,bF (Ph.cells x) 0 (some 13)=some (.agg (Ph.cells x)):=fun x=>rfl
 have hlen:∀x:Ph,(Ph.cells x).length=13:=fun x=>rfl
 cases hany:(l.getD []).any is with
 |false=>
  refine⟨-1,rfl,?_⟩
  refine aB hm hc (by show 2<=19;decide) (ax (keep:=[]) (i:=0) ?_)
  try simp only[I,B,D,RX,↓KW,seval,cZ,Z.H,gU]
  refine aH (fun k:Nat=>(⟨[(8,.dat (I k) none),(7,.dat (I ((l.getD []).length:Nat)) none),(1,.dat (.fn (.func g) fs cs) none),(0,.dat (aD Ph.cells l) none)],[],[],400⟩:S)) (fun k=>(l.getD []).length-k) (fun k=>k<=(l.getD []).length) ?_ 0 (by omega) ?_
  ·intro k hk A back
   have hwr:=aF (k:=k) (by omega)
   try simp only[I,B,D,RX,↓KW,seval]
   refine aq (fun h2=>?_) (fun h2=>?_)<;>try simp only[I,B,D,RX,↓KW,seval,h2]
   ·have h8:k<(l.getD []).length:=by have:=of_decide_eq_true h2;omega
    obtain⟨x,hx⟩:∃x,(l.getD [])[k]? =some x:=⟨_,List.getElem?_eq_getElem h8⟩
    have hno:is x=false:=List.any_eq_false.1 hany x (List.mem_of_getElem? hx)|>Bool.eq_false_iff.2
    have hgx:=hg x (List.mem_of_getElem? hx)
    rw[hno]at hgx;try simp only[I,B,D,RX,↓KW,seval,iG,hx,hpart,hlen]
    refine⟨by omega,?_⟩
    refine ai hgx ?_;try simp only[I,B,D,RX,↓KW,seval]
    refine back (k+1) _ (by omega) (by omega) ?_
    refine ah (by decide) ?_ ?_ ?_ ?_<;>simp[LX,I,B,D,hwr]
  ·refine ah (by decide) ?_ ?_ ?_ ?_<;>simp[LX,I,B,D]
 |true=>
  obtain⟨n,hn,hxn⟩:∃n,n<(l.getD []).length/\(∃x,(l.getD [])[n]? =some x/\is x=true)/\((l.getD []).take n).any is=false:=oT hany
  obtain⟨⟨xn,hxn,hisn⟩,hpre⟩:=hxn
  refine⟨n,by simp,?_⟩
  refine aB hm hc (by show 2<=19;decide) (ax (keep:=[]) (i:=0) ?_)
  try simp only[I,B,D,RX,↓KW,seval,cZ,Z.H,gU]
  refine aH (fun k:Nat=>(⟨[(8,.dat (I k) none),(7,.dat (I ((l.getD []).length:Nat)) none),(1,.dat (.fn (.func g) fs cs) none),(0,.dat (aD Ph.cells l) none)],[],[],400⟩:S)) (fun k=>n-k) (fun k=>k<=n) ?_ 0 (by omega) ?_
  ·intro k hk A back
   have hwr:=aF (k:=k) (by omega)
   have h8:k<(l.getD []).length:=by omega
   have h2:decide ((k:Int)<((l.getD []).length:Nat))=true:=by simp;omega
   obtain⟨x,hx⟩:∃x,(l.getD [])[k]? =some x:=⟨_,List.getElem?_eq_getElem h8⟩
   have hgx:=hg x (List.mem_of_getElem? hx)
   try simp only[I,B,D,RX,↓KW,seval,h2,iG,hx,hpart,hlen]
   refine⟨by omega,?_⟩
   by_cases e:k=n
   ·subst e
    have:x=xn:=by rw[hx]at hxn;exact Option.some.inj hxn
    subst this;rw[hisn]at hgx;refine ai hgx ?_;try simp only[I,B,D,RX,↓KW,seval]
   ·have hno:is x=false:=by
     refine Bool.eq_false_iff.2 (List.any_eq_false.1 hpre x ?_)
     refine List.mem_of_getElem? (i:=k) ?_
     rw[List.getElem?_take,if_pos (by omega)];exact hx
    rw[hno]at hgx;refine ai hgx ?_;try simp only[I,B,D,RX,↓KW,seval]
    refine back (k+1) _ (by omega) (by omega) ?_
    refine ah (by decide) ?_ ?_ ?_ ?_<;>simp[LX,I,B,D,hwr]
  ·refine ah (by decide) ?_ ?_ ?_ ?_<;>simp[LX,I,B,D]
theorem JL.ok{fI:Nat} (hc:de P f=some (dV fI)) (hI:JK.Spec (Pure P) fI):JL.Spec (Pure P) f:=by
 intro l g fs cs is hl hg;obtain⟨n,hn,hcall⟩:=hI l g fs cs is hl hg
 refine aB hm hc (by show 2<=9;decide) (ax (keep:=[]) (i:=0) ?_)
 try simp only[I,B,D,RX,↓KW,seval,dV,Z.H]
 refine ai hcall ?_;try simp only[I,B,D,RX,↓KW,seval,hn]
theorem JM.ok(hc:de P f=some iP):JM.Spec (Pure P) f:=by
 intro x g fs cs r hg
 have hpart:∀x:Ph,bF (Ph.cells x) 0 (some 13)=some (.agg (Ph.cells x)):=fun x=>rfl
 have hlen:∀x:Ph,(Ph.cells x).length=13:=fun x=>rfl
 refine aB hm hc (by show 2<=8;decide) (ax (keep:=[]) (i:=0) ?_)
 try simp only[I,B,D,RX,↓KW,seval,iP,Z.H,hpart,hlen]
 refine ai hg ?_;try simp only[I,B,D,RX,↓KW,seval]
theorem Vq.ok{f1 fC:Nat} (hc:de P f=some (jA f1 fC)) (h1:JM.Spec (Pure P) f1) (hC:JL.Spec (Pure P) fC):Vq.Spec (Pure P) f:=by
 intro l most g fs cs is hm' hg
 refine aB hm hc (by show 3<=17;decide) (ax (keep:=[]) (i:=0) ?_)
 try simp only[I,B,D,RX,↓KW,seval,jA,Z.H,gU]
 cases hl:decide (((l.getD []).length:Int)<=most)
 ·try simp only[I,B,D,RX,↓KW,seval,hl]
  rfl
 ·have:=of_decide_eq_true hl
  try simp only[I,B,D,RX,↓KW,seval,hl]
  refine⟨rfl,?_⟩
  refine ai (hC l f1 [] [.ref [.fn (.func g) fs cs]] (fun x=>!is x) (by omega) (fun x hx=>h1 x g fs cs (is x) (hg x hx))) ?_
  try simp only[I,B,D,RX,↓KW,seval]
  rw[sG];rfl
theorem JN.ok(hc:de P f=some ef):JN.Spec (Pure P) f:=by
 intro l g fs cs is hl hg
 have hpart:∀x:Gr,bF (Gr.cells x) 0 (some 2)=some (.agg (Gr.cells x)):=fun x=>rfl
 have hlen:∀x:Gr,(Gr.cells x).length=2:=fun x=>rfl
 cases hany:(l.getD []).any is with
 |false=>
  refine⟨-1,rfl,?_⟩
  refine aB hm hc (by show 2<=19;decide) (ax (keep:=[]) (i:=0) ?_)
  try simp only[I,B,D,RX,↓KW,seval,ef,Z.H,gU]
  refine aH (fun k:Nat=>(⟨[(8,.dat (I k) none),(7,.dat (I ((l.getD []).length:Nat)) none),(1,.dat (.fn (.func g) fs cs) none),(0,.dat (aD Gr.cells l) none)],[],[],400⟩:S)) (fun k=>(l.getD []).length-k) (fun k=>k<=(l.getD []).length) ?_ 0 (by omega) ?_
  ·intro k hk A back
   have hwr:=aF (k:=k) (by omega)
   try simp only[I,B,D,RX,↓KW,seval]
   refine aq (fun h2=>?_) (fun h2=>?_)<;>try simp only[I,B,D,RX,↓KW,seval,h2]
   ·have h8:k<(l.getD []).length:=by have:=of_decide_eq_true h2;omega
    obtain⟨x,hx⟩:∃x,(l.getD [])[k]? =some x:=⟨_,List.getElem?_eq_getElem h8⟩
    have hno:is x=false:=List.any_eq_false.1 hany x (List.mem_of_getElem? hx)|>Bool.eq_false_iff.2
    have hgx:=hg x (List.mem_of_getElem? hx)
    rw[hno]at hgx;try simp only[I,B,D,RX,↓KW,seval,iG,hx,hpart,hlen]
    refine⟨by omega,?_⟩
    refine ai hgx ?_;try simp only[I,B,D,RX,↓KW,seval]
    refine back (k+1) _ (by omega) (by omega) ?_
    refine ah (by decide) ?_ ?_ ?_ ?_<;>simp[LX,I,B,D,hwr]
  ·refine ah (by decide) ?_ ?_ ?_ ?_<;>simp[LX,I,B,D]
 |true=>
  obtain⟨n,hn,hxn⟩:∃n,n<(l.getD []).length/\(∃x,(l.getD [])[n]? =some x/\is x=true)/\((l.getD []).take n).any is=false:=oT hany
  obtain⟨⟨xn,hxn,hisn⟩,hpre⟩:=hxn
  refine⟨n,by simp,?_⟩
  refine aB hm hc (by show 2<=19;decide) (ax (keep:=[]) (i:=0) ?_)
  try simp only[I,B,D,RX,↓KW,seval,ef,Z.H,gU]
  refine aH (fun k:Nat=>(⟨[(8,.dat (I k) none),(7,.dat (I ((l.getD []).length:Nat)) none),(1,.dat (.fn (.func g) fs cs) none),(0,.dat (aD Gr.cells l) none)],[],[],400⟩:S)) (fun k=>n-k) (fun k=>k<=n) ?_ 0 (by omega) ?_
  ·intro k hk A back
   have hwr:=aF (k:=k) (by omega)
   have h8:k<(l.getD []).length:=by omega
   have h2:decide ((k:Int)<((l.getD []).length:Nat))=true:=by simp;omega
   obtain⟨x,hx⟩:∃x,(l.getD [])[k]? =some x:=⟨_,List.getElem?_eq_getElem h8⟩
   have hgx:=hg x (List.mem_of_getElem? hx)
   try simp only[I,B,D,RX,↓KW,seval,h2,iG,hx,hpart,hlen]
   refine⟨by omega,?_⟩
   by_cases e:k=n
   ·subst e
    have:x=xn:=by rw[hx]at hxn;exact Option.some.inj hxn
    subst this;rw[hisn]at hgx;refine ai hgx ?_;try simp only[I,B,D,RX,↓KW,seval]
   ·have hno:is x=false:=by
     refine Bool.eq_false_iff.2 (List.any_eq_false.1 hpre x ?_)
     refine List.mem_of_getElem? (i:=k) ?_
     rw[List.getElem?_take,if_pos (by omega)];exact hx
    rw[hno]at hgx;refine ai hgx ?_;try simp only[I,B,D,RX,↓KW,seval]
    refine back (k+1) _ (by omega) (by omega) ?_
    refine ah (by decide) ?_ ?_ ?_ ?_<;>simp[LX,I,B,D,hwr]
  ·refine ah (by decide) ?_ ?_ ?_ ?_<;>simp[LX,I,B,D]
theorem JO.ok{fI:Nat} (hc:de P f=some (fU fI)) (hI:JN.Spec (Pure P) fI):JO.Spec (Pure P) f:=by
 intro l g fs cs is hl hg;obtain⟨n,hn,hcall⟩:=hI l g fs cs is hl hg
 refine aB hm hc (by show 2<=9;decide) (ax (keep:=[]) (i:=0) ?_)
 try simp only[I,B,D,RX,↓KW,seval,fU,Z.H]
 refine ai hcall ?_;try simp only[I,B,D,RX,↓KW,seval,hn]
theorem JP.ok(hc:de P f=some ku):JP.Spec (Pure P) f:=by
 intro x g fs cs r hg
 have hpart:∀x:Gr,bF (Gr.cells x) 0 (some 2)=some (.agg (Gr.cells x)):=fun x=>rfl
 have hlen:∀x:Gr,(Gr.cells x).length=2:=fun x=>rfl
 refine aB hm hc (by show 2<=8;decide) (ax (keep:=[]) (i:=0) ?_)
 try simp only[I,B,D,RX,↓KW,seval,ku,Z.H,hpart,hlen]
 refine ai hg ?_;try simp only[I,B,D,RX,↓KW,seval]
theorem Vr.ok{f1 fC:Nat} (hc:de P f=some (lG f1 fC)) (h1:JP.Spec (Pure P) f1) (hC:JO.Spec (Pure P) fC):Vr.Spec (Pure P) f:=by
 intro l most g fs cs is hm' hg
 refine aB hm hc (by show 3<=17;decide) (ax (keep:=[]) (i:=0) ?_)
 try simp only[I,B,D,RX,↓KW,seval,lG,Z.H,gU]
 cases hl:decide (((l.getD []).length:Int)<=most)
 ·try simp only[I,B,D,RX,↓KW,seval,hl]
  rfl
 ·have:=of_decide_eq_true hl
  try simp only[I,B,D,RX,↓KW,seval,hl]
  refine⟨rfl,?_⟩
  refine ai (hC l f1 [] [.ref [.fn (.func g) fs cs]] (fun x=>!is x) (by omega) (fun x hx=>h1 x g fs cs (is x) (hg x hx))) ?_
  try simp only[I,B,D,RX,↓KW,seval]
  rw[sG];rfl
theorem JQ.ok(hc:de P f=some cu):JQ.Spec (Pure P) f:=by
 intro l g fs cs is hl hg
 have hpart:∀x:fy,bF (fy.cells x) 0 (some 7)=some (.agg (fy.cells x)):=fun x=>rfl
 have hlen:∀x:fy,(fy.cells x).length=7:=fun x=>rfl
 cases hany:(l.getD []).any is with
 |false=>
  refine⟨-1,rfl,?_⟩
  refine aB hm hc (by show 2<=19;decide) (ax (keep:=[]) (i:=0) ?_)
  try simp only[I,B,D,RX,↓KW,seval,cu,Z.H,gU]
  refine aH (fun k:Nat=>(⟨[(8,.dat (I k) none),(7,.dat (I ((l.getD []).length:Nat)) none),(1,.dat (.fn (.func g) fs cs) none),(0,.dat (aD fy.cells l) none)],[],[],400⟩:S)) (fun k=>(l.getD []).length-k) (fun k=>k<=(l.getD []).length) ?_ 0 (by omega) ?_
  ·intro k hk A back
   have hwr:=aF (k:=k) (by omega)
   try simp only[I,B,D,RX,↓KW,seval]
   refine aq (fun h2=>?_) (fun h2=>?_)<;>try simp only[I,B,D,RX,↓KW,seval,h2]
   ·have h8:k<(l.getD []).length:=by have:=of_decide_eq_true h2;omega
    obtain⟨x,hx⟩:∃x,(l.getD [])[k]? =some x:=⟨_,List.getElem?_eq_getElem h8⟩
    have hno:is x=false:=List.any_eq_false.1 hany x (List.mem_of_getElem? hx)|>Bool.eq_false_iff.2
    have hgx:=hg x (List.mem_of_getElem? hx)
    rw[hno]at hgx;try simp only[I,B,D,RX,↓KW,seval,iG,hx,hpart,hlen]
    refine⟨by omega,?_⟩
    refine ai hgx ?_;try simp only[I,B,D,RX,↓KW,seval]
    refine back (k+1) _ (by omega) (by omega) ?_
    refine ah (by decide) ?_ ?_ ?_ ?_<;>simp[LX,I,B,D,hwr]
  ·refine ah (by decide) ?_ ?_ ?_ ?_<;>simp[LX,I,B,D]
 |true=>
  obtain⟨n,hn,hxn⟩:∃n,n<(l.getD []).length/\(∃x,(l.getD [])[n]? =some x/\is x=true)/\((l.getD []).take n).any is=false:=oT hany
  obtain⟨⟨xn,hxn,hisn⟩,hpre⟩:=hxn
  refine⟨n,by simp,?_⟩
  refine aB hm hc (by show 2<=19;decide) (ax (keep:=[]) (i:=0) ?_)
  try simp only[I,B,D,RX,↓KW,seval,cu,Z.H,gU]
  refine aH (fun k:Nat=>(⟨[(8,.dat (I k) none),(7,.dat (I ((l.getD []).length:Nat)) none),(1,.dat (.fn (.func g) fs cs) none),(0,.dat (aD fy.cells l) none)],[],[],400⟩:S)) (fun k=>n-k) (fun k=>k<=n) ?_ 0 (by omega) ?_
  ·intro k hk A back
   have hwr:=aF (k:=k) (by omega)
   have h8:k<(l.getD []).length:=by omega
   have h2:decide ((k:Int)<((l.getD []).length:Nat))=true:=by simp;omega
   obtain⟨x,hx⟩:∃x,(l.getD [])[k]? =some x:=⟨_,List.getElem?_eq_getElem h8⟩
   have hgx:=hg x (List.mem_of_getElem? hx)
   try simp only[I,B,D,RX,↓KW,seval,h2,iG,hx,hpart,hlen]
   refine⟨by omega,?_⟩
   by_cases e:k=n
   ·subst e
    have:x=xn:=by rw[hx]at hxn;exact Option.some.inj hxn
    subst this;rw[hisn]at hgx;refine ai hgx ?_;try simp only[I,B,D,RX,↓KW,seval]
   ·have hno:is x=false:=by
     refine Bool.eq_false_iff.2 (List.any_eq_false.1 hpre x ?_)
     refine List.mem_of_getElem? (i:=k) ?_
     rw[List.getElem?_take,if_pos (by omega)];exact hx
    rw[hno]at hgx;refine ai hgx ?_;try simp only[I,B,D,RX,↓KW,seval]
    refine back (k+1) _ (by omega) (by omega) ?_
    refine ah (by decide) ?_ ?_ ?_ ?_<;>simp[LX,I,B,D,hwr]
  ·refine ah (by decide) ?_ ?_ ?_ ?_<;>simp[LX,I,B,D]
theorem JR.ok{fI:Nat} (hc:de P f=some (dr fI)) (hI:JQ.Spec (Pure P) fI):JR.Spec (Pure P) f:=by
 intro l g fs cs is hl hg;obtain⟨n,hn,hcall⟩:=hI l g fs cs is hl hg
 refine aB hm hc (by show 2<=9;decide) (ax (keep:=[]) (i:=0) ?_)
 try simp only[I,B,D,RX,↓KW,seval,dr,Z.H]
 refine ai hcall ?_;try simp only[I,B,D,RX,↓KW,seval,hn]
theorem JS.ok(hc:de P f=some gJ):JS.Spec (Pure P) f:=by
 intro x g fs cs r hg
 have hpart:∀x:fy,bF (fy.cells x) 0 (some 7)=some (.agg (fy.cells x)):=fun x=>rfl
 have hlen:∀x:fy,(fy.cells x).length=7:=fun x=>rfl
 refine aB hm hc (by show 2<=8;decide) (ax (keep:=[]) (i:=0) ?_)
 try simp only[I,B,D,RX,↓KW,seval,gJ,Z.H,hpart,hlen]
 refine ai hg ?_;try simp only[I,B,D,RX,↓KW,seval]
theorem Vs.ok{f1 fC:Nat} (hc:de P f=some (iu f1 fC)) (h1:JS.Spec (Pure P) f1) (hC:JR.Spec (Pure P) fC):Vs.Spec (Pure P) f:=by
 intro l most g fs cs is hm' hg
 refine aB hm hc (by show 3<=17;decide) (ax (keep:=[]) (i:=0) ?_)
 try simp only[I,B,D,RX,↓KW,seval,iu,Z.H,gU]
 cases hl:decide (((l.getD []).length:Int)<=most)
 ·try simp only[I,B,D,RX,↓KW,seval,hl]
  rfl
 ·have:=of_decide_eq_true hl
  try simp only[I,B,D,RX,↓KW,seval,hl]
  refine⟨rfl,?_⟩
  refine ai (hC l f1 [] [.ref [.fn (.func g) fs cs]] (fun x=>!is x) (by omega) (fun x hx=>h1 x g fs cs (is x) (hg x hx))) ?_
  try simp only[I,B,D,RX,↓KW,seval]
  rw[sG];rfl
theorem JT.ok(hc:de P f=some dm):JT.Spec (Pure P) f:=by
 intro l g fs cs is hl hg
 have hpart:∀x:Rl,bF (Rl.cells x) 0 (some 11)=some (.agg (Rl.cells x)):=fun x=>rfl
 have hlen:∀x:Rl,(Rl.cells x).length=11:=fun x=>rfl
 cases hany:(l.getD []).any is with
 |false=>
  refine⟨-1,rfl,?_⟩
  refine aB hm hc (by show 2<=19;decide) (ax (keep:=[]) (i:=0) ?_)
  try simp only[I,B,D,RX,↓KW,seval,dm,Z.H,gU]
  refine aH (fun k:Nat=>(⟨[(8,.dat (I k) none),(7,.dat (I ((l.getD []).length:Nat)) none),(1,.dat (.fn (.func g) fs cs) none),(0,.dat (aD Rl.cells l) none)],[],[],400⟩:S)) (fun k=>(l.getD []).length-k) (fun k=>k<=(l.getD []).length) ?_ 0 (by omega) ?_
  ·intro k hk A back
   have hwr:=aF (k:=k) (by omega)
   try simp only[I,B,D,RX,↓KW,seval]
   refine aq (fun h2=>?_) (fun h2=>?_)<;>try simp only[I,B,D,RX,↓KW,seval,h2]
   ·have h8:k<(l.getD []).length:=by have:=of_decide_eq_true h2;omega
    obtain⟨x,hx⟩:∃x,(l.getD [])[k]? =some x:=⟨_,List.getElem?_eq_getElem h8⟩
    have hno:is x=false:=List.any_eq_false.1 hany x (List.mem_of_getElem? hx)|>Bool.eq_false_iff.2
    have hgx:=hg x (List.mem_of_getElem? hx)
    rw[hno]at hgx;try simp only[I,B,D,RX,↓KW,seval,iG,hx,hpart,hlen]
    refine⟨by omega,?_⟩
    refine ai hgx ?_;try simp only[I,B,D,RX,↓KW,seval]
    refine back (k+1) _ (by omega) (by omega) ?_
    refine ah (by decide) ?_ ?_ ?_ ?_<;>simp[LX,I,B,D,hwr]
  ·refine ah (by decide) ?_ ?_ ?_ ?_<;>simp[LX,I,B,D]
 |true=>
  obtain⟨n,hn,hxn⟩:∃n,n<(l.getD []).length/\(∃x,(l.getD [])[n]? =some x/\is x=true)/\((l.getD []).take n).any is=false:=oT hany
  obtain⟨⟨xn,hxn,hisn⟩,hpre⟩:=hxn
  refine⟨n,by simp,?_⟩
  refine aB hm hc (by show 2<=19;decide) (ax (keep:=[]) (i:=0) ?_)
  try simp only[I,B,D,RX,↓KW,seval,dm,Z.H,gU]
  refine aH (fun k:Nat=>(⟨[(8,.dat (I k) none),(7,.dat (I ((l.getD []).length:Nat)) none),(1,.dat (.fn (.func g) fs cs) none),(0,.dat (aD Rl.cells l) none)],[],[],400⟩:S)) (fun k=>n-k) (fun k=>k<=n) ?_ 0 (by omega) ?_
  ·intro k hk A back
   have hwr:=aF (k:=k) (by omega)
   have h8:k<(l.getD []).length:=by omega
   have h2:decide ((k:Int)<((l.getD []).length:Nat))=true:=by simp;omega
   obtain⟨x,hx⟩:∃x,(l.getD [])[k]? =some x:=⟨_,List.getElem?_eq_getElem h8⟩
   have hgx:=hg x (List.mem_of_getElem? hx)
   try simp only[I,B,D,RX,↓KW,seval,h2,iG,hx,hpart,hlen]
   refine⟨by omega,?_⟩
   by_cases e:k=n
   ·subst e
    have:x=xn:=by rw[hx]at hxn;exact Option.some.inj hxn
    subst this;rw[hisn]at hgx;refine ai hgx ?_;try simp only[I,B,D,RX,↓KW,seval]
   ·have hno:is x=false:=by
     refine Bool.eq_false_iff.2 (List.any_eq_false.1 hpre x ?_)
     refine List.mem_of_getElem? (i:=k) ?_
     rw[List.getElem?_take,if_pos (by omega)];exact hx
    rw[hno]at hgx;refine ai hgx ?_;try simp only[I,B,D,RX,↓KW,seval]
    refine back (k+1) _ (by omega) (by omega) ?_
    refine ah (by decide) ?_ ?_ ?_ ?_<;>simp[LX,I,B,D,hwr]
  ·refine ah (by decide) ?_ ?_ ?_ ?_<;>simp[LX,I,B,D]
theorem JU.ok{fI:Nat} (hc:de P f=some (eu fI)) (hI:JT.Spec (Pure P) fI):JU.Spec (Pure P) f:=by
 intro l g fs cs is hl hg;obtain⟨n,hn,hcall⟩:=hI l g fs cs is hl hg
 refine aB hm hc (by show 2<=9;decide) (ax (keep:=[]) (i:=0) ?_)
 try simp only[I,B,D,RX,↓KW,seval,eu,Z.H]
 refine ai hcall ?_;try simp only[I,B,D,RX,↓KW,seval,hn]
theorem JV.ok(hc:de P f=some jf):JV.Spec (Pure P) f:=by
 intro x g fs cs r hg
 have hpart:∀x:Rl,bF (Rl.cells x) 0 (some 11)=some (.agg (Rl.cells x)):=fun x=>rfl
 have hlen:∀x:Rl,(Rl.cells x).length=11:=fun x=>rfl
 refine aB hm hc (by show 2<=8;decide) (ax (keep:=[]) (i:=0) ?_)
 try simp only[I,B,D,RX,↓KW,seval,jf,Z.H,hpart,hlen]
 refine ai hg ?_;try simp only[I,B,D,RX,↓KW,seval]
theorem Vt.ok{f1 fC:Nat} (hc:de P f=some (jW f1 fC)) (h1:JV.Spec (Pure P) f1) (hC:JU.Spec (Pure P) fC):Vt.Spec (Pure P) f:=by
 intro l most g fs cs is hm' hg
 refine aB hm hc (by show 3<=17;decide) (ax (keep:=[]) (i:=0) ?_)
 try simp only[I,B,D,RX,↓KW,seval,jW,Z.H,gU]
 cases hl:decide (((l.getD []).length:Int)<=most)
 ·try simp only[I,B,D,RX,↓KW,seval,hl]
  rfl
 ·have:=of_decide_eq_true hl
  try simp only[I,B,D,RX,↓KW,seval,hl]
  refine⟨rfl,?_⟩
  refine ai (hC l f1 [] [.ref [.fn (.func g) fs cs]] (fun x=>!is x) (by omega) (fun x hx=>h1 x g fs cs (is x) (hg x hx))) ?_
  try simp only[I,B,D,RX,↓KW,seval]
  rw[sG];rfl
theorem JW.ok(hc:de P f=some dH):JW.Spec (Pure P) f:=by
 intro l g fs cs is hl hg
 have hpart:∀x:Bs,bF (Bs.cells x) 0 (some 2)=some (.agg (Bs.cells x)):=fun x=>rfl
 have hlen:∀x:Bs,(Bs.cells x).length=2:=fun x=>rfl
 cases hany:(l.getD []).any is with
 |false=>
  refine⟨-1,rfl,?_⟩
  refine aB hm hc (by show 2<=19;decide) (ax (keep:=[]) (i:=0) ?_)
  try simp only[I,B,D,RX,↓KW,seval,dH,Z.H,gU]
  refine aH (fun k:Nat=>(⟨[(8,.dat (I k) none),(7,.dat (I ((l.getD []).length:Nat)) none),(1,.dat (.fn (.func g) fs cs) none),(0,.dat (aD Bs.cells l) none)],[],[],400⟩:S)) (fun k=>(l.getD []).length-k) (fun k=>k<=(l.getD []).length) ?_ 0 (by omega) ?_
  ·intro k hk A back
   have hwr:=aF (k:=k) (by omega)
   try simp only[I,B,D,RX,↓KW,seval]
   refine aq (fun h2=>?_) (fun h2=>?_)<;>try simp only[I,B,D,RX,↓KW,seval,h2]
   ·have h8:k<(l.getD []).length:=by have:=of_decide_eq_true h2;omega
    obtain⟨x,hx⟩:∃x,(l.getD [])[k]? =some x:=⟨_,List.getElem?_eq_getElem h8⟩
    have hno:is x=false:=List.any_eq_false.1 hany x (List.mem_of_getElem? hx)|>Bool.eq_false_iff.2
    have hgx:=hg x (List.mem_of_getElem? hx)
    rw[hno]at hgx;try simp only[I,B,D,RX,↓KW,seval,iG,hx,hpart,hlen]
    refine⟨by omega,?_⟩
    refine ai hgx ?_;try simp only[I,B,D,RX,↓KW,seval]
    refine back (k+1) _ (by omega) (by omega) ?_
    refine ah (by decide) ?_ ?_ ?_ ?_<;>simp[LX,I,B,D,hwr]
  ·refine ah (by decide) ?_ ?_ ?_ ?_<;>simp[LX,I,B,D]
 |true=>
  obtain⟨n,hn,hxn⟩:∃n,n<(l.getD []).length/\(∃x,(l.getD [])[n]? =some x/\is x=true)/\((l.getD []).take n).any is=false:=oT hany
  obtain⟨⟨xn,hxn,hisn⟩,hpre⟩:=hxn
  refine⟨n,by simp,?_⟩
  refine aB hm hc (by show 2<=19;decide) (ax (keep:=[]) (i:=0) ?_)
  try simp only[I,B,D,RX,↓KW,seval,dH,Z.H,gU]
  refine aH (fun k:Nat=>(⟨[(8,.dat (I k) none),(7,.dat (I ((l.getD []).length:Nat)) none),(1,.dat (.fn (.func g) fs cs) none),(0,.dat (aD Bs.cells l) none)],[],[],400⟩:S)) (fun k=>n-k) (fun k=>k<=n) ?_ 0 (by omega) ?_
  ·intro k hk A back
   have hwr:=aF (k:=k) (by omega)
   have h8:k<(l.getD []).length:=by omega
   have h2:decide ((k:Int)<((l.getD []).length:Nat))=true:=by simp;omega
   obtain⟨x,hx⟩:∃x,(l.getD [])[k]? =some x:=⟨_,List.getElem?_eq_getElem h8⟩
   have hgx:=hg x (List.mem_of_getElem? hx)
   try simp only[I,B,D,RX,↓KW,seval,h2,iG,hx,hpart,hlen]
   refine⟨by omega,?_⟩
   by_cases e:k=n
   ·subst e
    have:x=xn:=by rw[hx]at hxn;exact Option.some.inj hxn
    subst this;rw[hisn]at hgx;refine ai hgx ?_;try simp only[I,B,D,RX,↓KW,seval]
   ·have hno:is x=false:=by
     refine Bool.eq_false_iff.2 (List.any_eq_false.1 hpre x ?_)
     refine List.mem_of_getElem? (i:=k) ?_
     rw[List.getElem?_take,if_pos (by omega)];exact hx
    rw[hno]at hgx;refine ai hgx ?_;try simp only[I,B,D,RX,↓KW,seval]
    refine back (k+1) _ (by omega) (by omega) ?_
    refine ah (by decide) ?_ ?_ ?_ ?_<;>simp[LX,I,B,D,hwr]
  ·refine ah (by decide) ?_ ?_ ?_ ?_<;>simp[LX,I,B,D]
theorem JX.ok{fI:Nat} (hc:de P f=some (eP fI)) (hI:JW.Spec (Pure P) fI):JX.Spec (Pure P) f:=by
 intro l g fs cs is hl hg;obtain⟨n,hn,hcall⟩:=hI l g fs cs is hl hg
 refine aB hm hc (by show 2<=9;decide) (ax (keep:=[]) (i:=0) ?_)
 try simp only[I,B,D,RX,↓KW,seval,eP,Z.H]
 refine ai hcall ?_;try simp only[I,B,D,RX,↓KW,seval,hn]
theorem JY.ok(hc:de P f=some jB):JY.Spec (Pure P) f:=by
 intro x g fs cs r hg
 have hpart:∀x:Bs,bF (Bs.cells x) 0 (some 2)=some (.agg (Bs.cells x)):=fun x=>rfl
 have hlen:∀x:Bs,(Bs.cells x).length=2:=fun x=>rfl
 refine aB hm hc (by show 2<=8;decide) (ax (keep:=[]) (i:=0) ?_)
 try simp only[I,B,D,RX,↓KW,seval,jB,Z.H,hpart,hlen]
 refine ai hg ?_;try simp only[I,B,D,RX,↓KW,seval]
theorem Vu.ok{f1 fC:Nat} (hc:de P f=some (kr f1 fC)) (h1:JY.Spec (Pure P) f1) (hC:JX.Spec (Pure P) fC):Vu.Spec (Pure P) f:=by
 intro l most g fs cs is hm' hg
 refine aB hm hc (by show 3<=17;decide) (ax (keep:=[]) (i:=0) ?_)
 try simp only[I,B,D,RX,↓KW,seval,kr,Z.H,gU]
 cases hl:decide (((l.getD []).length:Int)<=most)
 ·try simp only[I,B,D,RX,↓KW,seval,hl]
  rfl
 ·have:=of_decide_eq_true hl
  try simp only[I,B,D,RX,↓KW,seval,hl]
  refine⟨rfl,?_⟩
  refine ai (hC l f1 [] [.ref [.fn (.func g) fs cs]] (fun x=>!is x) (by omega) (fun x hx=>h1 x g fs cs (is x) (hg x hx))) ?_
  try simp only[I,B,D,RX,↓KW,seval]
  rw[sG];rfl
end
theorem ur{α:Type} {g:α->List AV} {z:Nat} (hg:∀x,(g x).length=z):∀(l:List α) (rest:List AV),bZ z l.length (l.flatMap g++rest)=l.map g
 |[],rest=>rfl
 |x::l,rest=>by
  simp only[List.length_cons,bZ,List.flatMap_cons,List.append_assoc,List.map_cons];rw[List.take_left' (hg x),List.drop_left' (hg x),ur hg l rest]
theorem zK(l:List Int) (rest:List AV):bZ 1 l.length (l.map I++rest)=l.map aA:=by
 have e:l.map I=l.flatMap aA:=by
  induction l with
  |nil=>rfl
  |cons a l ih=>rw[List.map_cons,List.flatMap_cons,ih];rfl
 rw[e]
 exact ur (g:=aA) (z:=1) (fun _=>rfl) l rest
section
variable{t:Tb} (h:t.Ln)
include h
theorem Ri:bZ 13 8 t.cells=t.phases.map Ph.cells:=by
 have:=ur (g:=Ph.cells) (z:=13) Ph.len t.phases
 rw[h.phases]at this;exact this _
theorem pR:t.cells.drop 105=t.conflict.map I++(aD fy.cells t.az::aD Rl.cells t.aR::aD Bs.cells t.aX::
  I t.extend::I t.cU::I t.start::I t.revert::I t.least::(t.bp.map I++[I t.dw,I t.share])):=by
 have e:(t.phases.flatMap Ph.cells).length=104:=by rw[aY Ph.len,h.phases]
 have e2:t.cells.drop 105=(t.cells.drop 104).drop 1:=by rw[List.drop_drop]
 rw[e2,Tb.cells,List.drop_left' e];rfl
theorem EU:bZ 1 8 (t.cells.drop 105)=t.conflict.map aA:=by
 have:=zK t.conflict
 rw[h.conflict]at this;rw[pR h];exact this _
theorem EX:bZ 1 8 (t.cells.drop 121)=t.bp.map aA:=by
 have:=zK t.bp
 rw[h.bp]at this
 have e:t.cells.drop 121=(t.cells.drop 105).drop 16:=by rw[List.drop_drop]
 have e2:∀l:List AV,l.drop 16=(l.drop 8).drop 8:=fun l=>by rw[List.drop_drop]
 rw[e,pR h,e2,List.drop_left' (by simp[h.conflict])];exact this _
theorem zL:t.cells[104]? =some (aD Gr.cells t.groups):=by
 simp[Tb.cells,List.getElem?_append,aY Ph.len,h.phases,h.conflict,h.bp,List.getElem?_cons]
theorem vD:t.cells[116]? =some (I t.extend)/\t.cells[117]? =some (I t.cU)/\t.cells[118]? =some (I t.start)/\t.cells[119]? =some (I t.revert)/\t.cells[120]? =some (I t.least)/\t.cells[129]? =some (I t.dw)/\t.cells[130]? =some (I t.share):=by
 refine⟨?_,?_,?_,?_,?_,?_,?_⟩<;>simp[Tb.cells,List.getElem?_append,aY Ph.len,h.phases,h.conflict,h.bp,List.getElem?_cons]
end
theorem cz{cs:List AV} {j:Nat} {v:AV} (h:cs[j]? =some v):(cs.drop j)[0]? =some v:=by rw[List.getElem?_drop];exact h
def rG(p:Ph):Bool:=[p.min,p.As,p.max,p.top,p.step,p.dO,p.red,p.walk,p.ee].all (wI 9999)&&[p.gy].all (wI 3)
def lU(l:Option (List Int)):Bool:=decide (((l.getD []).length:Int)<=8)&&(l.getD []).all fun p=>[p].all (wI 7)
def nU(g:Gr):Bool:=lU g.a&&lU g.b
def lvl(x:Nat):Bool:=Jj x 0&&MO x 4696837146684686336
def Nt(x:Nat):Bool:=decide (IntKind.i64.wrap (x:Int)<0)
def eJ(x:Nat):Bool:=GX x&& !Nt x
def gF(d:fy):Bool:=(((([d.phase].all (wI 7)&&lvl d.on)&&lvl d.off)&&eJ d.delay)&&eJ d.extend)&&[d.maxOn,d.iF].all (wI 9999)
def tG(r:Rl):Bool:=([r.bars,r.clear,r.iq,r.exit].all (wI 255)&&[r.delay,r.green,r.ke,r.hold,r.stay,r.most].all (wI 9999))&&[r.limit].all (wI 2147483647)
def tH(b:Bs):Bool:=[b.set].all (wI 255)&&[b.lock].all (wI 9999)
def oU(t:Tb):Bool:=
 (((((((t.phases.all rG&&(decide (((t.groups.getD []).length:Int)<=4)&&(t.groups.getD []).all nU))&&t.conflict.all (wI 255))&&
  (decide (((t.az.getD []).length:Int)<=16)&&(t.az.getD []).all gF))&&(decide (((t.aR.getD []).length:Int)<=4)&&(t.aR.getD []).all tG))&&
  (decide (((t.aX.getD []).length:Int)<=4)&&(t.aX.getD []).all tH))&&[t.extend,t.cU,t.start,t.revert,t.least].all (wI 9999))&&t.bp.all (wI 2))&&[t.dw,t.share].all (wI 2147483647)
def fy.Fw(d:fy):Prop:=d.on<2^64/\d.off<2^64/\d.delay<2^64/\d.extend<2^64
def Tb.Fw(t:Tb):Prop:=∀d∈t.az.getD [],d.Fw
def DC.Spec(C:bw) (f:Nat):Prop:=∀m n:Int,C.c f [I n,.ref [I m]] (B (wI m n)) none
def within.Spec(C:bw) (f:Nat):Prop:=∀(m:Int) (l:Option (List Int)),(l.getD []).length<=1000000->C.c f [I m,aD aA l] (B ((l.getD []).all (wI m))) none
def pS.Spec(C:bw) (f:Nat):Prop:=∀l:Option (List Int),(l.getD []).length<=1000000->C.c f [aD aA l] (B ((l.getD []).all (wI 9999))) none
def zM.Spec(C:bw) (f:Nat):Prop:=∀p:Ph,C.c f [.agg p.cells] (B (rG p)) none
def JZ.Spec(C:bw) (f:Nat):Prop:=∀p:Int,C.c f [I p] (B ([p].all (wI 7))) none
def Vv.Spec(C:bw) (f:Nat):Prop:=∀l:Option (List Int),C.c f [aD aA l] (B (lU l)) none
def zN.Spec(C:bw) (f:Nat):Prop:=∀g:Gr,C.c f [.agg g.cells] (B (nU g)) none
def Sj.Spec(C:bw) (f:Nat):Prop:=∀x:Nat,C.c f [Fl x] (B (Nt x)) none
def DD.Spec(C:bw) (f:Nat):Prop:=∀x:Nat,x<2^64->C.c f [Fl x] (B (eJ x)) none
def DE.Spec(C:bw) (f:Nat):Prop:=∀x:Nat,C.c f [Fl x] (B (lvl x)) none
def J0.Spec(C:bw) (f:Nat):Prop:=∀d:fy,d.Fw->C.c f [.agg d.cells] (B (gF d)) none
def DG.Spec(C:bw) (f:Nat):Prop:=∀r:Rl,C.c f [.agg r.cells] (B (tG r)) none
def J1.Spec(C:bw) (f:Nat):Prop:=∀b:Bs,C.c f [.agg b.cells] (B (tH b)) none
def Hi.Spec(C:bw) (f:Nat):Prop:=∀t:Tb,t.Ln->t.Fw->C.c f [.agg t.cells] (B (oU t)) none
section
variable{P:Program} (hm:P.follows .mixedOrders=true) {f:Nat}
include hm
theorem DC.ok(hc:de P f=some nR):DC.Spec (Pure P) f:=by
 intro m n;rw[wI]
 refine aB hm hc (by show 2<=11;decide) (ax (keep:=[]) (i:=0) ?_)
 try simp only[I,B,D,RX,↓KW,Nat.reduceBEq,Nat.reduceAdd,Nat.reduceLeDiff,Int.reduceNe,Int.reduceBEq,Int.reduceEq,reduceCtorEq,Nat.reduceMul,Int.reduceLT,Int.reduceLE,Int.reduceToNat,nR,Z.H]
 cases h:decide (n>=0)
 ·try simp only[I,B,D,RX,↓KW,Nat.reduceBEq,Nat.reduceAdd,Nat.reduceLeDiff,Int.reduceNe,Int.reduceBEq,Int.reduceEq,reduceCtorEq,Nat.reduceMul,Int.reduceLT,Int.reduceLE,Int.reduceToNat,h]
  rfl
 ·try simp only[I,B,D,RX,↓KW,Nat.reduceBEq,Nat.reduceAdd,Nat.reduceLeDiff,Int.reduceNe,Int.reduceBEq,Int.reduceEq,reduceCtorEq,Nat.reduceMul,Int.reduceLT,Int.reduceLE,Int.reduceToNat,h]
  rfl
theorem within.ok{f1 fE:Nat} (hc:de P f=some (qb f1 fE)) (h1:DC.Spec (Pure P) f1) (hE:Si.Spec (Pure P) fE):within.Spec (Pure P) f:=by
 intro m l hl
 have h2:decide (((l.getD []).length:Int)<=((l.getD []).length:Nat))=true:=by simp
 have he:=hE l ((l.getD []).length:Nat) f1 [] [.ref [I m]] (wI m) (by omega) (fun x _=>h1 m x)
 rw[h2,Bool.true_and]at he
 refine aB hm hc (by show 2<=10;decide) (ax (keep:=[]) (i:=0) ?_)
 try simp only[I,B,D,RX,↓KW,Nat.reduceBEq,Nat.reduceAdd,Nat.reduceLeDiff,Int.reduceNe,Int.reduceBEq,Int.reduceEq,reduceCtorEq,Nat.reduceMul,Int.reduceLT,Int.reduceLE,Int.reduceToNat,qb,Z.H,gU]
 refine⟨rfl,?_⟩;refine ai he ?_;try simp only[I,B,D,RX,↓KW,Nat.reduceBEq,Nat.reduceAdd,Nat.reduceLeDiff,Int.reduceNe,Int.reduceBEq,Int.reduceEq,reduceCtorEq,Nat.reduceMul,Int.reduceLT,Int.reduceLE,Int.reduceToNat]
theorem pS.ok{fW:Nat} (hc:de P f=some (rD fW)) (hW:within.Spec (Pure P) fW):pS.Spec (Pure P) f:=by
 intro l hl
 refine aB hm hc (by show 1<=5;decide) (ax (keep:=[]) (i:=0) ?_)
 try simp only[I,B,D,RX,↓KW,Nat.reduceBEq,Nat.reduceAdd,Nat.reduceLeDiff,Int.reduceNe,Int.reduceBEq,Int.reduceEq,reduceCtorEq,Nat.reduceMul,Int.reduceLT,Int.reduceLE,Int.reduceToNat,rD,Z.H]
 refine ai (hW 9999 l hl) ?_;try simp only[I,B,D,RX,↓KW,Nat.reduceBEq,Nat.reduceAdd,Nat.reduceLeDiff,Int.reduceNe,Int.reduceBEq,Int.reduceEq,reduceCtorEq,Nat.reduceMul,Int.reduceLT,Int.reduceLE,Int.reduceToNat]
theorem zM.ok{e fT fW:Nat} (hc:de P f=some (nr e fT fW)) (hT:pS.Spec (Pure P) fT) (hW:within.Spec (Pure P) fW):zM.Spec (Pure P) f:=by
 intro p
 have ht:=hT (some [p.min,p.As,p.max,p.top,p.step,p.dO,p.red,p.walk,p.ee]) (by simp)
 have hw:=hW 3 (some [p.gy]) (by simp)
 simp only[Option.getD_some]at ht hw;generalize hb1:[p.min,p.As,p.max,p.top,p.step,p.dO,p.red,p.walk,p.ee].all (wI 9999)=b1 at ht;generalize hb2:[p.gy].all (wI 3)=b2 at hw;rw[rG,hb1,hb2];clear hb1 hb2
 refine aB hm hc (by show 1<=29;decide) (ax (keep:=[]) (i:=0) ?_)
 try simp only[I,B,D,RX,↓KW,Nat.reduceBEq,Nat.reduceAdd,Nat.reduceLeDiff,Int.reduceNe,Int.reduceBEq,Int.reduceEq,reduceCtorEq,Nat.reduceMul,Int.reduceLT,Int.reduceLE,Int.reduceToNat,nr,Z.H,Ph.cells]
 refine ai ht ?_;cases b1
 ·try simp only[I,B,D,RX,↓KW,Nat.reduceBEq,Nat.reduceAdd,Nat.reduceLeDiff,Int.reduceNe,Int.reduceBEq,Int.reduceEq,reduceCtorEq,Nat.reduceMul,Int.reduceLT,Int.reduceLE,Int.reduceToNat]
  rfl
 ·try simp only[I,B,D,RX,↓KW,Nat.reduceBEq,Nat.reduceAdd,Nat.reduceLeDiff,Int.reduceNe,Int.reduceBEq,Int.reduceEq,reduceCtorEq,Nat.reduceMul,Int.reduceLT,Int.reduceLE,Int.reduceToNat]
  refine ai hw ?_;try simp only[I,B,D,RX,↓KW,Nat.reduceBEq,Nat.reduceAdd,Nat.reduceLeDiff,Int.reduceNe,Int.reduceBEq,Int.reduceEq,reduceCtorEq,Nat.reduceMul,Int.reduceLT,Int.reduceLE,Int.reduceToNat]
  rfl
theorem JZ.ok{e fW:Nat} (hc:de P f=some (jN e fW)) (hW:within.Spec (Pure P) fW):JZ.Spec (Pure P) f:=by
 intro p
 refine aB hm hc (by show 1<=6;decide) (ax (keep:=[]) (i:=0) ?_)
 try simp only[I,B,D,RX,↓KW,Nat.reduceBEq,Nat.reduceAdd,Nat.reduceLeDiff,Int.reduceNe,Int.reduceBEq,Int.reduceEq,reduceCtorEq,Nat.reduceMul,Int.reduceLT,Int.reduceLE,Int.reduceToNat,jN,Z.H]
 refine ai (hW 7 (some [p]) (by simp)) ?_
 try simp only[I,B,D,RX,↓KW,Nat.reduceBEq,Nat.reduceAdd,Nat.reduceLeDiff,Int.reduceNe,Int.reduceBEq,Int.reduceEq,reduceCtorEq,Nat.reduceMul,Int.reduceLT,Int.reduceLE,Int.reduceToNat]
 rfl
theorem Vv.ok{fE f1:Nat} (hc:de P f=some (oQ fE f1)) (hE:Si.Spec (Pure P) fE) (h1:JZ.Spec (Pure P) f1):Vv.Spec (Pure P) f:=by
 intro l
 refine aB hm hc (by show 1<=5;decide) (ax (keep:=[]) (i:=0) ?_)
 try simp only[I,B,D,RX,↓KW,Nat.reduceBEq,Nat.reduceAdd,Nat.reduceLeDiff,Int.reduceNe,Int.reduceBEq,Int.reduceEq,reduceCtorEq,Nat.reduceMul,Int.reduceLT,Int.reduceLE,Int.reduceToNat,oQ,Z.H]
 refine ai (hE l 8 f1 [] [] (fun p=>[p].all (wI 7)) (by omega) (fun p _=>h1 p)) ?_
 try simp only[I,B,D,RX,↓KW,Nat.reduceBEq,Nat.reduceAdd,Nat.reduceLeDiff,Int.reduceNe,Int.reduceBEq,Int.reduceEq,reduceCtorEq,Nat.reduceMul,Int.reduceLT,Int.reduceLE,Int.reduceToNat]
 rfl
theorem zN.ok{f1:Nat} (hc:de P f=some (rC f1)) (h1:Vv.Spec (Pure P) f1):zN.Spec (Pure P) f:=by
 intro g
 have ha:=h1 g.a
 have hb:=h1 g.b
 rw[nU];generalize lU g.a=b1 at*;generalize lU g.b=b2 at*
 refine aB hm hc (by show 1<=14;decide) (ax (keep:=[]) (i:=0) ?_)
 try simp only[I,B,D,RX,↓KW,Nat.reduceBEq,Nat.reduceAdd,Nat.reduceLeDiff,Int.reduceNe,Int.reduceBEq,Int.reduceEq,reduceCtorEq,Nat.reduceMul,Int.reduceLT,Int.reduceLE,Int.reduceToNat,rC,Z.H,Gr.cells]
 refine⟨by omega,?_⟩
 refine ai ha ?_;cases b1
 ·try simp only[I,B,D,RX,↓KW,Nat.reduceBEq,Nat.reduceAdd,Nat.reduceLeDiff,Int.reduceNe,Int.reduceBEq,Int.reduceEq,reduceCtorEq,Nat.reduceMul,Int.reduceLT,Int.reduceLE,Int.reduceToNat]
  rfl
 ·try simp only[I,B,D,RX,↓KW,Nat.reduceBEq,Nat.reduceAdd,Nat.reduceLeDiff,Int.reduceNe,Int.reduceBEq,Int.reduceEq,reduceCtorEq,Nat.reduceMul,Int.reduceLT,Int.reduceLE,Int.reduceToNat]
  refine⟨by omega,?_⟩
  refine ai hb ?_;try simp only[I,B,D,RX,↓KW,Nat.reduceBEq,Nat.reduceAdd,Nat.reduceLeDiff,Int.reduceNe,Int.reduceBEq,Int.reduceEq,reduceCtorEq,Nat.reduceMul,Int.reduceLT,Int.reduceLE,Int.reduceToNat]
  rfl
theorem Sj.ok(hc:de P f=some qc):Sj.Spec (Pure P) f:=by
 intro x
 refine aB hm hc (by show 1<=7;decide) (ax (keep:=[]) (i:=0) ?_)
 try simp only[I,B,D,RX,↓KW,Nat.reduceBEq,Nat.reduceAdd,Nat.reduceLeDiff,Int.reduceNe,Int.reduceBEq,Int.reduceEq,reduceCtorEq,Nat.reduceMul,Int.reduceLT,Int.reduceLE,Int.reduceToNat,qc,Z.H]
 rfl
theorem DD.ok{fT fS:Nat} (hc:de P f=some (oR fT fS)) (hT:zn.Spec (Pure P) fT) (hS:Sj.Spec (Pure P) fS):DD.Spec (Pure P) f:=by
 intro x hx
 have ht:=hT x hx
 rw[xN]at ht;rw[eJ]
 have hs:=hS x
 generalize GX x=b1 at*;generalize Nt x=b2 at*
 refine aB hm hc (by show 1<=16;decide) (ax (keep:=[]) (i:=0) ?_)
 try simp only[I,B,D,RX,↓KW,Nat.reduceBEq,Nat.reduceAdd,Nat.reduceLeDiff,Int.reduceNe,Int.reduceBEq,Int.reduceEq,reduceCtorEq,Nat.reduceMul,Int.reduceLT,Int.reduceLE,Int.reduceToNat,oR,Z.H]
 refine ai ht ?_;cases b1
 ·try simp only[I,B,D,RX,↓KW,Nat.reduceBEq,Nat.reduceAdd,Nat.reduceLeDiff,Int.reduceNe,Int.reduceBEq,Int.reduceEq,reduceCtorEq,Nat.reduceMul,Int.reduceLT,Int.reduceLE,Int.reduceToNat]
  rfl
 ·try simp only[I,B,D,RX,↓KW,Nat.reduceBEq,Nat.reduceAdd,Nat.reduceLeDiff,Int.reduceNe,Int.reduceBEq,Int.reduceEq,reduceCtorEq,Nat.reduceMul,Int.reduceLT,Int.reduceLE,Int.reduceToNat]
  refine ai hs ?_;try simp only[I,B,D,RX,↓KW,Nat.reduceBEq,Nat.reduceAdd,Nat.reduceLeDiff,Int.reduceNe,Int.reduceBEq,Int.reduceEq,reduceCtorEq,Nat.reduceMul,Int.reduceLT,Int.reduceLE,Int.reduceToNat]
  rfl
theorem DE.ok(hc:de P f=some mb):DE.Spec (Pure P) f:=by
 intro x
 refine aB hm hc (by show 1<=9;decide) (ax (keep:=[]) (i:=0) ?_)
 try simp only[I,B,D,RX,↓KW,Nat.reduceBEq,Nat.reduceAdd,Nat.reduceLeDiff,Int.reduceNe,Int.reduceBEq,Int.reduceEq,reduceCtorEq,Nat.reduceMul,Int.reduceLT,Int.reduceLE,Int.reduceToNat,mb,Z.H,Eb]
 rw[lvl];generalize Jj x 0=b1 at*;cases b1
 ·try simp only[I,B,D,RX,↓KW,Nat.reduceBEq,Nat.reduceAdd,Nat.reduceLeDiff,Int.reduceNe,Int.reduceBEq,Int.reduceEq,reduceCtorEq,Nat.reduceMul,Int.reduceLT,Int.reduceLE,Int.reduceToNat]
  rfl
 ·try simp only[I,B,D,RX,↓KW,Nat.reduceBEq,Nat.reduceAdd,Nat.reduceLeDiff,Int.reduceNe,Int.reduceBEq,Int.reduceEq,reduceCtorEq,Nat.reduceMul,Int.reduceLT,Int.reduceLE,Int.reduceToNat,Eb]
  rfl
theorem J0.ok{f1 e fW fS fT:Nat} (hc:de P f=some (kq f1 e fW fS fT)) (h1:DE.Spec (Pure P) f1) (hW:within.Spec (Pure P) fW) (hS:DD.Spec (Pure P) fS) (hT:pS.Spec (Pure P) fT):J0.Spec (Pure P) f:=by
 intro d hd
 have c1:=hW 7 (some [d.phase]) (by simp)
 have c2:=h1 d.on
 have c3:=h1 d.off
 have c4:=hS d.delay hd.2.2.1
 have c5:=hS d.extend hd.2.2.2
 have c6:=hT (some [d.maxOn,d.iF]) (by simp)
 simp only[Option.getD_some]at c1 c6;rw[gF];generalize[d.phase].all (wI 7)=b1 at*;generalize lvl d.on=b2 at*;generalize lvl d.off=b3 at*;generalize eJ d.delay=b4 at*;generalize eJ d.extend=b5 at*;generalize[d.maxOn,d.iF].all (wI 9999)=b6 at*
 refine aB hm hc (by show 1<=38;decide) (ax (keep:=[]) (i:=0) ?_)
 try simp only[I,B,D,RX,↓KW,Nat.reduceBEq,Nat.reduceAdd,Nat.reduceLeDiff,Int.reduceNe,Int.reduceBEq,Int.reduceEq,reduceCtorEq,Nat.reduceMul,Int.reduceLT,Int.reduceLE,Int.reduceToNat,kq,Z.H,fy.cells]
 refine ai c1 ?_;cases b1
 ·try simp only[I,B,D,RX,↓KW,Nat.reduceBEq,Nat.reduceAdd,Nat.reduceLeDiff,Int.reduceNe,Int.reduceBEq,Int.reduceEq,reduceCtorEq,Nat.reduceMul,Int.reduceLT,Int.reduceLE,Int.reduceToNat]
  rfl
 try simp only[I,B,D,RX,↓KW,Nat.reduceBEq,Nat.reduceAdd,Nat.reduceLeDiff,Int.reduceNe,Int.reduceBEq,Int.reduceEq,reduceCtorEq,Nat.reduceMul,Int.reduceLT,Int.reduceLE,Int.reduceToNat]
 refine ai c2 ?_;cases b2
 ·try simp only[I,B,D,RX,↓KW,Nat.reduceBEq,Nat.reduceAdd,Nat.reduceLeDiff,Int.reduceNe,Int.reduceBEq,Int.reduceEq,reduceCtorEq,Nat.reduceMul,Int.reduceLT,Int.reduceLE,Int.reduceToNat]
  rfl
 try simp only[I,B,D,RX,↓KW,Nat.reduceBEq,Nat.reduceAdd,Nat.reduceLeDiff,Int.reduceNe,Int.reduceBEq,Int.reduceEq,reduceCtorEq,Nat.reduceMul,Int.reduceLT,Int.reduceLE,Int.reduceToNat]
 refine ai c3 ?_;cases b3
 ·try simp only[I,B,D,RX,↓KW,Nat.reduceBEq,Nat.reduceAdd,Nat.reduceLeDiff,Int.reduceNe,Int.reduceBEq,Int.reduceEq,reduceCtorEq,Nat.reduceMul,Int.reduceLT,Int.reduceLE,Int.reduceToNat]
  rfl
 try simp only[I,B,D,RX,↓KW,Nat.reduceBEq,Nat.reduceAdd,Nat.reduceLeDiff,Int.reduceNe,Int.reduceBEq,Int.reduceEq,reduceCtorEq,Nat.reduceMul,Int.reduceLT,Int.reduceLE,Int.reduceToNat]
 refine ai c4 ?_;cases b4
 ·try simp only[I,B,D,RX,↓KW,Nat.reduceBEq,Nat.reduceAdd,Nat.reduceLeDiff,Int.reduceNe,Int.reduceBEq,Int.reduceEq,reduceCtorEq,Nat.reduceMul,Int.reduceLT,Int.reduceLE,Int.reduceToNat]
  rfl
 try simp only[I,B,D,RX,↓KW,Nat.reduceBEq,Nat.reduceAdd,Nat.reduceLeDiff,Int.reduceNe,Int.reduceBEq,Int.reduceEq,reduceCtorEq,Nat.reduceMul,Int.reduceLT,Int.reduceLE,Int.reduceToNat]
 refine ai c5 ?_;cases b5
 ·try simp only[I,B,D,RX,↓KW,Nat.reduceBEq,Nat.reduceAdd,Nat.reduceLeDiff,Int.reduceNe,Int.reduceBEq,Int.reduceEq,reduceCtorEq,Nat.reduceMul,Int.reduceLT,Int.reduceLE,Int.reduceToNat]
  rfl
 try simp only[I,B,D,RX,↓KW,Nat.reduceBEq,Nat.reduceAdd,Nat.reduceLeDiff,Int.reduceNe,Int.reduceBEq,Int.reduceEq,reduceCtorEq,Nat.reduceMul,Int.reduceLT,Int.reduceLE,Int.reduceToNat]
 refine ai c6 ?_;try simp only[I,B,D,RX,↓KW,Nat.reduceBEq,Nat.reduceAdd,Nat.reduceLeDiff,Int.reduceNe,Int.reduceBEq,Int.reduceEq,reduceCtorEq,Nat.reduceMul,Int.reduceLT,Int.reduceLE,Int.reduceToNat]
 rfl
theorem DG.ok{e fW fT:Nat} (hc:de P f=some (oe e fW fT)) (hW:within.Spec (Pure P) fW) (hT:pS.Spec (Pure P) fT):DG.Spec (Pure P) f:=by
 intro r
 have c1:=hW 255 (some [r.bars,r.clear,r.iq,r.exit]) (by simp)
 have c2:=hT (some [r.delay,r.green,r.ke,r.hold,r.stay,r.most]) (by simp)
 have c3:=hW 2147483647 (some [r.limit]) (by simp)
 simp only[Option.getD_some]at c1 c2 c3;rw[tG];generalize[r.bars,r.clear,r.iq,r.exit].all (wI 255)=b1 at*;generalize[r.delay,r.green,r.ke,r.hold,r.stay,r.most].all (wI 9999)=b2 at*;generalize[r.limit].all (wI 2147483647)=b3 at*
 refine aB hm hc (by show 1<=35;decide) (ax (keep:=[]) (i:=0) ?_)
 try simp only[I,B,D,RX,↓KW,Nat.reduceBEq,Nat.reduceAdd,Nat.reduceLeDiff,Int.reduceNe,Int.reduceBEq,Int.reduceEq,reduceCtorEq,Nat.reduceMul,Int.reduceLT,Int.reduceLE,Int.reduceToNat,oe,Z.H,Rl.cells]
 refine ai c1 ?_;cases b1
 ·try simp only[I,B,D,RX,↓KW,Nat.reduceBEq,Nat.reduceAdd,Nat.reduceLeDiff,Int.reduceNe,Int.reduceBEq,Int.reduceEq,reduceCtorEq,Nat.reduceMul,Int.reduceLT,Int.reduceLE,Int.reduceToNat]
  rfl
 try simp only[I,B,D,RX,↓KW,Nat.reduceBEq,Nat.reduceAdd,Nat.reduceLeDiff,Int.reduceNe,Int.reduceBEq,Int.reduceEq,reduceCtorEq,Nat.reduceMul,Int.reduceLT,Int.reduceLE,Int.reduceToNat]
 refine ai c2 ?_;cases b2
 ·try simp only[I,B,D,RX,↓KW,Nat.reduceBEq,Nat.reduceAdd,Nat.reduceLeDiff,Int.reduceNe,Int.reduceBEq,Int.reduceEq,reduceCtorEq,Nat.reduceMul,Int.reduceLT,Int.reduceLE,Int.reduceToNat]
  rfl
 try simp only[I,B,D,RX,↓KW,Nat.reduceBEq,Nat.reduceAdd,Nat.reduceLeDiff,Int.reduceNe,Int.reduceBEq,Int.reduceEq,reduceCtorEq,Nat.reduceMul,Int.reduceLT,Int.reduceLE,Int.reduceToNat]
 refine ai c3 ?_;try simp only[I,B,D,RX,↓KW,Nat.reduceBEq,Nat.reduceAdd,Nat.reduceLeDiff,Int.reduceNe,Int.reduceBEq,Int.reduceEq,reduceCtorEq,Nat.reduceMul,Int.reduceLT,Int.reduceLE,Int.reduceToNat]
 rfl
theorem J1.ok{e fW fT:Nat} (hc:de P f=some (pQ e fW fT)) (hW:within.Spec (Pure P) fW) (hT:pS.Spec (Pure P) fT):J1.Spec (Pure P) f:=by
 intro b
 have c1:=hW 255 (some [b.set]) (by simp)
 have c2:=hT (some [b.lock]) (by simp)
 simp only[Option.getD_some]at c1 c2;rw[tH];generalize[b.set].all (wI 255)=b1 at*;generalize[b.lock].all (wI 9999)=b2 at*
 refine aB hm hc (by show 1<=13;decide) (ax (keep:=[]) (i:=0) ?_)
 try simp only[I,B,D,RX,↓KW,Nat.reduceBEq,Nat.reduceAdd,Nat.reduceLeDiff,Int.reduceNe,Int.reduceBEq,Int.reduceEq,reduceCtorEq,Nat.reduceMul,Int.reduceLT,Int.reduceLE,Int.reduceToNat,pQ,Z.H,Bs.cells]
 refine ai c1 ?_;cases b1
 ·try simp only[I,B,D,RX,↓KW,Nat.reduceBEq,Nat.reduceAdd,Nat.reduceLeDiff,Int.reduceNe,Int.reduceBEq,Int.reduceEq,reduceCtorEq,Nat.reduceMul,Int.reduceLT,Int.reduceLE,Int.reduceToNat]
  rfl
 try simp only[I,B,D,RX,↓KW,Nat.reduceBEq,Nat.reduceAdd,Nat.reduceLeDiff,Int.reduceNe,Int.reduceBEq,Int.reduceEq,reduceCtorEq,Nat.reduceMul,Int.reduceLT,Int.reduceLE,Int.reduceToNat]
 refine ai c2 ?_;try simp only[I,B,D,RX,↓KW,Nat.reduceBEq,Nat.reduceAdd,Nat.reduceLeDiff,Int.reduceNe,Int.reduceBEq,Int.reduceEq,reduceCtorEq,Nat.reduceMul,Int.reduceLT,Int.reduceLE,Int.reduceToNat]
 rfl
theorem Hi.ok{fEP fP fEG fG fW fED fD fER fR fEB fB e fT:Nat} (hc:de P f=some (pP fEP fP fEG fG fW fED fD fER fR fEB fB e fT)) (hEP:Vq.Spec (Pure P) fEP) (hP:zM.Spec (Pure P) fP) (hEG:Vr.Spec (Pure P) fEG) (hG:zN.Spec (Pure P) fG)
  (hW:within.Spec (Pure P) fW) (hED:Vs.Spec (Pure P) fED) (hD:J0.Spec (Pure P) fD) (hER:Vt.Spec (Pure P) fER) (hR:DG.Spec (Pure P) fR) (hEB:Vu.Spec (Pure P) fEB) (hB:J1.Spec (Pure P) fB) (hT:pS.Spec (Pure P) fT):Hi.Spec (Pure P) f:=by
 intro t h hfw
 have c1:=hEP (some t.phases) 8 fP [] [] rG (by decide) (fun p _=>hP p)
 have c2:=hEG t.groups 4 fG [] [] nU (by decide) (fun g _=>hG g)
 have c3:=hW 255 (some t.conflict) (by simp[h.conflict])
 have c4:=hED t.az 16 fD [] [] gF (by decide) (fun d hd=>hD d (hfw d hd))
 have c5:=hER t.aR 4 fR [] [] tG (by decide) (fun g _=>hR g)
 have c6:=hEB t.aX 4 fB [] [] tH (by decide) (fun g _=>hB g)
 have c7:=hT (some [t.extend,t.cU,t.start,t.revert,t.least]) (by simp)
 have c8:=hW 2 (some t.bp) (by simp[h.bp])
 have c9:=hW 2147483647 (some [t.dw,t.share]) (by simp)
 simp only[Option.getD_some]at c1 c2 c3 c4 c5 c6 c7 c8 c9
 have h8:decide ((t.phases.length:Int)<=8)=true:=by simp[h.phases]
 rw[h8,Bool.true_and]at c1;rw[oU];generalize t.phases.all rG=b1 at*;generalize(decide (((t.groups.getD []).length:Int)<=4)&&(t.groups.getD []).all nU)=b2 at*;generalize t.conflict.all (wI 255)=b3 at*;generalize(decide (((t.az.getD []).length:Int)<=16)&&(t.az.getD []).all gF)=b4 at*
 generalize(decide (((t.aR.getD []).length:Int)<=4)&&(t.aR.getD []).all tG)=b5 at*;generalize(decide (((t.aX.getD []).length:Int)<=4)&&(t.aX.getD []).all tH)=b6 at*;generalize[t.extend,t.cU,t.start,t.revert,t.least].all (wI 9999)=b7 at*;generalize t.bp.all (wI 2)=b8 at*
 generalize[t.dw,t.share].all (wI 2147483647)=b9 at*
 have hw:=h.whole
 have hl:=h.len
 have k1:=Ri h
 have k2:=EU h
 have k3:=EX h
 have g1:=cz (zL h)
 have g2:=cz h.xC
 have g3:=cz h.vz
 have g4:=cz h.xD
 obtain⟨n1,n2,n3,n4,n5,n6,n7⟩:=vD h
 have m1:=cz n1
 have m2:=cz n2
 have m3:=cz n3
 have m4:=cz n4
 have m5:=cz n5
 have m6:=cz n6
 have m7:=cz n7
 refine aB hm hc (by show 1<=58;decide) (ax (keep:=[]) (i:=0) ?_)
 try simp only[I,B,D,RX,↓KW,Nat.reduceBEq,Nat.reduceAdd,Nat.reduceLeDiff,Int.reduceNe,Int.reduceBEq,Int.reduceEq,reduceCtorEq,Nat.reduceMul,Int.reduceLT,Int.reduceLE,Int.reduceToNat,pP,Z.H,hl,k1,k2,k3,g1,g2,g3,g4,m1,m2,m3,m4,m5,m6,m7,List.drop_zero,List.length_drop]
 refine ai c1 ?_;cases b1
 ·try simp only[I,B,D,RX,↓KW,Nat.reduceBEq,Nat.reduceAdd,Nat.reduceLeDiff,Int.reduceNe,Int.reduceBEq,Int.reduceEq,reduceCtorEq,Nat.reduceMul,Int.reduceLT,Int.reduceLE,Int.reduceToNat,hl,k1,k2,k3,g1,g2,g3,g4,m1,m2,m3,m4,m5,m6,m7,List.drop_zero,List.length_drop]
  rfl
 try simp only[I,B,D,RX,↓KW,Nat.reduceBEq,Nat.reduceAdd,Nat.reduceLeDiff,Int.reduceNe,Int.reduceBEq,Int.reduceEq,reduceCtorEq,Nat.reduceMul,Int.reduceLT,Int.reduceLE,Int.reduceToNat,hl,k1,k2,k3,g1,g2,g3,g4,m1,m2,m3,m4,m5,m6,m7,List.drop_zero,List.length_drop]
 refine ai c2 ?_;cases b2
 ·try simp only[I,B,D,RX,↓KW,Nat.reduceBEq,Nat.reduceAdd,Nat.reduceLeDiff,Int.reduceNe,Int.reduceBEq,Int.reduceEq,reduceCtorEq,Nat.reduceMul,Int.reduceLT,Int.reduceLE,Int.reduceToNat,hl,k1,k2,k3,g1,g2,g3,g4,m1,m2,m3,m4,m5,m6,m7,List.drop_zero,List.length_drop]
  rfl
 try simp only[I,B,D,RX,↓KW,Nat.reduceBEq,Nat.reduceAdd,Nat.reduceLeDiff,Int.reduceNe,Int.reduceBEq,Int.reduceEq,reduceCtorEq,Nat.reduceMul,Int.reduceLT,Int.reduceLE,Int.reduceToNat,hl,k1,k2,k3,g1,g2,g3,g4,m1,m2,m3,m4,m5,m6,m7,List.drop_zero,List.length_drop]
 refine⟨by omega,?_⟩
 refine ai c3 ?_;cases b3
 ·try simp only[I,B,D,RX,↓KW,Nat.reduceBEq,Nat.reduceAdd,Nat.reduceLeDiff,Int.reduceNe,Int.reduceBEq,Int.reduceEq,reduceCtorEq,Nat.reduceMul,Int.reduceLT,Int.reduceLE,Int.reduceToNat,hl,k1,k2,k3,g1,g2,g3,g4,m1,m2,m3,m4,m5,m6,m7,List.drop_zero,List.length_drop]
  rfl
 try simp only[I,B,D,RX,↓KW,Nat.reduceBEq,Nat.reduceAdd,Nat.reduceLeDiff,Int.reduceNe,Int.reduceBEq,Int.reduceEq,reduceCtorEq,Nat.reduceMul,Int.reduceLT,Int.reduceLE,Int.reduceToNat,hl,k1,k2,k3,g1,g2,g3,g4,m1,m2,m3,m4,m5,m6,m7,List.drop_zero,List.length_drop]
 refine ai c4 ?_;cases b4
 ·try simp only[I,B,D,RX,↓KW,Nat.reduceBEq,Nat.reduceAdd,Nat.reduceLeDiff,Int.reduceNe,Int.reduceBEq,Int.reduceEq,reduceCtorEq,Nat.reduceMul,Int.reduceLT,Int.reduceLE,Int.reduceToNat,hl,k1,k2,k3,g1,g2,g3,g4,m1,m2,m3,m4,m5,m6,m7,List.drop_zero,List.length_drop]
  rfl
 try simp only[I,B,D,RX,↓KW,Nat.reduceBEq,Nat.reduceAdd,Nat.reduceLeDiff,Int.reduceNe,Int.reduceBEq,Int.reduceEq,reduceCtorEq,Nat.reduceMul,Int.reduceLT,Int.reduceLE,Int.reduceToNat,hl,k1,k2,k3,g1,g2,g3,g4,m1,m2,m3,m4,m5,m6,m7,List.drop_zero,List.length_drop]
 refine ai c5 ?_;cases b5
 ·try simp only[I,B,D,RX,↓KW,Nat.reduceBEq,Nat.reduceAdd,Nat.reduceLeDiff,Int.reduceNe,Int.reduceBEq,Int.reduceEq,reduceCtorEq,Nat.reduceMul,Int.reduceLT,Int.reduceLE,Int.reduceToNat,hl,k1,k2,k3,g1,g2,g3,g4,m1,m2,m3,m4,m5,m6,m7,List.drop_zero,List.length_drop]
  rfl
 try simp only[I,B,D,RX,↓KW,Nat.reduceBEq,Nat.reduceAdd,Nat.reduceLeDiff,Int.reduceNe,Int.reduceBEq,Int.reduceEq,reduceCtorEq,Nat.reduceMul,Int.reduceLT,Int.reduceLE,Int.reduceToNat,hl,k1,k2,k3,g1,g2,g3,g4,m1,m2,m3,m4,m5,m6,m7,List.drop_zero,List.length_drop]
 refine ai c6 ?_;cases b6
 ·try simp only[I,B,D,RX,↓KW,Nat.reduceBEq,Nat.reduceAdd,Nat.reduceLeDiff,Int.reduceNe,Int.reduceBEq,Int.reduceEq,reduceCtorEq,Nat.reduceMul,Int.reduceLT,Int.reduceLE,Int.reduceToNat,hl,k1,k2,k3,g1,g2,g3,g4,m1,m2,m3,m4,m5,m6,m7,List.drop_zero,List.length_drop]
  rfl
 try simp only[I,B,D,RX,↓KW,Nat.reduceBEq,Nat.reduceAdd,Nat.reduceLeDiff,Int.reduceNe,Int.reduceBEq,Int.reduceEq,reduceCtorEq,Nat.reduceMul,Int.reduceLT,Int.reduceLE,Int.reduceToNat,hl,k1,k2,k3,g1,g2,g3,g4,m1,m2,m3,m4,m5,m6,m7,List.drop_zero,List.length_drop]
 refine ai c7 ?_;cases b7
 ·try simp only[I,B,D,RX,↓KW,Nat.reduceBEq,Nat.reduceAdd,Nat.reduceLeDiff,Int.reduceNe,Int.reduceBEq,Int.reduceEq,reduceCtorEq,Nat.reduceMul,Int.reduceLT,Int.reduceLE,Int.reduceToNat,hl,k1,k2,k3,g1,g2,g3,g4,m1,m2,m3,m4,m5,m6,m7,List.drop_zero,List.length_drop]
  rfl
 try simp only[I,B,D,RX,↓KW,Nat.reduceBEq,Nat.reduceAdd,Nat.reduceLeDiff,Int.reduceNe,Int.reduceBEq,Int.reduceEq,reduceCtorEq,Nat.reduceMul,Int.reduceLT,Int.reduceLE,Int.reduceToNat,hl,k1,k2,k3,g1,g2,g3,g4,m1,m2,m3,m4,m5,m6,m7,List.drop_zero,List.length_drop]
 refine⟨by omega,?_⟩
 refine ai c8 ?_;cases b8
 ·try simp only[I,B,D,RX,↓KW,Nat.reduceBEq,Nat.reduceAdd,Nat.reduceLeDiff,Int.reduceNe,Int.reduceBEq,Int.reduceEq,reduceCtorEq,Nat.reduceMul,Int.reduceLT,Int.reduceLE,Int.reduceToNat,hl,k1,k2,k3,g1,g2,g3,g4,m1,m2,m3,m4,m5,m6,m7,List.drop_zero,List.length_drop]
  rfl
 try simp only[I,B,D,RX,↓KW,Nat.reduceBEq,Nat.reduceAdd,Nat.reduceLeDiff,Int.reduceNe,Int.reduceBEq,Int.reduceEq,reduceCtorEq,Nat.reduceMul,Int.reduceLT,Int.reduceLE,Int.reduceToNat,hl,k1,k2,k3,g1,g2,g3,g4,m1,m2,m3,m4,m5,m6,m7,List.drop_zero,List.length_drop]
 refine ai c9 ?_;try simp only[I,B,D,RX,↓KW,Nat.reduceBEq,Nat.reduceAdd,Nat.reduceLeDiff,Int.reduceNe,Int.reduceBEq,Int.reduceEq,reduceCtorEq,Nat.reduceMul,Int.reduceLT,Int.reduceLE,Int.reduceToNat]
 rfl
end
def bk.rest'(r:bk):List Int:=(r.b.getD []).drop r.eM.toNat
def bk.go(r:bk) (n:Nat):bk:={r with eM:=r.eM+(n:Int)}
def qd(l:List Int):Prop:=∀x∈l,0<=x/\x<256
def bk.qd(r:bk):Prop:=Go.Eng.qd (r.b.getD [])
theorem x4{r:bk} (h:r.Ok) {l tl:List Int} (e:r.rest'=l++tl):(r.go l.length).rest'=tl:=by
 have h0:=h.1
 unfold bk.rest' bk.go at*
 show(r.b.getD []).drop (r.eM+(l.length:Int)).toNat=tl
 rw[show(r.eM+(l.length:Int)).toNat=r.eM.toNat+l.length by omega,<-List.drop_drop,e,List.drop_left]
theorem Oe(r:bk) (n m:Nat):(r.go n).go m=r.go (n+m):=by
 unfold bk.go;simp;omega
theorem FU(r:bk):r.go 0=r:=by unfold bk.go;simp
theorem oV{r:bk} (h:r.Ok):((r.rest').length:Int)=r.len-r.eM:=by
 obtain⟨h1,h2,h3⟩:=h;simp only[bk.len]at*;simp[bk.rest'];omega
structure Cd (α:Type) where
 m:bk->α×bk
 e:α->List Int
 v:α->Prop
 ok:∀r,r.Ok->(m r).2.Ok
 keep:∀r,(m r).2.b=r.b
 stay:∀r,r.code≠0->(m r).2=r
 back:∀r x tl,r.Ok->r.code=0->v x->r.rest'=e x++tl->m r=(x,r.go (e x).length)
 wrote:∀r,r.Ok->r.qd->r.code=0->(m r).2.code=0->v (m r).1/\∃tl,r.rest'=e (m r).1++tl/\(m r).2=r.go (e (m r).1).length
 cut:∀r x tl,r.Ok->r.code=0->v x->e x=r.rest'++tl->tl≠[]->(m r).2.code=2/\(m r).2.EN=r.len
 Nu:∀x,qd (e x)
section
variable{α β:Type}
def Cd.seq(a:Cd α) (b:α->Cd β):Cd (α×β) where
 m r:=(((a.m r).1,((b (a.m r).1).m (a.m r).2).1),((b (a.m r).1).m (a.m r).2).2)
 e x:=a.e x.1++(b x.1).e x.2
 v x:=a.v x.1/\(b x.1).v x.2
 ok r h:=(b _).ok _ (a.ok r h)
 keep r:=((b _).keep _).trans (a.keep r)
 stay r h:=by
  have e:=a.stay r h
  exact((b (a.m r).1).stay (a.m r).2 (by rw[e];exact h)).trans e
 back r x tl hr h0 hv he:=by
  rw[List.append_assoc]at he
  have h1:=a.back r x.1 _ hr h0 hv.1 he
  have hr2:(r.go (a.e x.1).length).Ok:=by have:=a.ok r hr;rw[h1]at this;exact this
  have h2:=(b x.1).back (r.go (a.e x.1).length) x.2 tl hr2 h0 hv.2 (x4 hr he)
  simp only[h1,h2,Oe,List.length_append]
 wrote r hr hb h0 hc:=by
  by_cases hc1:(a.m r).2.code=0
  ·obtain⟨v1,tl1,e1,g1⟩:=a.wrote r hr hb h0 hc1
   have hr2:=a.ok r hr
   obtain⟨v2,tl2,e2,g2⟩:=(b (a.m r).1).wrote (a.m r).2 hr2 (by unfold bk.qd;rw[a.keep];exact hb) hc1 hc
   refine⟨⟨v1,v2⟩,tl2,?_,?_⟩
   ·rw[List.append_assoc,<-e2,e1,g1,x4 hr e1]
   ·show((b (a.m r).1).m (a.m r).2).2=_
    rw[g2,List.length_append,<-Oe,<-g1]
  ·exfalso
   have:=(b (a.m r).1).stay (a.m r).2 hc1
   rw[this]at hc;exact hc1 hc
 cut r x tl hr h0 hv he ht:=by
  have up:∀c,a.e x.1=r.rest'++c->c≠[]->((b (a.m r).1).m (a.m r).2).2.code=2/\((b (a.m r).1).m (a.m r).2).2.EN=r.len:=by
   intro c hc hn;obtain⟨h1,h2⟩:=a.cut r x.1 c hr h0 hv.1 hc hn
   rw[(b (a.m r).1).stay (a.m r).2 (by rw[h1];decide)]
   exact⟨h1,h2⟩
  have dn:∀c,r.rest'=a.e x.1++c->(b x.1).e x.2=c++tl->((b (a.m r).1).m (a.m r).2).2.code=2/\((b (a.m r).1).m (a.m r).2).2.EN=r.len:=by
   intro c hc h2
   have h1:=a.back r x.1 _ hr h0 hv.1 hc
   have hr2:(r.go (a.e x.1).length).Ok:=by have:=a.ok r hr;rw[h1]at this;exact this
   rw[h1]
   exact(b x.1).cut (r.go (a.e x.1).length) x.2 tl hr2 h0 hv.2 (by rw[x4 hr hc];exact h2) ht
  rcases List.append_eq_append_iff.1 he with⟨c,h1,h2⟩|⟨c,h1,h2⟩
  ·exact dn c h1 h2
  ·by_cases hn:c=[]
   ·subst hn;exact dn [] (by simpa using h1.symm) (by simpa using h2.symm)
   ·exact up c h1 hn
 Nu x y hy:=by
  rcases List.mem_append.1 hy with h|h
  ·exact a.Nu _ y h
  ·exact(b _).Nu _ y h
def Cd.map(a:Cd α) (f:α->β) (g:β->α) (h:∀x,a.v x->g (f x)=x):Cd β where
 m r:=(f (a.m r).1,(a.m r).2)
 e y:=a.e (g y)
 v y:=a.v (g y)/\f (g y)=y
 ok:=a.ok
 keep:=a.keep
 stay:=a.stay
 back r y tl hr h0 hv he:=by simp only[a.back r (g y) tl hr h0 hv.1 he,hv.2]
 wrote r hr hb h0 hc:=by
  obtain⟨v1,tl,e1,g1⟩:=a.wrote r hr hb h0 hc
  have e:=h _ v1
  refine⟨⟨by rw[e];exact v1,by rw[e]⟩,tl,by rw[e];exact e1,by rw[e];exact g1⟩
 cut r y tl hr h0 hv he ht:=a.cut r (g y) tl hr h0 hv.1 he ht
 Nu y:=a.Nu (g y)
def Cd.none:Cd (List α) where
 m r:=([],r)
 e _:=[]
 v l:=l=[]
 ok r h:=h
 keep r:=rfl
 stay r h:=rfl
 back r x tl hr h0 hv he:=by subst hv;simp[FU]
 wrote r hr hb h0 hc:=⟨rfl,r.rest',rfl,by simp[FU]⟩
 cut r x tl hr h0 hv he ht:=by
  exfalso
  have:=congrArg List.length he
  simp at this
  exact ht (List.length_eq_zero_iff.1 (by omega))
 Nu x y hy:=by cases hy
def Cd.rep(c:Cd α):Nat->Cd (List α)
 |0=>Cd.none
 |n+1=>(c.seq fun _=>c.rep n).map (fun p=>p.1::p.2) (fun l=>(l.head?.getD (c.m ⟨Option.none,0,1,0⟩).1,l.tail)) (fun x _=>rfl)
theorem DH(c:Cd α):∀(n:Nat) (l:List α),l.length=n->(c.rep n).e l=l.flatMap c.e
 |0,[],_=>rfl
 |n+1,x::l,h=>by
  show c.e x++(c.rep n).e l=_
  rw[DH c n l (by simpa using h)];rfl
theorem FV(c:Cd α):∀(n:Nat) (l:List α),(c.rep n).v l↔l.length=n/\∀x∈l,c.v x
 |0,l=>by
  show l=[]↔_
  constructor
  ·rintro rfl;simp
  ·rintro⟨h,_⟩;simpa using h
 |n+1,[]=>by
  constructor
  ·rintro⟨_,h⟩;cases h
  ·rintro⟨h,_⟩;cases h
 |n+1,x::l=>by
  show((c.v x/\(c.rep n).v l)/\x::l=x::l)↔_
  rw[FV c n l];simp;constructor
  ·rintro⟨h1,h2,h3⟩;exact⟨h2,h1,h3⟩
  ·rintro⟨h2,h1,h3⟩;exact⟨h1,h2,h3⟩
def Cd.many(n:Cd Int) (c:Cd α) (hn:∀x,n.v x->0<=x):Cd (List α):=
 (n.seq fun k=>c.rep k.toNat).map (fun p=>p.2) (fun l=>((l.length:Int),l)) (fun x hx=>by
  obtain⟨k,l⟩:=x;obtain⟨h1,h2⟩:=hx
  have h3:=((FV c _ _).1 h2).1
  have:=hn _ h1
  simp only at h3⊢
  rw[h3,Int.toNat_of_nonneg this])
theorem zO{n:Cd Int} {c:Cd α} {hn:∀x,n.v x->0<=x} (l:List α):(Cd.many n c hn).v l↔n.v (l.length:Int)/\∀x∈l,c.v x:=by
 show((n.v (l.length:Int)/\(c.rep (l.length:Int).toNat).v l)/\l=l)↔_
 rw[FV];simp
theorem zP{n:Cd Int} {c:Cd α} {hn:∀x,n.v x->0<=x} (l:List α):(Cd.many n c hn).e l=n.e (l.length:Int)++l.flatMap c.e:=by
 show n.e (l.length:Int)++(c.rep (l.length:Int).toNat).e l=_
 rw[DH _ _ _ (by simp)]
end
theorem Ck{n m:Int}:∀(k:Nat),n%256^k=m%256^k->gn n k=gn m k
 |0,_=>rfl
 |k+1,h=>by
  have hp:=uh k
  have e:n%256^k=m%256^k:=by
   have:=congrArg (· %(256:Int)^k) h
   simp only[Int.pow_succ]at this
   rwa[Int.emod_emod_of_dvd _ (Int.dvd_mul_right _ _),Int.emod_emod_of_dvd _ (Int.dvd_mul_right _ _)]at this
  have d:n/256^k%256=m/256^k%256:=by
   have h1:=zC n k
   have h2:=zC m k
   rw[h,<-h2,e]at h1
   have h3:n/256^k%256*256^k=m/256^k%256*256^k:=by omega
   exact Int.eq_of_mul_eq_mul_right (by omega) h3
  show ep n k::gn n k=ep m k::gn m k
  rw[nq,nq,d,Ck k e]
theorem x5:∀(l:List Int),qd l->l.length<=8->∀v:Int,0<=v->v*256^l.length+256^l.length<=18446744073709551616->l.foldl jz v=v*256^l.length+eZ l/\0<=eZ l/\eZ l<256^l.length
 |[],_,_,v,_,_=>by simp[eZ]
 |c::l,hb,hl,v,hv,hx=>by
  have hp:=uh l.length
  have hc:=hb c List.mem_cons_self
  have hb':qd l:=fun x hx=>hb x (List.mem_cons_of_mem _ hx)
  have hl':l.length<=8:=by simp at hl;omega
  simp only[List.length_cons,Int.pow_succ]at hx⊢
  have i0:=x5 l hb' hl' c hc.1
  have i1:=x5 l hb' hl' (v*256+c)
  have e0:eZ (c::l)=l.foldl jz c:=by
   show l.foldl jz (jz 0 c)=_
   rw[vw (by omega) (by omega) hc.1 hc.2];simp
  have e1:(c::l).foldl jz v=l.foldl jz (jz v c):=rfl
  rw[e0,e1];generalize(256:Int)^l.length=b at hp hx i0 i1⊢
  have g1:v*256<=v*(b*256):=Int.mul_le_mul_of_nonneg_left (by omega) hv
  have g2:c*b<=255*b:=Int.mul_le_mul_of_nonneg_right (by omega) (by omega)
  have g3:(v*256+c)*b=v*(b*256)+c*b:=by rw[Int.add_mul,Int.mul_assoc,Int.mul_comm 256 b]
  have g4:0<=v*(b*256):=Int.mul_nonneg hv (by omega)
  have g5:0<=c*b:=Int.mul_nonneg hc.1 (by omega)
  obtain⟨j1,j2,j3⟩:=i0 (by omega)
  obtain⟨k1,_,_⟩:=i1 (by omega) (by omega)
  rw[vw hv (by omega) hc.1 hc.2,k1,j1,g3]
  refine⟨by omega,by omega,by omega⟩
theorem Vw{k:Nat} (h:k<=8):(256:Int)^k<=18446744073709551616:=by
 have:k=0\/k=1\/k=2\/k=3\/k=4\/k=5\/k=6\/k=7\/k=8:=by omega
 rcases this with rfl|rfl|rfl|rfl|rfl|rfl|rfl|rfl|rfl<;>decide
theorem x6{l:List Int} (hb:qd l) (hl:l.length<=8):0<=eZ l/\eZ l<256^l.length:=(x5 l hb hl 0 (by omega) (by have:=Vw hl;omega)).2
theorem rH:∀(l:List Int),qd l->l.length<=8->gn (eZ l) l.length=l
 |[],_,_=>rfl
 |c::l,hb,hl=>by
  have hc:=hb c List.mem_cons_self
  have hb':qd l:=fun x hx=>hb x (List.mem_cons_of_mem _ hx)
  have hl':l.length<=7:=by simp at hl;omega
  have hp:=uh l.length
  have e0:eZ (c::l)=c*256^l.length+eZ l:=by
   have:eZ (c::l)=l.foldl jz c:=by
    show l.foldl jz (jz 0 c)=_
    rw[vw (by omega) (by omega) hc.1 hc.2];simp
   rw[this]
   refine(x5 l hb' (by omega) c hc.1 ?_).1
   have h8:=Vw (k:=l.length+1) (by omega)
   rw[Int.pow_succ]at h8
   have:c*256^l.length<=255*256^l.length:=Int.mul_le_mul_of_nonneg_right (by omega) (by omega)
   omega
  have hin:=x6 hb' (by omega)
  have d:eZ (c::l)/256^l.length=c:=by
   rw[e0,Int.add_comm,Int.add_mul_ediv_right _ _ (by omega),Int.ediv_eq_zero_of_lt hin.1 hin.2];omega
  show ep (eZ (c::l)) l.length::gn (eZ (c::l)) l.length=c::l
  rw[nq,d,show c%256=c by omega]
  congr 1
  rw[<-rH l hb' (by omega)]
  rw[dA];refine Ck _ ?_
  rw[rH l hb' (by omega),e0]
  simp
theorem x7(n:Int):∀k,qd (gn n k)
 |0,x,h=>by cases h
 |k+1,x,h=>by
  rcases List.mem_cons.1 h with e|h
  ·subst e;rw[nq];omega
  ·exact x7 n k x h
theorem oW(r:bk) (h:r.Ok) (k:Nat):r.part (k:Int)=(r.rest').take k:=by
 have:=h.1
 unfold bk.part bk.rest'
 rw[List.take_drop,show(r.eM+(k:Int)).toNat=r.eM.toNat+k by omega]
theorem DI{k:Nat} (h:k<=7):jb (k:Int) 0 7=k:=by unfold jb;split<;>(try split)<;>omega
def oX(k:Nat) (hi:Int) (hk:k<=7) (hh:hi<256^k):Cd Int where
 m r:=gI r k 0 hi
 e n:=gn n k
 v n:=0<=n/\n<=hi
 ok r h:=(No h _ _ _).1
 keep r:=by
  unfold gI;simp only[];split
  ·unfold bk.fail;split<;>rfl
  ·split
   ·unfold bk.fail;split<;>rfl
   ·rfl
 stay r h:=by simp[gI,h,bk.fail]
 back r n tl hr h0 hv he:=by
  have hl:=oV hr
  rw[he,List.length_append,dA]at hl
  have hpt:r.part (k:Int)=gn n k:=by rw[oW r hr,he];exact List.take_left' (dA n k)
  have h7:(256:Int)^k<=72057594037927936:=by
   have:k=0\/k=1\/k=2\/k=3\/k=4\/k=5\/k=6\/k=7:=by omega
   rcases this with rfl|rfl|rfl|rfl|rfl|rfl|rfl|rfl<;>decide
  have hn:eZ (gn n k)=n:=by rw[Dy n k (by omega),Int.emod_eq_of_lt hv.1 (by omega)]
  simp only[gI,DI hk,hpt,hn,bC (show -9223372036854775808<=n by omega) (by omega)]
  rw[if_neg (by omega),if_neg (by omega),dA]
  rfl
 wrote r hr hb h0 hc:=by
  have hl:=oV hr
  simp only[gI,DI hk]at hc⊢
  by_cases h1:(k:Int)<=r.len-r.eM
  ·rw[if_neg (by omega)]at hc⊢
   have hpl:((r.rest').take k).length=k:=by rw[List.length_take];omega
   have hbp:qd ((r.rest').take k):=fun x hx=>hb x (List.mem_of_mem_drop (List.mem_of_mem_take hx))
   rw[oW r hr]at hc⊢
   have hin:=x6 hbp (by omega)
   have h7:(256:Int)^k<=72057594037927936:=by
    have:k=0\/k=1\/k=2\/k=3\/k=4\/k=5\/k=6\/k=7:=by omega
    rcases this with rfl|rfl|rfl|rfl|rfl|rfl|rfl|rfl<;>decide
   rw[hpl]at hin
   rw[bC (n:=eZ _) (by omega) (by omega)]at hc⊢
   by_cases h2:eZ ((r.rest').take k)<0\/hi<eZ ((r.rest').take k)
   ·rw[if_pos h2]at hc
    simp[bk.fail,h0]at hc
   ·rw[if_neg h2]
    have hbn:=rH _ hbp (by omega)
    rw[hpl]at hbn
    refine⟨by simp only;omega,(r.rest').drop k,?_,?_⟩
    ·simp only[hbn,List.take_append_drop]
    ·simp only[hbn,hpl];rfl
  ·rw[if_pos (by omega)]at hc
   simp[bk.fail,h0]at hc
 cut r n tl hr h0 hv he ht:=by
  have hl:=oV hr
  have:(r.rest').length<k:=by
   have:=congrArg List.length he
   rw[dA,List.length_append]at this
   have:0<tl.length:=List.length_pos_iff.2 ht
   omega
  simp only[gI,DI hk]
  rw[if_pos (by omega)]
  simp[bk.fail,h0]
 Nu n:=x7 n k
end Go.Eng
