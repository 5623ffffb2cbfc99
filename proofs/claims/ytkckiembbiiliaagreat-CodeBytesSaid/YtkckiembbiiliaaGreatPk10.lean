/- The engine and the library,part 10 of 21: what the proofs of this seat need of them. -/
import Derived.Test.YtkckiembbiiliaaGreatPk9
set_option linter.unnecessarySimpa false
set_option linter.unusedSimpArgs false
set_option linter.unusedVariables false
set_option linter.defProp false
set_option maxRecDepth 10000
set_option maxHeartbeats 4000000
namespace Go.Eng
open Go
section
open Z
def dG:List AV:=[.int .i64 0,.int .i64 0,.int .i64 0,.int .i64 0,.int .i64 0,.int .i64 0,.int .i64 0,.int .i64 0,.int .i64 0,.int .i64 0,.int .i64 0]
def bG:List AV:=[.bool false,.int .i64 0,.int .i64 0,.int .i64 0,.int .i64 0,.int .i64 0,.int .i64 0,.int .i64 0,.int .i64 0,.int .i64 0,.int .i64 0,.bool false,.bool false,.bool false,.int .i64 0,.int .i64 0,.int .i64 0,.int .i64 0,.int .i64 0,.int .i64 0,.int .i64 0,.int .i64 0,.int .i64 0,.int .i64 0,.bool false,.bool false,.bool false,.int .i64 0,.int .i64 0,.int .i64 0,.int .i64 0,.int .i64 0,.int .i64 0,.int .i64 0,.int .i64 0,.int .i64 0,.int .i64 0,.bool false,.bool false,.bool false,.int .i64 0,.int .i64 0,.int .i64 0,.int .i64 0,.int .i64 0,.int .i64 0,.int .i64 0,.int .i64 0,.int .i64 0,.int .i64 0,.bool false,.bool false,.bool false,.int .i64 0,.int .i64 0,.int .i64 0,.int .i64 0,.int .i64 0,.int .i64 0,.int .i64 0,.int .i64 0,.int .i64 0,.int .i64 0,.bool false,.bool false,.bool false,.int .i64 0,.int .i64 0,.int .i64 0,.int .i64 0,.int .i64 0,.int .i64 0,.int .i64 0,.int .i64 0,.int .i64 0,.int .i64 0,.bool false,.bool false,.bool false,.int .i64 0,.int .i64 0,.int .i64 0,.int .i64 0,.int .i64 0,.int .i64 0,.int .i64 0,.int .i64 0,.int .i64 0,.int .i64 0,.bool false,.bool false,.bool false,.int .i64 0,.int .i64 0,.int .i64 0,.int .i64 0,.int .i64 0,.int .i64 0,.int .i64 0,.int .i64 0,.int .i64 0,.int .i64 0,.bool false,.bool false,.bL,.int .i64 0,.int .i64 0,.int .i64 0,.int .i64 0,.int .i64 0,.int .i64 0,.int .i64 0,.int .i64 0,.bL,.bL,.bL,.int .i64 0,.int .i64 0,.int .i64 0,.int .i64 0,.int .i64 0,.int .i64 0,.int .i64 0,.int .i64 0,.int .i64 0,.int .i64 0,.int .i64 0,.int .i64 0,.int .i64 0,.int .i64 0,.int .i64 0]
def dh:List AV:=[.bool false,.int .i64 0,.int .i64 0,.int .i64 0,.int .i64 0,.int .i64 0,.int .i64 0,.int .i64 0,.int .i64 0,.int .i64 0,.int .i64 0,.bool false,.bool false]
def mX(g0 g1 g2 g3 g4 g5 g6 g7 g8 g9 g10:Nat):dc:=⟨186,[.cell 2 (some 131)],r [o 2 (.alloc bG)] (r [o 3 (.alloc bG)] (r [M 13 0,o 14 (.aE g0 [t 3,t 13]),M 4 14] (j (r [V 5 (i 0)] (u 0 (.loop (j (r [M 15 5,M 16 4,o 17 (b .lss 15 16)] (c 17 z (.exit 0))) (j (u 1 (r [M 20 5,M 21 0,M 22 5,o 23 (.bin .mul (k (i 12)) (t 22)),o 24 (.bin .add (k (i 10)) (t 23)),o 25 (.call g1 [t 21,t 24]),o 26 (f 3 0),o 27 (A 26 20 8 13),n (s 27 25 13)] (R [M 28 5,o 29 (f 3 121),o 30 (A 29 28 8 1),n (ss 30 (i 1) 1)]))) (R [M 18 5,o 19 (bb .add 18 (i 1)),M 5 19])))))) (j (r [V 6 (i 0)] (u 2 (.loop (j (r [M 31 6,M 32 4,o 33 (b .lss 31 32)] (c 33 z (.exit 2))) (j (u 3 (r [V 7 (i 0)] (u 4 (.loop (j (r [M 36 7,M 37 6,o 38 (b .lss 36 37)] (c 38 z (.exit 4))) (j (u 5 (r [o 41 (L 3 131),M 42 6,M 43 7,o 44 (.call g2 [t 41,t 42,t 43]),o 45 (.un .not (t 44)),M 46 45,p 47 (m 0) 46,p 48 (m 6) 46,p 49 (.bin .mul (k (i 8)) (t 48)) 46,p 50 (.bin .add (k (i 110)) (t 49)) 46,p 51 (m 7) 46,p 52 (b .add 50 51) 46,p 53 (.call g3 [t 47,t 52,k (i 9)]) 46,p 54 (bb .neq 53 (i 1)) 46,o 55 (P 46 54)] (c 55 (r [M 56 6,M 57 6,o 58 (f 3 105),o 59 (A 58 57 8 1),o 60 (l 59),M 61 7,o 62 (.call g4 [t 60,t 61]),o 63 (f 3 105),o 64 (A 63 56 8 1),n (s 64 62 1)] (R [M 65 7,M 66 7,o 67 (f 3 105),o 68 (A 67 66 8 1),o 69 (l 68),M 70 6,o 71 (.call g4 [t 69,t 70]),o 72 (f 3 105),o 73 (A 72 65 8 1),n (s 73 71 1)])) z))) (R [M 39 7,o 40 (bb .add 39 (i 1)),M 7 40]))))))) (R [M 34 6,o 35 (bb .add 34 (i 1)),M 6 35])))))) (j (r [M 74 0,M 75 4,o 76 (bb .add 75 (i 1)),o 77 (.call g3 [t 74,k (i 174),t 76]),M 8 77] (r [M 78 8,M 79 4,o 80 (b .lss 78 79)] (c 80 (R [M 81 8,o 82 (f 3 121),o 83 (A 82 81 8 1),n (ss 83 (i 2) 1)]) z))) (j (r [M 84 0,o 85 (.call g3 [t 84,k (i 175),k (i 9)]),M 9 85] (u 6 (.loop (j (r [M 86 9,o 87 (bb .gtr 86 (i 0))] (c 87 z (.exit 6))) (j (u 7 (R [o 90 (f 3 113),o 91 (l 90),M 92 0,M 93 9,o 94 (.bin .mul (k (i 8)) (t 93)),o 95 (.bin .add (k (i 180)) (t 94)),M 96 4,o 97 (.call g5 [t 92,t 95,t 96]),o 98 (.f9 g6 7 [t 97]),o 99 (.app g6 7 56 (t 91) (t 98)),o 100 (f 3 113),n (s 100 99 1)])) (R [M 88 9,o 89 (bb .sub 88 (i 1)),M 9 89])))))) (j (r [M 101 0,o 102 (.call g3 [t 101,k (i 176),k (i 4)]),o 103 (bb .rem 102 (i 3)),M 10 103] (u 8 (.loop (j (r [M 104 10,o 105 (bb .gtr 104 (i 0))] (c 105 z (.exit 8))) (j (u 9 (R [o 108 (f 3 114),o 109 (l 108),o 110 (L 3 131),M 111 0,M 112 10,o 113 (.bin .mul (k (i 16)) (t 112)),o 114 (.bin .add (k (i 260)) (t 113)),M 115 4,o 116 (.call g7 [t 110,t 111,t 114,t 115]),o 117 (.f9 g8 11 [t 116]),o 118 (.app g8 11 88 (t 109) (t 117)),o 119 (f 3 114),n (s 119 118 1)])) (R [M 106 10,o 107 (bb .sub 106 (i 1)),M 10 107])))))) (j (r [M 120 0,o 121 (.call g3 [t 120,k (i 177),k (i 3)]),M 11 121] (u 10 (.loop (j (r [M 122 11,o 123 (bb .gtr 122 (i 0))] (c 123 z (.exit 10))) (j (u 11 (R [o 126 (f 3 115),o 127 (l 126),M 128 0,M 129 11,o 130 (.bin .mul (k (i 2)) (t 129)),o 131 (.bin .add (k (i 330)) (t 130)),o 132 (.call g3 [t 128,t 131,k (i 256)]),M 133 4,o 134 (.j4 .u64 (t 133)),o 135 (.bin .shl (k (i 1)) (t 134)),o 136 (bb .sub 135 (i 1)),o 137 (b .and 132 136),o 138 (.mm true [k (i 1),t 137]),M 139 0,M 140 11,o 141 (.bin .mul (k (i 2)) (t 140)),o 142 (.bin .add (k (i 331)) (t 141)),o 143 (.call g3 [t 139,t 142,k (i 30)]),o 144 (.bin .add (k (i 1)) (t 143)),o 145 (.build [i 0,i 0] [(0,1,t 138),(1,1,t 144)]),o 146 (.f9 g9 2 [t 145]),o 147 (.app g9 2 16 (t 127) (t 146)),o 148 (f 3 115),n (s 148 147 1)])) (R [M 124 11,o 125 (bb .sub 124 (i 1)),M 11 125])))))) (r [M 149 0,o 150 (.call g3 [t 149,k (i 178),k (i 12)]),o 151 (f 3 116),n (s 151 150 1)] (r [M 152 0,o 153 (.call g3 [t 152,k (i 179),k (i 40)]),o 154 (f 3 117),n (s 154 153 1)] (r [M 155 0,o 156 (.call g3 [t 155,k (i 180),k (i 8)]),o 157 (f 3 118),n (s 157 156 1)] (r [M 158 0,o 159 (.call g3 [t 158,k (i 181),k (i 8)]),o 160 (f 3 119),n (s 160 159 1)] (r [M 161 0,o 162 (.call g3 [t 161,k (i 182),k (i 12)]),o 163 (f 3 120),n (s 163 162 1)] (r [M 164 0,o 165 (.call g3 [t 164,k (i 183),k (i 4)]),o 166 (f 3 130),n (s 166 165 1)] (j (r [V 12 (i 0)] (u 12 (.loop (j (r [M 167 12,M 168 4,o 169 (b .lss 167 168),M 170 169,p 171 (f 3 114) 170,p 172 (l 171) 170,p 173 (h 172) 170,p 174 (bb .gtr 173 (i 0)) 170,o 175 (P 170 174)] (c 175 z (.exit 12))) (j (u 13 (R [o 178 (f 3 129),o 179 (l 178),o 180 (L 3 131),M 181 12,o 182 (.call g10 [t 180,t 181]),o 183 (.mm true [t 179,t 182]),o 184 (f 3 129),n (s 184 183 1)])) (R [M 176 12,o 177 (bb .add 176 (i 1)),M 12 177])))))) (r [o 185 (L 3 131),n (s 2 185 131)] y))))))))))))))))⟩
def qS(g0 g1:Nat):dc:=⟨20,[.tmp 2],r [o 1 (w 0),V 2 (i 0)] (r [V 3 .bL] (j (r [V 4 (i 0)] (u 0 (.loop (j (r [M 5 4,o 6 (bb .lss 5 (i 8))] (c 6 z (.exit 0))) (j (u 1 (r [M 9 4,o 10 (f 1 0),o 11 (A 10 9 8 13),o 12 (f 11 0),o 13 (l 12)] (c 13 (R [M 14 3,M 15 4,o 16 (.f9 g0 1 [t 15]),o 17 (.app g0 1 8 (t 14) (t 16)),M 3 17]) z))) (R [M 7 4,o 8 (bb .add 7 (i 1)),M 4 8])))))) (r [M 18 3,o 19 (.call g1 [t 18]),M 2 19] y)))⟩
def qT:dc:=⟨15,[.tmp 4],r [V 4 (i 0)] (r [M 6 0,M 7 1,o 8 (b .rem 6 7),M 5 8] (j (r [M 9 5,o 10 (bb .lss 9 (i 0))] (c 10 (R [M 11 5,M 12 1,o 13 (b .add 11 12),M 5 13]) z)) (r [M 14 5,M 4 14] y)))⟩
def xm:dc:=⟨28,[.tmp 2],r [V 2 (i 0)] (r [V 3 (i 0)] (j (r [V 4 (i 0)] (u 0 (.loop (j (r [M 6 4,o 7 (bb .lss 6 (i 8))] (c 7 z (.exit 0))) (j (u 1 (r [V 5 (i 0)] (u 2 (.loop (j (r [M 10 5,M 11 0,o 12 (h 11),o 13 (b .lss 10 12)] (c 13 z (.exit 2))) (j (u 3 (r [M 16 0,M 17 5,o 18 (a 16 17 1),o 19 (l 18),M 20 4,o 21 (b .eql 19 20)] (c 21 (r [M 22 3,M 23 4,o 24 (.j4 .u64 (t 23)),o 25 (.bin .shl (k (i 1)) (t 24)),o 26 (b .or 22 25),M 3 26] (.exit 2)) z))) (R [M 14 5,o 15 (bb .add 14 (i 1)),M 5 15]))))))) (R [M 8 4,o 9 (bb .add 8 (i 1)),M 4 9])))))) (r [M 27 3,M 2 27] y)))⟩
def uZ:dc:=⟨19,[.tmp 4],r [V 4 (F)] (r [M 5 1,o 6 (bb .geq 5 (i 0)),M 7 6,p 8 (m 1) 7,p 9 (bb .lss 8 (i 8)) 7,o 10 (P 7 9),M 11 10,p 12 (m 0) 11,p 13 (m 1) 11,p 14 (.j4 .u64 (t 13)) 11,p 15 (b .shr 12 14) 11,p 16 (bb .and 15 (i 1)) 11,p 17 (bb .eql 16 (i 1)) 11,o 18 (P 11 17),M 4 18] y)⟩
def n8(g0 g1 g2:Nat):dc:=⟨78,[.tmp 4],r [V 4 (i 0)] (r [M 12 1,o 13 (.call g0 [t 12,k (i 0),k (i 3)]),o 14 (.bin .add (k (i 1)) (t 13)),M 5 14] (r [V 6 (i 0)] (j (r [V 7 (i 0)] (u 0 (.loop (j (r [M 15 7,M 16 5,o 17 (b .lss 15 16)] (c 17 z (.exit 0))) (j (u 1 (r [o 8 (.alloc [.bL,.bL])] (j (r [V 9 (i 0)] (u 2 (.loop (j (r [M 20 9,o 21 (bb .lss 20 (i 2))] (c 21 z (.exit 2))) (j (u 3 (r [M 24 1,M 25 7,o 26 (.bin .mul (k (i 2)) (t 25)),o 27 (.bin .add (k (i 1)) (t 26)),M 28 9,o 29 (b .add 27 28),o 30 (.call g0 [t 24,t 29,k (i 3)]),M 10 30] (j (r [M 31 9,o 32 (bb .eql 31 (i 1)),M 33 32,p 34 (m 10) 33,p 35 (bb .eql 34 (i 0)) 33,o 36 (P 33 35),M 37 36,p 38 (.Aw (t 8) (k (i 0)) 2 1) 37,p 39 (l 38) 37,p 40 (h 39) 37,p 41 (bb .eql 40 (i 0)) 37,o 42 (P 37 41)] (c 42 (R [V 10 (i 1)]) z)) (r [V 11 (i 0)] (u 4 (.loop (j (r [M 43 11,M 44 10,o 45 (b .lss 43 44),M 46 45,p 47 (m 6) 46,p 48 (m 5) 46,p 49 (bb .sub 48 (i 1)) 46,p 50 (m 7) 46,p 51 (b .sub 49 50) 46,p 52 (.bin .sub (k (i 8)) (t 51)) 46,p 53 (b .lss 47 52) 46,o 54 (P 46 53)] (c 54 z (.exit 4))) (j (u 5 (r [M 57 9,M 58 9,o 59 (A 8 58 2 1),o 60 (l 59),M 61 6,o 62 (.f9 g1 1 [t 61]),o 63 (.app g1 1 8 (t 60) (t 62)),o 64 (A 8 57 2 1),n (s 64 63 1)] (R [M 65 6,o 66 (bb .add 65 (i 1)),M 6 66]))) (R [M 55 11,o 56 (bb .add 55 (i 1)),M 11 56]))))))))) (R [M 22 9,o 23 (bb .add 22 (i 1)),M 9 23])))))) (R [M 67 0,M 68 0,o 69 (.nc (t 68)),o 70 (f 69 104),o 71 (l 70),o 72 (L 8 2),o 73 (.f9 g2 2 [t 72]),o 74 (.app g2 2 48 (t 71) (t 73)),o 75 (.nc (t 67)),o 76 (f 75 104),n (s 76 74 1)])))) (R [M 18 7,o 19 (bb .add 18 (i 1)),M 7 19])))))) (r [M 77 6,M 4 77] y))))⟩
def qU(g0:Nat):dc:=⟨95,[.cell 4 (some 13)],r [o 4 (.alloc dh)] (r [M 6 0,M 7 1,o 8 (.call g0 [t 6,t 7,k (i 12)]),o 9 (.bin .add (k (i 1)) (t 8)),M 10 0,M 11 1,o 12 (bb .add 11 (i 1)),o 13 (.call g0 [t 10,t 12,k (i 9)]),M 14 0,M 15 1,o 16 (bb .add 15 (i 2)),o 17 (.call g0 [t 14,t 16,k (i 6)]),o 18 (.bin .add (k (i 1)) (t 17)),M 19 0,M 20 1,o 21 (bb .add 20 (i 3)),o 22 (.call g0 [t 19,t 21,k (i 4)]),o 23 (.bin .add (k (i 10)) (t 22)),M 24 0,M 25 1,o 26 (bb .add 25 (i 4)),o 27 (.call g0 [t 24,t 26,k (i 5)]),o 28 (.build dh [(0,1,k (T)),(1,1,t 9),(2,1,t 13),(5,1,t 18),(6,1,t 23),(7,1,t 27)]),o 5 (.alloc dh),n (s 5 28 13)] (r [o 29 (f 5 1),o 30 (l 29),M 31 0,M 32 1,o 33 (bb .add 32 (i 5)),o 34 (.call g0 [t 31,t 33,k (i 25)]),o 35 (b .add 30 34),o 36 (f 5 3),n (s 36 35 1)] (r [o 37 (f 5 3),o 38 (l 37),M 39 0,M 40 1,o 41 (bb .add 40 (i 6)),o 42 (.call g0 [t 39,t 41,k (i 15)]),o 43 (b .add 38 42),o 44 (f 5 4),n (s 44 43 1)] (j (r [M 45 0,M 46 1,o 47 (bb .add 46 (i 7)),o 48 (.call g0 [t 45,t 47,k (i 2)]),o 49 (bb .eql 48 (i 1))] (c 49 (r [M 50 0,M 51 1,o 52 (bb .add 51 (i 8)),o 53 (.call g0 [t 50,t 52,k (i 10)]),o 54 (.bin .add (k (i 1)) (t 53)),o 55 (f 5 8),n (s 55 54 1)] (R [M 56 0,M 57 1,o 58 (bb .add 57 (i 8)),o 59 (.call g0 [t 56,t 58,k (i 97)]),o 60 (bb .quo 59 (i 10)),o 61 (.bin .add (k (i 1)) (t 60)),o 62 (f 5 9),n (s 62 61 1)])) z)) (r [M 63 0,M 64 1,o 65 (bb .add 64 (i 9)),o 66 (.call g0 [t 63,t 65,k (i 7)]),o 67 (f 5 10),n (s 67 66 1)] (j (r [o 68 (f 5 10),o 69 (l 68),o 70 (bb .gtr 69 (i 3)),M 71 70,q 72 (f 5 10) 71,q 73 (l 72) 71,q 74 (bb .eql 73 (i 3)) 71,q 75 (m 74) 71,p 76 (f 5 8) 75,p 77 (l 76) 75,p 78 (bb .eql 77 (i 0)) 75,q 79 (P 75 78) 71,o 80 (Q 71 79)] (c 80 (R [o 81 (f 5 10),n (ss 81 (i 0) 1)]) z)) (r [M 82 0,M 83 1,o 84 (bb .add 83 (i 10)),o 85 (.call g0 [t 82,t 84,k (i 3)]),o 86 (bb .gtr 85 (i 0)),o 87 (f 5 11),n (s 87 86 1)] (r [M 88 0,M 89 1,o 90 (bb .add 89 (i 11)),o 91 (.call g0 [t 88,t 90,k (i 4)]),o 92 (bb .eql 91 (i 1)),o 93 (f 5 12),n (s 93 92 1)] (r [o 94 (L 5 13),n (s 4 94 13)] y)))))))))⟩
def pZ(g0:Nat):dc:=⟨41,[.tmp 6],r [o 3 (w 0),V 6 (F)] (r [o 12 (L 3 131),M 13 1,o 14 (.call g0 [t 12,t 13]),M 11 14,o 15 (e 11 0),o 16 (e 11 1),o 7 (.alloc [i 0,i 0,i 0,i 0]),n (s 7 15 4),M 8 16] (r [o 18 (L 3 131),M 19 2,o 20 (.call g0 [t 18,t 19]),M 17 20,o 21 (e 17 0),o 22 (e 17 1),o 9 (.alloc [i 0,i 0,i 0,i 0]),n (s 9 21 4),M 10 22] (r [M 23 8,M 24 23,p 25 (m 10) 24,o 26 (P 24 25),M 27 26,p 28 (f 7 0) 27,p 29 (l 28) 27,p 30 (f 9 0) 27,p 31 (l 30) 27,p 32 (b .eql 29 31) 27,o 33 (P 27 32),M 34 33,p 35 (f 7 1) 34,p 36 (l 35) 34,p 37 (f 9 1) 34,p 38 (l 37) 34,p 39 (b .neq 36 38) 34,o 40 (P 34 39),M 6 40] y)))⟩
def tq(g0 g1:Nat):dc:=⟨12,[.tmp 6],r [V 6 (i 0)] (r [M 7 0,M 8 1,o 9 (.call g0 [t 7,t 8]),M 10 2,o 11 (.call g1 [t 9,t 10]),M 6 11] y)⟩
def tr(g0 g1 g2:Nat):dc:=⟨11,[.tmp 4],r [V 4 (i 0)] (r [M 5 0,o 6 (.call g0 [t 5]),M 7 1,o 8 (.f9 g1 1 [t 7]),o 9 (.app g1 1 8 (t 6) (t 8)),o 10 (.call g2 [t 9]),M 4 10] y)⟩
def nN(g0:Nat):dc:=⟨66,[.cell 6 (some 7)],r [o 6 (.alloc [i 0,.float .f64 0,.float .f64 0,.float .f64 0,.float .f64 0,i 0,i 0])] (r [M 8 0,M 9 1,M 10 2,o 11 (.call g0 [t 8,t 9,t 10]),o 12 (.build [.float .f64 0,.float .f64 0,.float .f64 0,.float .f64 0] [(0,1,k (.float .f64 4617315517961601024)),(1,1,k (.float .f64 4621819117588971520)),(2,1,k (.float .f64 4607182418800017408)),(3,1,k (.float .f64 4602678819172646912))]),M 13 0,M 14 1,o 15 (bb .add 14 (i 1)),o 16 (.call g0 [t 13,t 15,k (i 4)]),o 17 (.KY (t 12) (t 16) 4 1 none),o 18 (.build [i 0,.float .f64 0,.float .f64 0,.float .f64 0,.float .f64 0,i 0,i 0] [(0,1,t 11),(1,1,t 17)]),o 7 (.alloc [i 0,.float .f64 0,.float .f64 0,.float .f64 0,.float .f64 0,i 0,i 0]),n (s 7 18 7)] (r [o 19 (f 7 1),o 20 (l 19),o 21 (.build [.float .f64 0,.float .f64 0,.float .f64 0] [(0,1,k (.float .f64 4602678819172646912)),(1,1,k (.float .f64 4607182418800017408)),(2,1,k (.float .f64 4598175219545276416))]),M 22 0,M 23 1,o 24 (bb .add 23 (i 2)),o 25 (.call g0 [t 22,t 24,k (i 3)]),o 26 (.KY (t 21) (t 25) 3 1 none),o 27 (b .mul 20 26),o 28 (f 7 2),n (s 28 27 1)] (r [M 29 0,M 30 1,o 31 (bb .add 30 (i 3)),o 32 (.call g0 [t 29,t 31,k (i 4)]),o 33 (.Ak .f64 (t 32)),o 34 (bb .quo 33 (.float .f64 4621819117588971520)),o 35 (f 7 3),n (s 35 34 1)] (r [M 36 0,M 37 1,o 38 (bb .add 37 (i 4)),o 39 (.call g0 [t 36,t 38,k (i 6)]),o 40 (.Ak .f64 (t 39)),o 41 (bb .quo 40 (.float .f64 4621819117588971520)),o 42 (f 7 4),n (s 42 41 1)] (j (r [M 43 0,M 44 1,o 45 (bb .add 44 (i 5)),o 46 (.call g0 [t 43,t 45,k (i 3)]),o 47 (bb .eql 46 (i 1))] (c 47 (R [M 48 0,M 49 1,o 50 (bb .add 49 (i 6)),o 51 (.call g0 [t 48,t 50,k (i 60)]),o 52 (.bin .add (k (i 20)) (t 51)),o 53 (f 7 5),n (s 53 52 1)]) z)) (j (r [M 54 0,M 55 1,o 56 (bb .add 55 (i 5)),o 57 (.call g0 [t 54,t 56,k (i 9)]),o 58 (bb .eql 57 (i 2))] (c 58 (R [M 59 0,M 60 1,o 61 (bb .add 60 (i 7)),o 62 (.call g0 [t 59,t 61,k (i 300)]),o 63 (.bin .add (k (i 60)) (t 62)),o 64 (f 7 6),n (s 64 63 1)]) z)) (r [o 65 (L 7 7),n (s 6 65 7)] y)))))))⟩
def tu(g0 g1:Nat):dc:=⟨119,[.cell 8 (some 11)],r [o 4 (w 0),o 8 (.alloc dG)] (r [o 11 (L 4 131),M 12 1,M 13 2,M 14 3,o 15 (.call g0 [t 12,t 13,t 14]),M 16 1,M 17 2,o 18 (bb .add 17 (i 1)),M 19 3,o 20 (.call g0 [t 16,t 18,t 19]),o 21 (.call g1 [t 11,t 15,t 20]),o 22 (L 4 131),M 23 1,M 24 2,o 25 (bb .add 24 (i 2)),M 26 3,o 27 (.call g0 [t 23,t 25,t 26]),M 28 1,M 29 2,o 30 (bb .add 29 (i 3)),M 31 3,o 32 (.call g0 [t 28,t 30,t 31]),o 33 (.call g1 [t 22,t 27,t 32]),o 34 (.build dG [(2,1,t 21),(3,1,t 33)]),o 9 (.alloc dG),n (s 9 34 11)] (j (r [M 35 1,M 36 2,o 37 (bb .add 36 (i 4)),M 38 3,o 39 (bb .add 38 (i 1)),o 40 (.call g0 [t 35,t 37,t 39]),M 10 40] (r [M 41 10,M 42 3,o 43 (b .lss 41 42)] (c 43 (r [o 44 (L 4 131),M 45 10,M 46 1,M 47 2,o 48 (bb .add 47 (i 5)),M 49 3,o 50 (.call g0 [t 46,t 48,t 49]),o 51 (.call g1 [t 44,t 45,t 50]),o 52 (f 9 1),n (s 52 51 1)] (R [M 53 1,M 54 2,o 55 (bb .add 54 (i 6)),o 56 (.call g0 [t 53,t 55,k (i 10)]),o 57 (.bin .add (k (i 1)) (t 56)),o 58 (f 9 7),n (s 58 57 1)])) z))) (r [M 59 1,M 60 2,o 61 (bb .add 60 (i 7)),o 62 (.call g0 [t 59,t 61,k (i 256)]),M 63 3,o 64 (.j4 .u64 (t 63)),o 65 (.bin .shl (k (i 1)) (t 64)),o 66 (bb .sub 65 (i 1)),o 67 (b .and 62 66),o 68 (f 9 2),o 69 (l 68),o 70 (b .andNot 67 69),o 71 (f 9 0),n (s 71 70 1)] (r [M 72 1,M 73 2,o 74 (bb .add 73 (i 8)),o 75 (.call g0 [t 72,t 74,k (i 4)]),o 76 (f 9 4),n (s 76 75 1)] (r [M 77 1,M 78 2,o 79 (bb .add 78 (i 9)),o 80 (.call g0 [t 77,t 79,k (i 6)]),o 81 (.bin .add (k (i 1)) (t 80)),o 82 (f 9 5),n (s 82 81 1)] (r [M 83 1,M 84 2,o 85 (bb .add 84 (i 10)),o 86 (.call g0 [t 83,t 85,k (i 6)]),o 87 (f 9 6),n (s 87 86 1)] (r [M 88 1,M 89 2,o 90 (bb .add 89 (i 11)),o 91 (.call g0 [t 88,t 90,k (i 15)]),o 92 (.bin .add (k (i 1)) (t 91)),o 93 (f 9 8),n (s 93 92 1)] (j (r [M 94 1,M 95 2,o 96 (bb .add 95 (i 12)),o 97 (.call g0 [t 94,t 96,k (i 3)]),o 98 (bb .eql 97 (i 1))] (c 98 (R [o 99 (f 9 8),o 100 (l 99),M 101 1,M 102 2,o 103 (bb .add 102 (i 13)),o 104 (.call g0 [t 101,t 103,k (i 30)]),o 105 (b .add 100 104),o 106 (f 9 9),n (s 106 105 1)]) z)) (r [o 107 (f 9 4),o 108 (l 107),o 109 (bb .add 108 (i 1)),o 110 (.build [i 0,i 0,i 0] [(0,1,k (i 10000)),(1,1,k (i 400)),(2,1,k (i 20))]),M 111 1,M 112 2,o 113 (bb .add 112 (i 14)),o 114 (.call g0 [t 111,t 113,k (i 3)]),o 115 (.KY (t 110) (t 114) 3 1 none),o 116 (b .add 109 115),o 117 (f 9 10),n (s 117 116 1)] (r [o 118 (L 9 11),n (s 8 118 11)] y))))))))))⟩
def n9(g0 g1 g2 g3 g4:Nat):dc:=⟨32,[.tmp 4],r [o 2 (w 0),V 4 (i 0)] (r [o 6 (L 2 131),M 7 1,o 8 (.call g0 [t 6,t 7]),M 5 8] (j (r [M 9 5,o 10 (bb .eql 9 (i 0)),M 11 10,q 12 (f 2 114) 11,q 13 (l 12) 11,q 14 (h 13) 11,q 15 (bb .eql 14 (i 0)) 11,o 16 (Q 11 15)] (c 16 (r [M 17 5,M 4 17] y) z)) (r [o 18 (f 2 130),o 19 (l 18),o 20 (.f9 g1 1 [t 19,k (i 1)]),o 21 (.call g2 [t 20]),o 22 (L 2 131),o 23 (.call g3 [t 22]),M 24 5,o 25 (.f9 g1 1 [t 23,t 24,k (i 2)]),o 26 (.call g2 [t 25]),o 27 (.call g4 [t 21,t 26]),o 28 (f 2 130),o 29 (l 28),o 30 (.f9 g1 1 [t 27,t 29]),o 31 (.call g2 [t 30]),M 4 31] y)))⟩
def qV(g0:Nat):dc:=⟨28,[.cell 4 (some 4),.tmp 5],r [o 2 (w 0),o 4 (.alloc [i 0,i 0,i 0,i 0]),V 5 (F)] (r [o 8 (L 2 131),o 9 (.call g0 [t 8]),M 6 9] (j (r [V 7 (i 0)] (u 0 (.loop (j (r [M 10 7,M 11 6,o 12 (h 11),o 13 (b .lss 10 12)] (c 13 z (.exit 0))) (j (u 1 (r [M 16 6,M 17 7,o 18 (a 16 17 4),o 19 (f 18 3),o 20 (l 19),M 21 1,o 22 (b .eql 20 21)] (c 22 (r [M 23 6,M 24 7,o 25 (a 23 24 4),o 26 (L 25 4),n (s 4 26 4),V 5 (T)] y) z))) (R [M 14 7,o 15 (bb .add 14 (i 1)),M 7 15])))))) (r [o 27 (.build [i 0,i 0,i 0,i 0] []),n (s 4 27 4),V 5 (F)] y)))⟩
def xp:dc:=⟨17,[.tmp 4],r [V 4 (i 0)] (j (r [M 5 1,o 6 (bb .lss 5 (i 0)),M 7 6,q 8 (m 1) 7,q 9 (m 0) 7,q 10 (h 9) 7,q 11 (b .geq 8 10) 7,o 12 (Q 7 11)] (c 12 (r [V 4 (i 0)] y) z)) (r [M 13 0,M 14 1,o 15 (a 13 14 1),o 16 (l 15),M 4 16] y))⟩
def tw(g0 g1:Nat):dc:=⟨17,[.tmp 2],r [V 2 .bL] (r [V 3 .bL] (j (r [V 4 (i 0)] (u 0 (.loop (j (r [M 5 4,o 6 (bb .lss 5 (i 8))] (c 6 z (.exit 0))) (j (u 1 (r [M 9 0,M 10 4,o 11 (.call g0 [t 9,t 10])] (c 11 (R [M 12 3,M 13 4,o 14 (.f9 g1 1 [t 13]),o 15 (.app g1 1 8 (t 12) (t 14)),M 3 15]) z))) (R [M 7 4,o 8 (bb .add 7 (i 1)),M 4 8])))))) (r [M 16 3,M 2 16] y)))⟩
def oa(g0 g1 g2 g3:Nat):dc:=⟨19,[.tmp 6],r [o 3 (w 0),V 6 (i 0)] (r [M 8 1,o 9 (.f9 g0 1 [t 8]),o 10 (.call g1 [t 9]),M 7 10] (j (r [o 11 (L 3 131),M 12 1,M 13 2,o 14 (.call g2 [t 11,t 12,t 13])] (c 14 (R [M 15 7,M 16 2,o 17 (.call g3 [t 15,t 16]),M 7 17]) z)) (r [M 18 7,M 6 18] y)))⟩
def ob(g0 g1 g2 g3 g4 g5:Nat):dc:=⟨44,[.tmp 4],r [o 2 (w 0),V 4 (i 0)] (r [o 10 (L 2 131),M 11 1,o 12 (.call g0 [t 10,t 11]),M 9 12,o 13 (e 9 0),o 14 (e 9 1),o 5 (.alloc [i 0,i 0,i 0,i 0]),n (s 5 13 4),M 6 14] (j (r [M 15 6,o 16 (.un .not (t 15)),M 17 16,q 18 (L 2 131) 17,q 19 (.call g1 [t 18]) 17,q 20 (m 1) 17,q 21 (.call g2 [t 19,t 20]) 17,q 22 (.un .not (t 21)) 17,o 23 (Q 17 22)] (c 23 (r [V 4 (i 0)] y) z)) (r [o 24 (L 2 131),o 25 (f 5 0),o 26 (l 25),o 27 (.call g3 [t 24,t 26]),o 28 (.f9 g4 1 [t 27]),M 7 28] (j (r [V 8 (i 0)] (u 0 (.loop (j (r [M 29 8,o 30 (f 2 104),o 31 (l 30),o 32 (h 31),o 33 (b .lss 29 32)] (c 33 z (.exit 0))) (j (u 1 (R [M 36 7,o 37 (L 2 131),M 38 8,o 39 (.call g3 [t 37,t 38]),o 40 (.f9 g4 1 [t 39]),o 41 (.app g4 1 8 (t 36) (t 40)),M 7 41])) (R [M 34 8,o 35 (bb .add 34 (i 1)),M 8 35])))))) (r [M 42 7,o 43 (.call g5 [t 42]),M 4 43] y)))))⟩
def vc(g0:Nat):dc:=⟨5,[.tmp 2],r [V 2 (i 0)] (r [M 3 0,o 4 (.call g0 [t 3]),M 2 4] y)⟩
def ve(g0:Nat):dc:=⟨11,[.tmp 4],r [V 4 (i 0)] (r [M 5 0,o 6 (.call g0 [t 5]),M 7 1,o 8 (.call g0 [t 7]),o 9 (b .mul 6 8),o 10 (.call g0 [t 9]),M 4 10] y)⟩
def tA(g0 g1 g2 g3 g4 g5 g6 g7:Nat):dc:=⟨73,[.tmp 2],r [o 1 (w 0),V 2 (i 0)] (j (r [o 8 (f 1 114),o 9 (l 8),o 10 (h 9),o 11 (bb .eql 10 (i 0))] (c 11 (r [V 2 (i 0)] y) z)) (r [V 3 .bL,V 4 .bL] (j (r [V 5 (i 0)] (u 0 (.loop (j (r [M 12 5,o 13 (f 1 114),o 14 (l 13),o 15 (h 14),o 16 (b .lss 12 15)] (c 16 z (.exit 0))) (j (u 1 (R [M 19 3,o 20 (L 1 131),M 21 5,o 22 (.call g0 [t 20,t 21]),o 23 (f 1 114),o 24 (l 23),M 25 5,o 26 (a 24 25 11),o 27 (f 26 8),o 28 (l 27),o 29 (.f9 g1 1 [t 22,t 28]),o 30 (.call g2 [t 29]),o 31 (.f9 g1 1 [t 30]),o 32 (.app g1 1 8 (t 19) (t 31)),M 3 32])) (R [M 17 5,o 18 (bb .add 17 (i 1)),M 5 18])))))) (j (r [o 33 (L 1 131),o 34 (.call g3 [t 33]),o 35 (.call g4 [t 34]),o 36 (h 35),V 37 (i 0)] (u 2 (.loop (r [o 38 (b .lss 37 36)] (j (c 38 z (.exit 2)) (j (u 3 (r [o 39 (a 35 37 1),o 40 (l 39),M 7 40] (R [M 41 4,M 42 7,o 43 (f 1 0),o 44 (A 43 42 8 13),o 45 (f 44 1),o 46 (l 45),o 47 (.call g5 [t 46]),M 48 7,o 49 (f 1 0),o 50 (A 49 48 8 13),o 51 (f 50 8),o 52 (l 51),M 53 7,o 54 (f 1 0),o 55 (A 54 53 8 13),o 56 (f 55 9),o 57 (l 56),o 58 (.f9 g1 1 [t 52,t 57]),o 59 (.call g2 [t 58]),o 60 (.f9 g1 1 [t 47,t 59]),o 61 (.app g1 1 8 (t 41) (t 60)),M 4 61]))) (R [o 62 (bb .add 37 (i 1)),M 37 62]))))))) (r [M 63 3,o 64 (.call g6 [t 63]),M 65 4,o 66 (.call g6 [t 65]),o 67 (L 1 131),o 68 (.call g7 [t 67]),o 69 (f 1 119),o 70 (l 69),o 71 (.f9 g1 1 [t 64,t 66,t 68,t 70,k (i 30)]),o 72 (.call g2 [t 71]),M 2 72] y)))))⟩
def qW(g0:Nat):dc:=⟨56,[.tmp 2],r [o 1 (w 0),V 2 .bL] (r [V 3 .bL] (j (r [V 4 (i 0)] (u 0 (.loop (j (r [M 8 4,o 9 (f 1 104),o 10 (l 9),o 11 (h 10),o 12 (b .lss 8 11)] (c 12 z (.exit 0))) (j (u 1 (r [V 5 (i 0)] (u 2 (.loop (j (r [M 15 5,o 16 (bb .lss 15 (i 2))] (c 16 z (.exit 2))) (j (u 3 (r [V 6 (i 0)] (u 4 (.loop (j (r [M 19 6,o 20 (f 1 104),o 21 (l 20),M 22 4,M 23 5,o 24 (a 21 22 2),o 25 (A 24 23 2 1),o 26 (l 25),o 27 (h 26),o 28 (b .lss 19 27)] (c 28 z (.exit 4))) (j (u 5 (r [o 31 (f 1 104),o 32 (l 31),M 33 4,M 34 5,o 35 (a 32 33 2),o 36 (A 35 34 2 1),o 37 (l 36),M 38 6,o 39 (a 37 38 1),o 40 (l 39),M 7 40] (r [M 41 7,o 42 (bb .geq 41 (i 0)),M 43 42,p 44 (m 7) 43,p 45 (bb .lss 44 (i 8)) 43,o 46 (P 43 45)] (c 46 (R [M 47 3,M 48 4,M 49 5,M 50 6,M 51 7,o 52 (.build [i 0,i 0,i 0,i 0] [(0,1,t 48),(1,1,t 49),(2,1,t 50),(3,1,t 51)]),o 53 (.f9 g0 4 [t 52]),o 54 (.app g0 4 32 (t 47) (t 53)),M 3 54]) z)))) (R [M 29 6,o 30 (bb .add 29 (i 1)),M 6 30]))))))) (R [M 17 5,o 18 (bb .add 17 (i 1)),M 5 18]))))))) (R [M 13 4,o 14 (bb .add 13 (i 1)),M 4 14])))))) (r [M 55 3,M 2 55] y)))⟩
def oc(g0 g1 g2 g3:Nat):dc:=⟨39,[.tmp 4],r [o 2 (w 0),V 4 (i 0)] (j (r [M 8 1,o 9 (bb .lss 8 (i 0)),M 10 9,q 11 (m 1) 10,q 12 (f 2 104) 10,q 13 (l 12) 10,q 14 (h 13) 10,q 15 (b .geq 11 14) 10,o 16 (Q 10 15)] (c 16 (r [V 4 (i 0)] y) z)) (r [o 17 (.f9 g0 1 [k (i 8)]),M 5 17] (j (r [o 18 (L 2 131),o 19 (.call g1 [t 18]),o 20 (h 19),V 21 (i 0)] (u 0 (.loop (r [o 22 (b .lss 21 20)] (j (c 22 z (.exit 0)) (j (u 1 (r [o 23 (a 19 21 4),o 24 (L 23 4),o 7 (.alloc [i 0,i 0,i 0,i 0]),n (s 7 24 4)] (r [o 25 (f 7 0),o 26 (l 25),M 27 1,o 28 (b .eql 26 27)] (c 28 (R [M 29 5,o 30 (L 2 131),o 31 (f 7 3),o 32 (l 31),o 33 (.call g2 [t 30,t 32]),o 34 (.f9 g0 1 [t 33]),o 35 (.app g0 1 8 (t 29) (t 34)),M 5 35]) z)))) (R [o 36 (bb .add 21 (i 1)),M 21 36]))))))) (r [M 37 5,o 38 (.call g3 [t 37]),M 4 38] y))))⟩
def vf(g0:Nat):dc:=⟨18,[.tmp 2],r [V 2 (i 0)] (r [V 3 (i 0)] (j (r [V 4 (i 0)] (u 0 (.loop (j (r [M 5 4,M 6 0,o 7 (h 6),o 8 (b .lss 5 7)] (c 8 z (.exit 0))) (j (u 1 (R [M 11 3,M 12 0,M 13 4,o 14 (a 12 13 1),o 15 (l 14),o 16 (.call g0 [t 11,t 15]),M 3 16])) (R [M 9 4,o 10 (bb .add 9 (i 1)),M 4 10])))))) (r [M 17 3,M 2 17] y)))⟩
def vg(g0:Nat):dc:=⟨5,[.tmp 2],r [V 2 (i 0)] (r [M 3 0,o 4 (.call g0 [t 3,k (i 0),k (i 2147483647)]),M 2 4] y)⟩
def mY(g0 g1 g2:Nat):dc:=⟨50,[.tmp 4],r [o 2 (w 0),V 4 (i 0)] (j (r [M 7 1,o 8 (bb .lss 7 (i 0)),M 9 8,q 10 (m 1) 9,q 11 (f 2 114) 9,q 12 (l 11) 9,q 13 (h 12) 9,q 14 (b .geq 10 13) 9,o 15 (Q 9 14)] (c 15 (r [V 4 (i 0)] y) z)) (r [o 16 (f 2 114),o 17 (l 16),M 18 1,o 19 (a 17 18 11),o 20 (L 19 11),o 5 (.alloc dG),n (s 5 20 11)] (r [o 21 (L 2 131),o 22 (.call g0 [t 21]),M 6 22] (r [o 23 (f 5 4),o 24 (l 23),o 25 (f 5 7),o 26 (l 25),o 27 (f 5 5),o 28 (l 27),o 29 (f 5 5),o 30 (l 29),o 31 (f 5 6),o 32 (l 31),o 33 (f 5 6),o 34 (l 33),o 35 (f 5 6),o 36 (l 35),M 37 6,M 38 6,M 39 6,M 40 6,M 41 6,o 42 (f 2 119),o 43 (l 42),o 44 (f 2 119),o 45 (l 44),o 46 (f 2 119),o 47 (l 46),o 48 (.f9 g1 1 [t 24,t 26,t 28,t 30,t 32,t 34,t 36,t 37,t 38,t 39,t 40,t 41,t 43,t 45,t 47,k (i 60)]),o 49 (.call g2 [t 48]),M 4 49] y))))⟩
def tB:dc:=⟨18,[.tmp 2],r [V 2 (i 0)] (r [V 3 (i 0)] (j (r [V 4 (i 0)] (u 0 (.loop (j (r [M 5 4,M 6 0,o 7 (h 6),o 8 (b .lss 5 7)] (c 8 z (.exit 0))) (j (u 1 (R [M 11 3,M 12 0,M 13 4,o 14 (a 12 13 1),o 15 (l 14),o 16 (.mm true [t 11,t 15]),M 3 16])) (R [M 9 4,o 10 (bb .add 9 (i 1)),M 4 10])))))) (r [M 17 3,M 2 17] y)))⟩
def qX(g0 g1 g2 g3 g4:Nat):dc:=⟨32,[.tmp 2],r [o 1 (w 0),V 2 (i 0)] (r [V 3 .bL] (j (r [o 6 (L 1 131),o 7 (.call g0 [t 6]),o 8 (.call g1 [t 7]),o 9 (h 8),V 10 (i 0)] (u 0 (.loop (r [o 11 (b .lss 10 9)] (j (c 11 z (.exit 0)) (j (u 1 (r [o 12 (a 8 10 1),o 13 (l 12),M 5 13] (R [M 14 3,M 15 5,o 16 (f 1 0),o 17 (A 16 15 8 13),o 18 (f 17 6),o 19 (l 18),M 20 5,o 21 (f 1 0),o 22 (A 21 20 8 13),o 23 (f 22 7),o 24 (l 23),o 25 (.f9 g2 1 [t 19,t 24]),o 26 (.call g3 [t 25]),o 27 (.f9 g2 1 [t 26]),o 28 (.app g2 1 8 (t 14) (t 27)),M 3 28]))) (R [o 29 (bb .add 10 (i 1)),M 10 29]))))))) (r [M 30 3,o 31 (.call g4 [t 30]),M 2 31] y)))⟩
def mZ(g0 g1 g2 g3 g4 g5:Nat):dc:=⟨39,[.tmp 4],r [o 2 (w 0),V 4 (i 0)] (j (r [o 6 (L 2 131),o 7 (.call g0 [t 6]),M 8 1,o 9 (.call g1 [t 7,t 8]),o 10 (.un .not (t 9))] (c 10 (r [V 4 (i 0)] y) z)) (r [M 11 1,o 12 (f 2 0),o 13 (A 12 11 8 13),o 14 (L 13 13),o 5 (.alloc dh),n (s 5 14 13)] (r [o 15 (f 5 1),o 16 (l 15),o 17 (.call g2 [t 16]),o 18 (f 5 8),o 19 (l 18),o 20 (f 5 9),o 21 (l 20),o 22 (.f9 g3 1 [t 19,t 21]),o 23 (.call g4 [t 22]),o 24 (f 5 4),o 25 (l 24),o 26 (.call g2 [t 25]),o 27 (.f9 g3 1 [t 17,t 23,t 26]),o 28 (.call g5 [t 27]),o 29 (f 2 116),o 30 (l 29),o 31 (f 5 6),o 32 (l 31),o 33 (f 5 7),o 34 (l 33),o 35 (f 2 119),o 36 (l 35),o 37 (.f9 g3 1 [t 28,t 30,t 32,t 34,t 36,k (i 8)]),o 38 (.call g4 [t 37]),M 4 38] y)))⟩
def vh(g0:Nat):dc:=⟨11,[.tmp 4],r [V 4 (i 0)] (r [M 5 0,o 6 (.call g0 [t 5]),M 7 1,o 8 (.call g0 [t 7]),o 9 (b .add 6 8),o 10 (.call g0 [t 9]),M 4 10] y)⟩
def vk:dc:=⟨16,[.tmp 6],r [V 6 (i 0)] (j (r [M 7 0,M 8 1,o 9 (b .lss 7 8)] (c 9 (r [M 10 1,M 6 10] y) z)) (j (r [M 11 0,M 12 2,o 13 (b .gtr 11 12)] (c 13 (r [M 14 2,M 6 14] y) z)) (r [M 15 0,M 6 15] y)))⟩
end
def place(v n:Int):Int:=if v.tmod n<0 then cv (v.tmod n+n)else v.tmod n
def Ql(l:Option (List Int)) (i:Int):Int:=if i<0 then 0 else((l.getD []).getD i.toNat 0)
def bV(l:Option (List Int)) (i n:Int):Int:=place (Ql l i) n
def Place.Spec(C:bw) (f:Nat):Prop:=∀v n:Int,0<n->C.c f [I v,I n] (I (place v n)) none
def At.Spec(C:bw) (f:Nat):Prop:=∀(l:Option (List Int)) (i:Int),C.c f [aD aA l,I i] (I (Ql l i)) none
def from.Spec(C:bw) (f:Nat):Prop:=∀(l:Option (List Int)) (i n:Int),0<n->C.c f [aD aA l,I i,I n] (I (bV l i n)) none
theorem y9{α:Type} (f:α->List AV) (l:Option (List α)):jv (aD f l)=.dat (aD f l) none:=by cases l<;>rfl
theorem Qm{α:Type} (i k:Nat) (f:α->List AV) (l:Option (List α)) (r:List (Option AV)):cq i k (some (aD f l)::r)=(i,.dat (aD f l) none)::cq (i+1) k r:=by cases l<;>rfl
@[simp] theorem R9 {α:Type} (f:α->List AV) (l:Option (List α)) (r:List (Option AV)):qn (some (aD f l)::r)=qn r:=by cases l<;>rfl
theorem iG{α:Type} (f:α->List AV) (l:Option (List α)):rowsOf (aD f l)=some ((l.getD []).map f):=by cases l<;>rfl
theorem gU{α:Type} (f:α->List AV) (l:Option (List α)):By (aD f l)=some (.int .i64 (l.getD []).length):=by cases l<;>simp[By,aD]
section
variable{P:Program} (hm:P.follows .mixedOrders=true) {f:Nat}
include hm
theorem Place.ok(hc:de P f=some qT):Place.Spec (Pure P) f:=by
 intro v n hn
 refine aB hm hc (by show 2<=15;decide) (ax (keep:=[]) (i:=0) ?_)
 have hn0:¬n=0:=by omega
 simp only[qT,Z.H,I,B,D,EW,cond_true,cond_false,decide_eq_true_eq,decide_eq_false_iff_not,List.length_cons,List.length_nil,↓lR,↓mA,↓ig,↓mB,↓mD,↓mC,EV,flat,List.contains_nil,Bool.false_eq_true,if_false,if_true,true_and,List.getElem?_cons_zero,List.getElem?_cons_succ,Nat.reduceBEq,Nat.reduceAdd,hn0]
 refine⟨hn0,aq (fun h=>?_) (fun h=>?_)⟩<;>try simp only[I,B,D,EW,cond_true,cond_false,decide_eq_true_eq,decide_eq_false_iff_not,List.length_cons,List.length_nil,↓lR,↓mA,↓ig,↓mB,↓mD,↓mC,EV,flat,List.contains_nil,Bool.false_eq_true,if_false,if_true,true_and,List.getElem?_cons_zero,List.getElem?_cons_succ,Nat.reduceBEq,Nat.reduceAdd,h]
 ·simp only[decide_eq_true_eq]at h
  simp only[place,h,if_true,cv]
 ·simp only[decide_eq_false_iff_not]at h
  simp only[place,h,if_false]
theorem from.ok{fA fP:Nat} (hc:de P f=some (tq fA fP)) (hA:At.Spec (Pure P) fA) (hP:Place.Spec (Pure P) fP):from.Spec (Pure P) f:=by
 intro l i n hn
 refine aB hm hc (by show 3<=12;decide) (ax (keep:=[]) (i:=0) ?_)
 simp only[tq,Z.H,y9,I,B,D,EW,cond_true,cond_false,decide_eq_true_eq,decide_eq_false_iff_not,List.length_cons,List.length_nil,↓lR,↓mA,↓ig,↓mB,↓mD,↓mC,EV,flat,List.contains_nil,Bool.false_eq_true,if_false,if_true,true_and,List.getElem?_cons_zero,List.getElem?_cons_succ,Nat.reduceBEq,Nat.reduceAdd]
 refine ai (hA _ _) ?_
 simp only[I,B,D,EW,cond_true,cond_false,decide_eq_true_eq,decide_eq_false_iff_not,List.length_cons,List.length_nil,↓lR,↓mA,↓ig,↓mB,↓mD,↓mC,EV,flat,List.contains_nil,Bool.false_eq_true,if_false,if_true,true_and,List.getElem?_cons_zero,List.getElem?_cons_succ,Nat.reduceBEq,Nat.reduceAdd]
 refine ai (hP _ _ hn) ?_
 simp only[I,B,D,EW,cond_true,cond_false,decide_eq_true_eq,decide_eq_false_iff_not,List.length_cons,List.length_nil,↓lR,↓mA,↓ig,↓mB,↓mD,↓mC,EV,flat,List.contains_nil,Bool.false_eq_true,if_false,if_true,true_and,List.getElem?_cons_zero,List.getElem?_cons_succ,Nat.reduceBEq,Nat.reduceAdd];rfl
theorem At.ok(hc:de P f=some xp):At.Spec (Pure P) f:=by
 intro l i
 refine aB hm hc (by show 2<=17;decide) (ax (keep:=[]) (i:=0) ?_)
 simp only[xp,Z.H,y9,iG,gU,I,B,D,EW,cond_true,cond_false,decide_eq_true_eq,decide_eq_false_iff_not,List.length_cons,List.length_nil,↓lR,↓mA,↓ig,↓mB,↓mD,↓mC,EV,flat,List.contains_nil,Bool.false_eq_true,if_false,if_true,true_and,List.getElem?_cons_zero,List.getElem?_cons_succ,Nat.reduceBEq,Nat.reduceAdd]
 repeat' (first|(refine bJ (fun h=>?_) (fun h=>?_)<;>try simp only[iG,gU,I,B,D,EW,cond_true,cond_false,decide_eq_true_eq,decide_eq_false_iff_not,List.length_cons,List.length_nil,↓lR,↓mA,↓ig,↓mB,↓mD,↓mC,EV,flat,List.contains_nil,Bool.false_eq_true,if_false,if_true,true_and,List.getElem?_cons_zero,List.getElem?_cons_succ,Nat.reduceBEq,Nat.reduceAdd,h])|(refine aq (fun h=>?_) (fun h=>?_)<;>try simp only[iG,gU,I,B,D,EW,cond_true,cond_false,decide_eq_true_eq,decide_eq_false_iff_not,List.length_cons,List.length_nil,↓lR,↓mA,↓ig,↓mB,↓mD,↓mC,EV,flat,List.contains_nil,Bool.false_eq_true,if_false,if_true,true_and,List.getElem?_cons_zero,List.getElem?_cons_succ,Nat.reduceBEq,Nat.reduceAdd,h]))
 ·simp only[decide_eq_true_eq]at h
  simp[Ql,h]
 ·rename_i h'
  simp only[decide_eq_true_eq,decide_eq_false_iff_not]at h h'
  have:(l.getD []).length<=i.toNat:=by omega
  simp[Ql,h,this]
 ·rename_i h'
  simp only[decide_eq_false_iff_not]at h h'
  have hlt:i.toNat<(l.getD []).length:=by omega
  refine⟨⟨by omega,by simp;omega⟩,?_⟩
  refine Sw (aA ((l.getD []).getD i.toNat 0)) (by simp[hlt]) ?_
  simp only[aA,I,B,D,EW,cond_true,cond_false,List.length_cons,List.length_nil,↓lR,↓mA,↓ig,↓mB,↓mD,↓mC,EV,true_and,List.getElem?_cons_zero,Nat.reduceBEq,Nat.reduceAdd];simp[Ql,h']
end
def jE (l:Option (List Int)) (i:Int):Ph :=
  let min:=cv (1 + bV l i 12)
  let max:=cv (min + bV l (cv (i + 5)) 25)
  let top:=cv (max + bV l (cv (i + 6)) 15)
  let w:=bV l (cv (i + 7)) 2=1
  let walk:=if w then cv (1 + bV l (cv (i + 8)) 10) else 0
  let ee:=if w then cv (1 + cv ((bV l (cv (i + 8)) 97).tdiv 10)) else 0
  let r:=bV l (cv (i + 9)) 7
  { on:=true,min:=min,As:=bV l (cv (i + 1)) 9,max:=max,top:=top,step:=cv (1 + bV l (cv (i + 2)) 6),dO:=cv (10 + bV l (cv (i + 3)) 4),red:=bV l (cv (i + 4)) 5,
    walk:=walk,ee:=ee,gy:=if r > 3∨r=3∧walk=0 then 0 else r,lock:=decide (bV l (cv (i + 10)) 3 > 0),rest:=bV l (cv (i + 11)) 4 == 1 }
def phase.Spec(C:bw) (f:Nat):Prop:=∀(l:Option (List Int)) (i:Int),C.c f [aD aA l,I i] (.agg (jE l i).cells) none
section
variable{P:Program} (hm:P.follows .mixedOrders=true) {f:Nat}
include hm
theorem phase.ok{fF:Nat} (hc:de P f=some (qU fF)) (hF:from.Spec (Pure P) fF):phase.Spec (Pure P) f:=by
 intro l i
 refine aB hm hc (by show 2<=95;decide) (ax (keep:=[]) (i:=0) ?_)
 simp only[qU,Z.H,dh,y9,I,B,D,EW,cond_true,cond_false,List.length_cons,List.length_nil,↓lR,↓mA,↓ig,↓mB,↓mD,↓mC,EV,gP,jI,jJ,iy,setCells,gx,List.take_succ_cons,List.take_zero,List.drop_succ_cons,List.drop_zero,List.nil_append,List.cons_append,List.append_nil,flat,List.contains_nil,Bool.false_eq_true,if_false,if_true,true_and,List.getElem?_cons_zero,List.getElem?_cons_succ,Nat.reduceBEq,Nat.reduceAdd,Nat.le_refl,Nat.reduceLeDiff,iD,ge_iff_le,List.filter_nil,Option.map_some,Int.reduceNe,Int.reduceBEq,ne_eq,not_false_eq_true,Int.reduceEq]
 repeat' (first|(refine ai (hF _ _ _ (by decide)) ?_;simp only[I,B,D,EW,cond_true,cond_false,List.length_cons,List.length_nil,↓lR,↓mA,↓ig,↓mB,↓mD,↓mC,EV,gP,jI,jJ,iy,setCells,gx,List.take_succ_cons,List.take_zero,List.drop_succ_cons,List.drop_zero,List.nil_append,List.cons_append,List.append_nil,flat,List.contains_nil,Bool.false_eq_true,if_false,if_true,true_and,List.getElem?_cons_zero,List.getElem?_cons_succ,Nat.reduceBEq,Nat.reduceAdd,Nat.le_refl,Nat.reduceLeDiff,iD,ge_iff_le,List.filter_nil,Option.map_some,Int.reduceNe,Int.reduceBEq,ne_eq,not_false_eq_true,Int.reduceEq])|(refine bJ (fun h=>?_) (fun h=>?_)<;>try simp only[I,B,D,EW,cond_true,cond_false,List.length_cons,List.length_nil,↓lR,↓mA,↓ig,↓mB,↓mD,↓mC,EV,gP,jI,jJ,iy,setCells,gx,List.take_succ_cons,List.take_zero,List.drop_succ_cons,List.drop_zero,List.nil_append,List.cons_append,List.append_nil,flat,List.contains_nil,Bool.false_eq_true,if_false,if_true,true_and,List.getElem?_cons_zero,List.getElem?_cons_succ,Nat.reduceBEq,Nat.reduceAdd,Nat.le_refl,Nat.reduceLeDiff,iD,ge_iff_le,List.filter_nil,Option.map_some,Int.reduceNe,Int.reduceBEq,ne_eq,not_false_eq_true,Int.reduceEq,h])|(refine aq (fun h=>?_) (fun h=>?_)<;>try simp only[I,B,D,EW,cond_true,cond_false,List.length_cons,List.length_nil,↓lR,↓mA,↓ig,↓mB,↓mD,↓mC,EV,gP,jI,jJ,iy,setCells,gx,List.take_succ_cons,List.take_zero,List.drop_succ_cons,List.drop_zero,List.nil_append,List.cons_append,List.append_nil,flat,List.contains_nil,Bool.false_eq_true,if_false,if_true,true_and,List.getElem?_cons_zero,List.getElem?_cons_succ,Nat.reduceBEq,Nat.reduceAdd,Nat.le_refl,Nat.reduceLeDiff,iD,ge_iff_le,List.filter_nil,Option.map_some,Int.reduceNe,Int.reduceBEq,ne_eq,not_false_eq_true,Int.reduceEq,h]))
 all_goals simp_all [jE,Ph.cells,cv]
 all_goals omega
end
theorem GR{p:Int} (h0:0<=p) (h8:p<8):IntKind.i64.wrap (1*2^min p.toNat IntKind.i64.bits)=2^p.toNat:=by
 have:p=0\/p=1\/p=2\/p=3\/p=4\/p=5\/p=6\/p=7:=by omega
 rcases this with rfl|rfl|rfl|rfl|rfl|rfl|rfl|rfl<;>decide
theorem AU{sl sl':List (Nat×SV)} {bx bx':List (Nat×bY)} {lv lv':List (Nat×Nat)} {nx nx':Nat} (m:List (Nat×Nat)) (h:4<=nx') (h1:iZ m nx' sl sl') (h2:i4 m nx' bx bx') (h3:jG m nx' lv lv') (h4:bS m lv'):Le ⟨sl,bx,lv,nx⟩ ⟨sl',bx',lv',nx'⟩:=⟨h,m,h1,h2,h3,h4⟩
structure Cs where
 X8:Int
 ke:Int
 deriving Inhabited,DecidableEq
def Cs.cells(c:Cs):List AV:=[I c.X8,I c.ke]
theorem Tb.whole{t:Tb} (ht:t.Ok):bF t.cells 0 (some 131)=some (.agg t.cells):=by
 have hl:=Tb.len ht
 rw[iD _ _ _ (by omega),List.drop_zero,<-hl,List.take_length]
def jb(n a b:Int):Int:=if n<a then a else if b<n then b else n
def oG(n:Int):Int:=jb n 0 2147483647
def Qn(a b:Int):Int:=oG (oG a+oG b)
def Uy(a b:Int):Int:=oG (oG a*oG b)
def qh(s p:Int):Bool:=decide (0<=p)&&decide (p<8)&&nZ .i64 (s.fdiv (2^p.toNat)) 1==1
def Cut.Spec(C:bw) (f:Nat):Prop:=∀n a b:Int,C.c f [I n,I a,I b] (I (jb n a b)) none
def Cap.Spec(C:bw) (f:Nat):Prop:=∀n:Int,C.c f [I n] (I (oG n)) none
def Add.Spec(C:bw) (f:Nat):Prop:=∀a b:Int,C.c f [I a,I b] (I (Qn a b)) none
def Mul.Spec(C:bw) (f:Nat):Prop:=∀a b:Int,C.c f [I a,I b] (I (Uy a b)) none
def t6.Spec(C:bw) (f:Nat):Prop:=∀s p:Int,C.c f [I s,I p] (B (qh s p)) none
theorem ng(n:Int):0<=oG n/\oG n<=2147483647:=by
 unfold oG jb;split
 ·omega
 ·split<;>omega
theorem bC{n:Int} (h1:-9223372036854775808<=n) (h2:n<=9223372036854775807):IntKind.i64.wrap n=n:=by
 simp only[IntKind.wrap,IntKind.bits,IntKind.signed];simp;omega
section
variable{P:Program} (hm:P.follows .mixedOrders=true) {f:Nat}
include hm
theorem Cut.ok(hc:de P f=some vk):Cut.Spec (Pure P) f:=by
 intro n a b
 refine aB hm hc (by show 3<=16;decide) (ax (keep:=[]) (i:=0) ?_)
 simp only[vk,Z.H,I,B,D,EW,cond_true,cond_false,List.length_cons,List.length_nil,↓lR,↓mA,↓ig,↓mB,↓mD,↓mC,EV,gP,jI,jJ,iy,setCells,gx,List.take_succ_cons,List.take_zero,List.drop_succ_cons,List.drop_zero,List.nil_append,List.cons_append,List.append_nil,flat,List.contains_nil,Bool.false_eq_true,if_false,if_true,true_and,List.getElem?_cons_zero,List.getElem?_cons_succ,Nat.reduceBEq,Nat.reduceAdd,Nat.le_refl,Nat.reduceLeDiff,iD,ge_iff_le,List.filter_nil,Option.map_some,Int.reduceNe,Int.reduceBEq,ne_eq,not_false_eq_true,Int.reduceEq,Bool.not_true,Bool.not_false]
 repeat' (first|(refine aq (fun h=>?_) (fun h=>?_)<;>try simp only[I,B,D,EW,cond_true,cond_false,List.length_cons,List.length_nil,↓lR,↓mA,↓ig,↓mB,↓mD,↓mC,EV,gP,jI,jJ,iy,setCells,gx,List.take_succ_cons,List.take_zero,List.drop_succ_cons,List.drop_zero,List.nil_append,List.cons_append,List.append_nil,flat,List.contains_nil,Bool.false_eq_true,if_false,if_true,true_and,List.getElem?_cons_zero,List.getElem?_cons_succ,Nat.reduceBEq,Nat.reduceAdd,Nat.le_refl,Nat.reduceLeDiff,iD,ge_iff_le,List.filter_nil,Option.map_some,Int.reduceNe,Int.reduceBEq,ne_eq,not_false_eq_true,Int.reduceEq,Bool.not_true,Bool.not_false,h]))
 all_goals simp_all [jb]
 all_goals omega
theorem Cap.ok{fC:Nat} (hc:de P f=some (vg fC)) (hC:Cut.Spec (Pure P) fC):Cap.Spec (Pure P) f:=by
 intro n
 refine aB hm hc (by show 1<=5;decide) (ax (keep:=[]) (i:=0) ?_)
 simp only[vg,Z.H,I,B,D,EW,cond_true,cond_false,List.length_cons,List.length_nil,↓lR,↓mA,↓ig,↓mB,↓mD,↓mC,EV,gP,jI,jJ,iy,setCells,gx,List.take_succ_cons,List.take_zero,List.drop_succ_cons,List.drop_zero,List.nil_append,List.cons_append,List.append_nil,flat,List.contains_nil,Bool.false_eq_true,if_false,if_true,true_and,List.getElem?_cons_zero,List.getElem?_cons_succ,Nat.reduceBEq,Nat.reduceAdd,Nat.le_refl,Nat.reduceLeDiff,iD,ge_iff_le,List.filter_nil,Option.map_some,Int.reduceNe,Int.reduceBEq,ne_eq,not_false_eq_true,Int.reduceEq,Bool.not_true,Bool.not_false]
 refine ai (hC _ _ _) ?_
 simp only[I,B,D,EW,cond_true,cond_false,List.length_cons,List.length_nil,↓lR,↓mA,↓ig,↓mB,↓mD,↓mC,EV,gP,jI,jJ,iy,setCells,gx,List.take_succ_cons,List.take_zero,List.drop_succ_cons,List.drop_zero,List.nil_append,List.cons_append,List.append_nil,flat,List.contains_nil,Bool.false_eq_true,if_false,if_true,true_and,List.getElem?_cons_zero,List.getElem?_cons_succ,Nat.reduceBEq,Nat.reduceAdd,Nat.le_refl,Nat.reduceLeDiff,iD,ge_iff_le,List.filter_nil,Option.map_some,Int.reduceNe,Int.reduceBEq,ne_eq,not_false_eq_true,Int.reduceEq,Bool.not_true,Bool.not_false]
 rfl
theorem Add.ok{fC:Nat} (hc:de P f=some (vh fC)) (hC:Cap.Spec (Pure P) fC):Add.Spec (Pure P) f:=by
 intro a b
 refine aB hm hc (by show 2<=11;decide) (ax (keep:=[]) (i:=0) ?_)
 have ha:=ng a
 have hb:=ng b
 simp only[vh,Z.H,I,B,D,EW,cond_true,cond_false,List.length_cons,List.length_nil,↓lR,↓mA,↓ig,↓mB,↓mD,↓mC,EV,gP,jI,jJ,iy,setCells,gx,List.take_succ_cons,List.take_zero,List.drop_succ_cons,List.drop_zero,List.nil_append,List.cons_append,List.append_nil,flat,List.contains_nil,Bool.false_eq_true,if_false,if_true,true_and,List.getElem?_cons_zero,List.getElem?_cons_succ,Nat.reduceBEq,Nat.reduceAdd,Nat.le_refl,Nat.reduceLeDiff,iD,ge_iff_le,List.filter_nil,Option.map_some,Int.reduceNe,Int.reduceBEq,ne_eq,not_false_eq_true,Int.reduceEq,Bool.not_true,Bool.not_false]
 repeat(refine ai (hC _) ?_;simp only[I,B,D,EW,cond_true,cond_false,List.length_cons,List.length_nil,↓lR,↓mA,↓ig,↓mB,↓mD,↓mC,EV,gP,jI,jJ,iy,setCells,gx,List.take_succ_cons,List.take_zero,List.drop_succ_cons,List.drop_zero,List.nil_append,List.cons_append,List.append_nil,flat,List.contains_nil,Bool.false_eq_true,if_false,if_true,true_and,List.getElem?_cons_zero,List.getElem?_cons_succ,Nat.reduceBEq,Nat.reduceAdd,Nat.le_refl,Nat.reduceLeDiff,iD,ge_iff_le,List.filter_nil,Option.map_some,Int.reduceNe,Int.reduceBEq,ne_eq,not_false_eq_true,Int.reduceEq,Bool.not_true,Bool.not_false])
 rw[bC (by omega) (by omega)]
 rfl
theorem Mul.ok{fC:Nat} (hc:de P f=some (ve fC)) (hC:Cap.Spec (Pure P) fC):Mul.Spec (Pure P) f:=by
 intro a b
 refine aB hm hc (by show 2<=11;decide) (ax (keep:=[]) (i:=0) ?_)
 have ha:=ng a
 have hb:=ng b
 have h1:0<=oG a*oG b:=Int.mul_nonneg ha.1 hb.1
 have h2:oG a*oG b<=2147483647*2147483647:=Int.mul_le_mul ha.2 hb.2 hb.1 (by omega)
 simp only[ve,Z.H,I,B,D,EW,cond_true,cond_false,List.length_cons,List.length_nil,↓lR,↓mA,↓ig,↓mB,↓mD,↓mC,EV,gP,jI,jJ,iy,setCells,gx,List.take_succ_cons,List.take_zero,List.drop_succ_cons,List.drop_zero,List.nil_append,List.cons_append,List.append_nil,flat,List.contains_nil,Bool.false_eq_true,if_false,if_true,true_and,List.getElem?_cons_zero,List.getElem?_cons_succ,Nat.reduceBEq,Nat.reduceAdd,Nat.le_refl,Nat.reduceLeDiff,iD,ge_iff_le,List.filter_nil,Option.map_some,Int.reduceNe,Int.reduceBEq,ne_eq,not_false_eq_true,Int.reduceEq,Bool.not_true,Bool.not_false]
 repeat(refine ai (hC _) ?_;simp only[I,B,D,EW,cond_true,cond_false,List.length_cons,List.length_nil,↓lR,↓mA,↓ig,↓mB,↓mD,↓mC,EV,gP,jI,jJ,iy,setCells,gx,List.take_succ_cons,List.take_zero,List.drop_succ_cons,List.drop_zero,List.nil_append,List.cons_append,List.append_nil,flat,List.contains_nil,Bool.false_eq_true,if_false,if_true,true_and,List.getElem?_cons_zero,List.getElem?_cons_succ,Nat.reduceBEq,Nat.reduceAdd,Nat.le_refl,Nat.reduceLeDiff,iD,ge_iff_le,List.filter_nil,Option.map_some,Int.reduceNe,Int.reduceBEq,ne_eq,not_false_eq_true,Int.reduceEq,Bool.not_true,Bool.not_false])
 rw[bC (by omega) (by omega)]
 rfl
theorem t6.ok(hc:de P f=some uZ):t6.Spec (Pure P) f:=by
 intro s p
 refine aB hm hc (by show 2<=19;decide) (ax (keep:=[]) (i:=0) ?_)
 simp only[uZ,Z.H,I,B,D,EW,cond_true,cond_false,List.length_cons,List.length_nil,↓lR,↓mA,↓ig,↓mB,↓mD,↓mC,EV,gP,jI,jJ,iy,setCells,gx,List.take_succ_cons,List.take_zero,List.drop_succ_cons,List.drop_zero,List.nil_append,List.cons_append,List.append_nil,flat,List.contains_nil,Bool.false_eq_true,if_false,if_true,true_and,List.getElem?_cons_zero,List.getElem?_cons_succ,Nat.reduceBEq,Nat.reduceAdd,Nat.le_refl,Nat.reduceLeDiff,iD,ge_iff_le,List.filter_nil,Option.map_some,Int.reduceNe,Int.reduceBEq,ne_eq,not_false_eq_true,Int.reduceEq,Bool.not_true,Bool.not_false]
 repeat' (first|(refine bJ (fun h=>?_) (fun h=>?_)<;>try simp only[I,B,D,EW,cond_true,cond_false,List.length_cons,List.length_nil,↓lR,↓mA,↓ig,↓mB,↓mD,↓mC,EV,gP,jI,jJ,iy,setCells,gx,List.take_succ_cons,List.take_zero,List.drop_succ_cons,List.drop_zero,List.nil_append,List.cons_append,List.append_nil,flat,List.contains_nil,Bool.false_eq_true,if_false,if_true,true_and,List.getElem?_cons_zero,List.getElem?_cons_succ,Nat.reduceBEq,Nat.reduceAdd,Nat.le_refl,Nat.reduceLeDiff,iD,ge_iff_le,List.filter_nil,Option.map_some,Int.reduceNe,Int.reduceBEq,ne_eq,not_false_eq_true,Int.reduceEq,Bool.not_true,Bool.not_false,h]))
 ·rename_i h0
  have h1:=of_decide_eq_true h
  have h2:=of_decide_eq_true h0
  have hw:IntKind.u64.wrap p=p:=by
   have:p=0\/p=1\/p=2\/p=3\/p=4\/p=5\/p=6\/p=7:=by omega
   rcases this with rfl|rfl|rfl|rfl|rfl|rfl|rfl|rfl<;>decide
  have hm:min p.toNat IntKind.i64.bits=p.toNat:=by
   have:IntKind.i64.bits=64:=rfl
   omega
  rw[hw,hm]
  exact⟨h2,by simp[qh,h1,h2]⟩
 ·simp[qh,h]
 ·simp[qh,h]
end
open Go.RowKit (Below)
theorem cG.block{w:World} {π:Nat->Nat->Prop}:∀{css:List (List AV)} {Bs:List Nat},cG w π css Bs->∀B∈Bs,B<w.heap.size
 |[],[],_,B,h=>by cases h
 |cs::css,B0::Bs,h,B,hB=>by
  rcases List.mem_cons.1 hB with rfl|hB
  ·obtain⟨cur,el,h1,_⟩:=h.1
   exact(Array.getElem?_eq_some_iff.1 h1).1
  ·exact h.2.block B hB
 |[],_::_,h,_,_=>h.elim
 |_::_,[],h,_,_=>h.elim
theorem cG.mono{w w':World} {π:Nat->Nat->Prop} (hb:Below w.heap.size w w') (hp:∀b o,π b o->b<w.heap.size):∀{css:List (List AV)} {Bs:List Nat},cG w π css Bs->cG w' π css Bs
 |[],[],_=>trivial
 |cs::css,B::Bs,h=>by
  obtain⟨cur,el,h1,h2,h3,h4,h5⟩:=h.1
  refine⟨⟨cur,el,?_,h2.mono (fun _ _ h=>h) (fun b o hbo=>Below.rT hb (hp b o hbo)),h3,h4,h5⟩,h.2.mono hb hp⟩
  rw[hb.block B (Array.getElem?_eq_some_iff.1 h1).1,h1]
 |[],_::_,h=>h.elim
 |_::_,[],h=>h.elim
theorem ou.ref{w:World} {π π1:Nat->Nat->Prop} (hp:∀b o,π b o->π1 b o) {B:Nat} {cs:List AV} {τ:Nat->Value} (h:ou τ w π B ⟨cs,[]⟩) (h1:∀o,π1 B o):DV w π1 (.ref cs) (.pointer (some ⟨B,0,none⟩)):=by
 obtain⟨cur,el,hh,hd,hs,_,_⟩:=h
 have hget:∀(j:Nat) (a:AV),cs[j]? =some a->∃v,cur[j]? =some v/\DV w π a v:=fun j a ha=>by
  obtain⟨v,hv,hv2⟩:=hd.get ha
  have hj:j<cs.length:=(List.getElem?_eq_some_iff.1 ha).1
  simp only[]at hv;rw[List.getElem?_take_of_lt hj]at hv
  exact⟨v,by simpa using hv,hv2⟩
 refine .ref cs B 0 (fun j=>cur[j]!) (fun j a ha=>hs a (List.mem_of_getElem? ha)) (fun j a _=>h1 _) (fun j a ha=>?_) (fun j a ha=>?_)
 ·obtain⟨v,hv,_⟩:=hget j a ha
  rw[Nat.zero_add]
  have hj:cur[j]! =v:=by simp[Array.getElem!_eq_getD,Array.getD_eq_getD_getElem?,hv]
  simp only[hj];simp[World.cell?,hh,hv]
 ·obtain⟨v,hv,hv2⟩:=hget j a ha
  have hj:cur[j]! =v:=by simp[Array.getElem!_eq_getD,Array.getD_eq_getD_getElem?,hv]
  simp only[hj]
  exact hv2.mono hp fun _ _ _=>rfl
theorem ED(n:Int):(aA n).length=1:=rfl
def RW:=
 And.intro @EV (And.intro @EW (And.intro @cond_true.{1} (And.intro @cond_false.{1} (And.intro @List.length_cons.{0} (And.intro @List.length_nil.{0} (And.intro @gP (And.intro @jI (And.intro @jJ (And.intro @List.take_succ_cons.{0} (And.intro @List.take_zero.{0} (And.intro @List.drop_succ_cons.{0} (And.intro @List.drop_zero.{0} (And.intro @List.nil_append.{0} (And.intro @List.cons_append.{0} (And.intro @List.append_nil.{0} (And.intro @List.contains_nil.{0} (And.intro @Bool.false_eq_true (And.intro @if_false.{1} (And.intro @if_true.{1} (And.intro @true_and (And.intro @List.getElem?_cons_zero.{0} (And.intro @List.getElem?_cons_succ.{0} (And.intro @Nat.le_refl (And.intro @iD (And.intro @ge_iff_le.{0} (And.intro @List.filter_nil.{0} (And.intro @Option.map_some.{0,0} (And.intro @ne_eq.{1} (And.intro @not_false_eq_true (And.intro @Bool.not_true (And.intro @Bool.not_false (And.intro @List.mem_singleton.{0} (And.intro @forall_eq.{1} (And.intro @List.not_mem_nil.{0} (And.intro @false_implies (And.intro @implies_true.{0} (And.intro @implies_true.{1} (And.intro @List.forall_mem_map.{0,0} (And.intro @List.length_map.{0,0} (And.intro @and_true (And.intro @ED (And.intro @Qm (And.intro @y9 (And.intro @iG (And.intro @gU (And.intro @Int.toNat_natCast (And.intro @List.getElem?_map.{0,0} (And.intro @Nat.zero_add (And.intro @Nat.add_zero (And.intro @List.mem_cons.{0} (And.intro @forall_eq_or_imp.{1} (And.intro @Nat.mul_one (And.intro @decide_true (And.intro @decide_false (And.intro @List.contains_cons.{0} (And.intro @Bool.or_false (And.intro @Bool.false_or (And.intro @Bool.or_true (@Bool.true_or)))))))))))))))))))))))))))))))))))))))))))))))))))))))))))
def RY:=And.intro @RW (And.intro @iy.eq_1 (And.intro @iy.eq_2 (And.intro @gx.eq_1 (And.intro @gx.eq_2 (And.intro @flat.eq_1 (And.intro @flat.eq_2 (And.intro @flat.eq_3 (And.intro @flat.eq_4 (And.intro @flat.eq_5 (And.intro @flat.eq_6 (And.intro @flat.eq_7 @flat.eq_8)))))))))))
def RX:=And.intro @RY @setCells.eq_1
def KW:=
 And.intro @lR (And.intro @mA (And.intro @ig (And.intro @Sx (And.intro @mB (And.intro @mD (And.intro @mC (And.intro @WE (And.intro @WH @SA))))))))
theorem aH{C:bw} {c:bn} {Q:Exit->S->Prop} {α:Type} (hd:α->S) (μ:α->Nat) (I:α->Prop)
  (round:∀x,I x->∀B:S->Prop,(∀y s,I y->μ y<μ x->Le s (hd y)->B s)->aw C c (j5 B Q) (hd x)) (x:α) (hx:I x) {s:S} (h0:Le s (hd x)):aw C (.loop c) Q s:=
 Mr hd μ I (fun x hx=>round x hx _ fun y s hy hμ hle=>rS hle ⟨y,rfl,hy,hμ⟩) hx (.inl h0)
theorem t7(m:List (Nat×Nat)) (nx:Nat) (a a':AV) (q:Option Nat):cR m nx (.dat a q) (.dat a' none)=(a=a'):=by cases q<;>rfl
theorem t8(m:List (Nat×Nat)) (nx:Nat) (a a':AV) (q q':Nat):cR m nx (.dat a (some q)) (.dat a' (some q'))=(a=a'/\q=CA m q'/\q'<nx):=rfl
theorem t9(m:List (Nat×Nat)) (nx:Nat) (b o b' o':Nat):cR m nx (.ptr b o) (.ptr b' o')=(b=b'/\o=o'/\b'<nx):=rfl
theorem Uz(m:List (Nat×Nat)) (nx:Nat) (b o n z b' o' n' z':Nat):cR m nx (.vs b o n z) (.vs b' o' n' z')=((b=b'/\o=o')/\(n=n'/\z=z')/\b'<nx):=rfl
theorem zb(m:List (Nat×Nat)) (nx:Nat) (a b:List AV):cR m nx (.rp a) (.rp b)=(a=b):=rfl
theorem nh(m:List (Nat×Nat)) (nx:Nat):cR m nx .undef .undef=True:=rfl
def Au(a:List (Nat×SV)):List (Nat×SV)->List (Nat×Nat)
 |[]=>[]
 |(t,.dat _ (some q))::r=>match lk t a with
  |some (.dat _ (some q'))=>(q,q')::Au a r
  |_=>Au a r
 |_::r=>Au a r
def I7(a:List (Nat×Nat)):List (Nat×Nat)->List (Nat×Nat)
 |[]=>[]
 |(o,q)::r=>match eK o a with
  |some q'=>(q,q')::I7 a r
  |none=>I7 a r
def yY(a:List (Nat×bY)):List (Nat×bY)->List (Nat×Nat)
 |[]=>[]
 |(b,x)::r=>match ct b a with
  |some y=>I7 y.tags x.tags++yY a r
  |none=>yY a r
theorem ah{sl sl':List (Nat×SV)} {bx bx':List (Nat×bY)} {lv lv':List (Nat×Nat)} {nx nx':Nat} (h:4<=nx') (h1:iZ (Au sl sl'++yY bx bx') nx' sl sl') (h2:i4 (Au sl sl'++yY bx bx') nx' bx bx') (h3:jG (Au sl sl'++yY bx bx') nx' lv lv') (h4:bS (Au sl sl'++yY bx bx') lv'):Le ⟨sl,bx,lv,nx⟩ ⟨sl',bx',lv',nx'⟩:=⟨h,_,h1,h2,h3,h4⟩
def bf{α:Type} (l:List α):Option (List α):=if l=[]then none else some l
def bQ{α:Type} (row:α->List AV) (l:List α) (t:Nat):SV:=if l=[]then .dat .bL none else .dat (.sl (l.map row)) (some t)
def bq{α:Type} (l:List α) (t e:Nat):List (Nat×Nat):=if l=[]then[]else[(t,e)]
def LX:=And.intro @aA.eq_1 (And.intro @bQ.eq_1 (And.intro @bq.eq_1 (And.intro @iZ.eq_1 (And.intro @iZ.eq_2 (And.intro @t7 (And.intro @t8 (And.intro @t9 (And.intro @zb (And.intro @nh (And.intro @Uz (And.intro @i4.eq_1 (And.intro @i4.eq_2 (And.intro @lP.eq_1 (And.intro @lP.eq_2 (And.intro @jG.eq_1 (And.intro @jG.eq_2 (And.intro @Au.eq_1 (And.intro @Au.eq_2 (And.intro @Au.eq_3 (And.intro @yY.eq_1 (And.intro @yY.eq_2 (And.intro @I7.eq_1 (And.intro @I7.eq_2 (And.intro @CA.eq_1 (And.intro @bS.eq_1 (And.intro @C8 (And.intro @uV (And.intro @xl (And.intro @qR (@aG))))))))))))))))))))))))))))))
theorem aF{k:Nat} (h:k<9223372036854775806):IntKind.i64.wrap ((k:Int)+1)=((k+1:Nat):Int):=by rw[bC (by omega) (by omega)];omega
def jw(s:Int):List Int:=((List.range 8).map fun(k:Nat)=>(k:Int)).filter (qh s)
def kg(s:Int) (k:Nat):List Int:=((List.range k).map fun(k:Nat)=>(k:Int)).filter (qh s)
theorem Dd(s:Int) (k:Nat):kg s (k+1)=if qh s k then kg s k++[(k:Int)]else kg s k:=by
 simp only[kg,List.range_succ,List.map_append,List.filter_append,List.map_cons,List.map_nil,List.filter_cons,List.filter_nil]
 split<;>simp
def pI.Spec(C:bw) (f e:Nat):Prop:=∀(s:Int) (fr:Option Nat),(fr=none\/fr=some e/\jw s≠[])->C.c f [I s] (aD aA (bf (jw s))) fr
def uc(l:List Int):Nat->Int
 |0=>0
 |k+1=>if(k:Int)∈l then KV .i64 (uc l k) (2^k)else uc l k
def N6(l:List Int):Int:=uc l 8
def zc.Spec(C:bw) (f:Nat):Prop:=∀l:Option (List Int),(l.getD []).length<=140737488355328->C.c f [aD aA l] (I (N6 (l.getD []))) none
def je(s p:Int):Int:=N6 (jw s++[p])
def sw.Spec(C:bw) (f:Nat):Prop:=∀s p:Int,C.c f [I s,I p] (I (je s p)) none
theorem jU{α:Type} {l:List α} {i:Nat} {x:α} (h:l[i]? =some x):l.take (i+1)=l.take i++[x]:=by
 obtain⟨hi,rfl⟩:=List.getElem?_eq_some_iff.1 h
 rw[List.take_succ_eq_append_getElem hi]
theorem wrap_u64{k:Nat} (h:k<18446744073709551616):IntKind.u64.wrap (k:Int)=k:=by
 simp only[IntKind.wrap,IntKind.bits,IntKind.signed];simp;omega
section
variable{P:Program} (hm:P.follows .mixedOrders=true) {f:Nat}
include hm
theorem pI.ok{fH e:Nat} (hc:de P f=some (tw fH e)) (hH:t6.Spec (Pure P) fH):pI.Spec (Pure P) f e:=by
 intro s fr hfr
 refine aB hm hc (by show 1<=17;decide) (ax (keep:=[]) (i:=0) ?_)
 try simp only[I,B,D,RX,↓KW,seval,tw,Z.H]
 refine aH (fun k:Nat=>(⟨[(4,.dat (I k) none),(0,.dat (I s) none),(3,bQ aA (kg s k) 0)],[],bq (kg s k) 0 e,400⟩:S)) (fun k=>8-k) (fun k=>k<=8) ?_ 0 (by omega) ?_
 ·intro k hk A back
  have hw:=aF (k:=k) (by omega)
  have hn:=Dd s k
  have hlen:(kg s k).length<=k:=by
   have:=List.length_filter_le (qh s) ((List.range k).map fun(k:Nat)=>(k:Int))
   simpa[kg]using this
  by_cases hl:kg s k=[]
  ·try simp only[I,B,D,RX,↓KW,seval,bQ,bq,hl]
   refine aq (fun h=>?_) (fun h=>?_)<;>try simp only[I,B,D,RX,↓KW,seval,h]
   ·have h8:=of_decide_eq_true h
    refine ai (hH _ _) ?_;try simp only[I,B,D,RX,↓KW,seval]
    refine aq (fun h'=>?_) (fun h'=>?_)<;>try simp only[I,B,D,RX,↓KW,seval,h']
    ·refine back (k+1) _ (by omega) (by omega) (ah (by decide) ?_ ?_ ?_ ?_)<;>simp[LX,I,B,D,hn,hl,h',hw]
    ·refine back (k+1) _ (by omega) (by omega) (ah (by decide) ?_ ?_ ?_ ?_)<;>simp[LX,I,B,D,hn,hl,h',hw]
   ·have:k=8:=by have:=of_decide_eq_false h;omega
    subst this
    rcases hfr with rfl|⟨rfl,hne⟩
    ·try simp only[I,B,D,RX,↓KW,seval]
     simp[bf,show jw s=kg s 8 from rfl,hl,aD]
    ·exact absurd hl hne
  ·try simp only[I,B,D,RX,↓KW,seval,bQ,bq,hl]
   refine aq (fun h=>?_) (fun h=>?_)<;>try simp only[I,B,D,RX,↓KW,seval,h]
   ·have h8:=of_decide_eq_true h
    refine ai (hH _ _) ?_;try simp only[I,B,D,RX,↓KW,seval]
    refine aq (fun h'=>?_) (fun h'=>?_)<;>try simp only[I,B,D,RX,↓KW,seval,h']
    ·refine⟨by omega,?_⟩
     refine back (k+1) _ (by omega) (by omega) (ah (by decide) ?_ ?_ ?_ ?_)<;>simp[LX,I,B,D,hn,hl,h',hw]
    ·refine back (k+1) _ (by omega) (by omega) (ah (by decide) ?_ ?_ ?_ ?_)<;>simp[LX,I,B,D,hn,hl,h',hw]
   ·have:k=8:=by have:=of_decide_eq_false h;omega
    subst this
    rcases hfr with rfl|⟨rfl,hne⟩
    ·try simp only[I,B,D,RX,↓KW,seval]
     simp[bf,show jw s=kg s 8 from rfl,hl,aD]
    ·try simp only[I,B,D,RX,↓KW,seval]
     simp[bf,show jw s=kg s 8 from rfl,hl,aD]
 ·refine ah (by decide) ?_ ?_ ?_ ?_<;>simp[LX,I,B,D,kg]
theorem zc.ok(hc:de P f=some xm):zc.Spec (Pure P) f:=by
 intro l hlen
 have hL:((l.getD []).length:Int)<9223372036854775807:=by omega
 refine aB hm hc (by show 1<=28;decide) (ax (keep:=[]) (i:=0) ?_)
 try simp only[I,B,D,RX,↓KW,seval,xm,Z.H,y9]
 refine aH (fun k:Nat=>(⟨[(4,.dat (I k) none),(0,.dat (aD aA l) none),(3,.dat (I (uc (l.getD []) k)) none)],[],[],400⟩:S)) (fun k=>8-k) (fun k=>k<=8) ?_ 0 (by omega) ?_
 ·intro k hk A back
  have hw:=aF (k:=k) (by omega)
  try simp only[I,B,D,RX,↓KW,seval,gU]
  refine aq (fun h=>?_) (fun h=>?_)<;>try simp only[I,B,D,RX,↓KW,seval,h]
  ·have h8:=of_decide_eq_true h
   refine aH (fun j:Nat=>(⟨[(5,.dat (I j) none),(0,.dat (aD aA l) none),(4,.dat (I k) none),(3,.dat (I (uc (l.getD []) k)) none)],[],[],400⟩:S)) (fun j=>(l.getD []).length-j) (fun j=>j<=(l.getD []).length/\∀x∈(l.getD []).take j,x≠k) ?_ 0 (by simp) ?_
   ·intro j ⟨hj,hnot⟩ A' back'
    have hw':=aF (k:=j) (by omega)
    try simp only[I,B,D,RX,↓KW,seval,iG,gU]
    refine aq (fun h'=>?_) (fun h'=>?_)<;>try simp only[I,B,D,RX,↓KW,seval,h']
    ·have h9:=of_decide_eq_true h'
     have hjl:j<(l.getD []).length:=by omega
     obtain⟨x,hx⟩:∃x,(l.getD [])[j]? =some x:=⟨_,List.getElem?_eq_getElem hjl⟩
     have htk:=jU hx
     refine⟨by omega,?_⟩
     try simp only[I,B,D,RX,↓KW,seval,hx,aA]
     refine aq (fun h2=>?_) (fun h2=>?_)<;>try simp only[I,B,D,RX,↓KW,seval,h2]
     ·have hxk:x=k:=by simpa using h2
      have hm:(k:Int)∈l.getD []:=by
       rw[<-hxk];exact List.mem_of_getElem? hx
      rw[wrap_u64 (by omega)]
      refine⟨by omega,?_⟩
      rw[GR (by omega) (by omega)]
      refine back (k+1) _ (by omega) (by omega) (ah (by decide) ?_ ?_ ?_ ?_)<;>simp[LX,I,B,D,hw,uc,hm]
     ·have hxk:x≠k:=by simpa using h2
      refine back' (j+1) _ ⟨by omega,?_⟩ (by omega) ?_
      ·rw[htk];simp only[List.mem_append,List.mem_singleton];rintro y (hy|rfl);exact hnot y hy;exact hxk
      ·refine ah (by decide) ?_ ?_ ?_ ?_<;>simp[LX,I,B,D,hw']
    ·have:j=(l.getD []).length:=by have:=of_decide_eq_false h';omega
     subst this
     have hm:¬(k:Int)∈l.getD []:=by
      intro hk
      exact hnot k (by simpa using hk) rfl
     refine back (k+1) _ (by omega) (by omega) (ah (by decide) ?_ ?_ ?_ ?_)<;>simp[LX,I,B,D,hw,uc,hm]
   ·refine ah (by decide) ?_ ?_ ?_ ?_<;>simp[LX,I,B,D]
  ·have:k=8:=by have:=of_decide_eq_false h;omega
   subst this;rfl
 ·refine ah (by decide) ?_ ?_ ?_ ?_<;>simp[LX,I,B,D,uc]
theorem sw.ok{fL e fO:Nat} (hc:de P f=some (tr fL e fO)) (hL:pI.Spec (Pure P) fL e) (hO:zc.Spec (Pure P) fO):sw.Spec (Pure P) f:=by
 intro s p
 refine aB hm hc (by show 2<=11;decide) (ax (keep:=[]) (i:=0) ?_)
 try simp only[I,B,D,RX,↓KW,seval,tr,Z.H]
 by_cases h:jw s=[]
 ·refine ai (hL s none (.inl rfl)) ?_
  try simp only[I,B,D,RX,↓KW,seval,h,bf,aD]
  refine ai (hO (some [p]) (by simp)) ?_
  try simp only[I,B,D,RX,↓KW,seval]
  simp[je,h]
 ·have hl:(jw s).length<=8:=by
   have:=List.length_filter_le (qh s) ((List.range 8).map fun(k:Nat)=>(k:Int))
   simpa[jw]using this
  refine uU (hL s (some e) (.inr ⟨rfl,h⟩)) ?_;try simp only[I,B,D,RX,↓KW,seval,h,bf,aD]
  refine⟨by omega,?_⟩
  have h2:=hO (some (jw s++[p])) (by simp;omega)
  simp only[aD,Option.getD_some,List.map_append,List.map_cons,List.map_nil,aA,I]at h2;refine ai h2 ?_;try simp only[I,B,D,RX,↓KW,seval]
  simp[je]
end
theorem MI{cs mid:List AV} {off z:Nat} (h:bF cs off (some z)=some (.agg mid)) {j:Nat} (hj:j<z):cs[off+j]? =mid[j]?:=by
 simp only[bF]at h;split at h
 ·simp only[Option.some.injEq,AV.agg.injEq]at h
  rw[<-h,List.getElem?_take_of_lt hj,List.getElem?_drop]
 ·cases h
section
variable{t:Tb} (h:t.Ok)
include h
theorem Tb.wm:t.cells[104]? =some (aD Gr.cells t.groups):=by
 simp[Tb.cells,List.getElem?_append,aY Ph.len,h.phases]
theorem Tb.zf:t.cells[114]? =some (aD Rl.cells t.aR):=by
 simp[Tb.cells,List.getElem?_append,aY Ph.len,h.phases,h.conflict,h.bp,List.getElem?_cons]
theorem Tb.tail_at(j:Nat) (hj:j<5):t.cells[116+j]? =[I t.extend,I t.cU,I t.start,I t.revert,I t.least][j]?:=by
 have:j=0\/j=1\/j=2\/j=3\/j=4:=by omega
 rcases this with rfl|rfl|rfl|rfl|rfl<;>
 simp[Tb.cells,List.getElem?_append,aY Ph.len,h.phases,h.conflict,h.bp,List.getElem?_cons]
theorem Tb.I8:t.cells[130]? =some (I t.share):=by
 simp[Tb.cells,List.getElem?_append,aY Ph.len,h.phases,h.conflict,h.bp,List.getElem?_cons]
omit h in
theorem Tb.I9{i:Nat} {p:Ph} (hp:t.phases[i]? =some p) (j:Nat) (hj:j<13):t.cells[i*13+j]? =p.cells[j]?:=MI (Tb.y8 hp) hj
omit h in
theorem Tb.EE{i:Nat} {p:Ph} (hp:t.phases[i]? =some p):t.cells[i*13]? =some (B p.on)/\t.cells[i*13+1]? =some (I p.min)/\t.cells[i*13+2]? =some (I p.As)/\t.cells[i*13+3]? =some (I p.max)/\t.cells[i*13+4]? =some (I p.top)/\t.cells[i*13+5]? =some (I p.step)/\t.cells[i*13+6]? =some (I p.dO)/\t.cells[i*13+7]? =some (I p.red)/\t.cells[i*13+8]? =some (I p.walk)/\t.cells[i*13+9]? =some (I p.ee)/\t.cells[i*13+10]? =some (I p.gy)/\t.cells[i*13+11]? =some (B p.lock)/\t.cells[i*13+12]? =some (B p.rest):=
 have hj:=fun j hj=>Tb.I9 hp j hj
 ⟨hj 0 (by omega),hj 1 (by omega),hj 2 (by omega),hj 3 (by omega),hj 4 (by omega),hj 5 (by omega),hj 6 (by omega),hj 7 (by omega),hj 8 (by omega),hj 9 (by omega),hj 10 (by omega),hj 11 (by omega),hj 12 (by omega)⟩
theorem Tb.qY{i:Nat} {c:Int} (hc:t.conflict[i]? =some c):t.cells[105+i]? =some (I c):=by
 have hi:i<8:=by have:=(List.getElem?_eq_some_iff.1 hc).1;rw[h.conflict]at this;exact this
 have e:(t.phases.flatMap Ph.cells).length=104:=by rw[aY Ph.len,h.phases]
 unfold Tb.cells
 rw[List.getElem?_append_right (by omega),e,show 105+i-104=i+1 by omega,List.getElem?_cons_succ,List.getElem?_append_left (by simp[h.conflict,hi]),List.getElem?_map,hc];rfl
end
structure Sp where
 group:Int
 ring:Int
 pos:Int
 p:Int
 deriving Inhabited,DecidableEq
def Sp.cells(s:Sp):List AV:=[I s.group,I s.ring,I s.pos,I s.p]
theorem Sp.len(s:Sp):s.cells.length=4:=rfl
theorem Gr.len(s:Gr):s.cells.length=2:=rfl
def Gr.row(g:Gr) (k:Nat):Option (List Int):=if k=0 then g.a else g.b
def eN(g k:Nat) (row:List Int):List Sp:=row.zipIdx.filterMap fun(p,i)=>if 0<=p/\p<8 then some ⟨g,k,i,p⟩else none
def gu(gr:Gr) (g k:Nat):List Sp:=(List.range k).flatMap fun k=>eN g k ((gr.row k).getD [])
def gj(l:List Gr) (n:Nat):List Sp:=(l.take n).zipIdx.flatMap fun(gr,g)=>gu gr g 2
def fe(t:Tb):List Sp:=gj (t.groups.getD []) (t.groups.getD []).length
theorem oH{α:Type} {row:α->List AV} {l:List α} {m:List (Nat×Nat)} {nx t t':Nat} (h:CA m t'=t) (ht:t'<nx):cR m nx (bQ row l t) (bQ row l t'):=by
 unfold bQ;split
 ·exact rfl
 ·exact⟨rfl,h.symm,ht⟩
theorem sA{α:Type} {l:List α} {m:List (Nat×Nat)} {nx t t' e:Nat} (h:CA m t'=t) (ht:t'<nx):jG m nx (bq l t e) (bq l t' e):=by
 unfold bq;split
 ·trivial
 ·simp[jG,h,ht,uV]
theorem lA{α:Type} {l:List α} {m:List (Nat×Nat)} {t e:Nat}:bS m (bq l t e):=by
 unfold bq;split<;>simp[bS]
theorem Av{g k:Nat} {row:List Int} {i:Nat} {x:Int} (h:row[i]? =some x):(0<=x/\x<8->eN g k (row.take (i+1))=eN g k (row.take i)++[⟨g,k,i,x⟩])/\(¬(0<=x/\x<8)->eN g k (row.take (i+1))=eN g k (row.take i)):=by
 have hl:(row.take i).length=i:=uY h
 unfold eN;rw[jU h,List.zipIdx_append,List.filterMap_append,hl]
 constructor<;>intro hx<;>simp[hx]
theorem pJ(g k:Nat) (row:List Int):(eN g k row).length<=row.length:=by
 have:=List.length_filterMap_le (fun(p:Int×Nat)=>if 0<=p.1/\p.1<8 then some (⟨g,k,p.2,p.1⟩:Sp)else none) row.zipIdx
 simpa[eN]using this
theorem mE(gr:Gr) (g k:Nat):gu gr g (k+1)=gu gr g k++eN g k ((gr.row k).getD []):=by
 simp[gu,List.range_succ]
theorem vl{l:List Gr} {g:Nat} {gr:Gr} (h:l[g]? =some gr):gj l (g+1)=gj l g++gu gr g 2:=by
 have hl:(l.take g).length=g:=uY h
 unfold gj;rw[jU h,List.zipIdx_append,List.flatMap_append,hl];simp
theorem xq{gr:Gr} (hr:(gr.a.getD []).length<=1048576/\(gr.b.getD []).length<=1048576) (g k:Nat) (hk:k<=2):(gu gr g k).length<=k*1048576:=by
 have h0:=pJ g 0 (gr.a.getD [])
 have h1:=pJ g 1 (gr.b.getD [])
 have:k=0\/k=1\/k=2:=by omega
 rcases this with rfl|rfl|rfl
 ·simp[gu]
 ·rw[mE,List.length_append]
  have:(gu gr g 0).length=0:=rfl
  have h0':(eN g 0 ((gr.row 0).getD [])).length<=(gr.a.getD []).length:=h0
  omega
 ·rw[mE,mE,List.length_append,List.length_append]
  have:(gu gr g 0).length=0:=rfl
  have h0':(eN g 0 ((gr.row 0).getD [])).length<=(gr.a.getD []).length:=h0
  have h1':(eN g 1 ((gr.row 1).getD [])).length<=(gr.b.getD []).length:=h1
  omega
theorem qZ{t:Tb} (ht:t.Ok):∀n,n<=(t.groups.getD []).length->(gj (t.groups.getD []) n).length<=n*2097152
 |0,_=>by simp[gj]
 |n+1,h=>by
  obtain⟨gr,hgr⟩:∃x,(t.groups.getD [])[n]? =some x:=⟨_,List.getElem?_eq_getElem (by omega)⟩
  have:=qZ ht n (by omega)
  have h2:=xq (ht.rows gr (List.mem_of_getElem? hgr)) n 2 (by omega)
  rw[vl hgr,List.length_append];omega
theorem AW{t:Tb} (ht:t.Ok):(fe t).length<=2199023255552:=by
 have:=qZ ht _ (Nat.le_refl _)
 have:=ht.groups
 simp only[fe];omega
theorem EF{t:Tb} (ht:t.Ok) {g k i:Nat} {gr:Gr} (hg:(t.groups.getD [])[g]? =some gr) (hk:k<2) (hi:i<((gr.row k).getD []).length):((gj (t.groups.getD []) g++gu gr g k++eN g k (((gr.row k).getD []).take i)).length+1)*32<=140737488355328:=by
 have hlt:g<(t.groups.getD []).length:=(List.getElem?_eq_some_iff.1 hg).1
 have h1:=qZ ht g (by omega)
 have hr:=ht.rows gr (List.mem_of_getElem? hg)
 have h2:=xq hr g k (by omega)
 have h3:=pJ g k (((gr.row k).getD []).take i)
 have h4:(((gr.row k).getD []).take i).length<=1048576:=by
  have:k=0\/k=1:=by omega
  rcases this with rfl|rfl
  ·exact Nat.le_trans (List.length_take_le' _ _) hr.1
  ·exact Nat.le_trans (List.length_take_le' _ _) hr.2
 have:=ht.groups
 rw[List.length_append,List.length_append];omega
def fe.Spec(C:bw) (f e:Nat):Prop:=∀(t:Tb) (fr:Option Nat),t.Ok->(fr=none\/fr=some e/\fe t≠[])->C.c f [.agg t.cells] (aD Sp.cells (bf (fe t))) fr
section
variable{P:Program} (hm:P.follows .mixedOrders=true) {f:Nat}
include hm
theorem fe.ok{e:Nat} (hc:de P f=some (qW e)):fe.Spec (Pure P) f e:=by
 intro t fr ht hfr
 have hg:=Tb.wm ht
 refine aB hm hc (by show 1<=56;decide) (ax (keep:=[]) (i:=0) ?_)
 try simp only[I,B,D,RX,↓KW,seval,qW,Z.H]
 refine aH (fun g:Nat=>(⟨[(4,.dat (I g) none),(1,.ptr 4 0),(3,bQ Sp.cells (gj (t.groups.getD []) g) 0)],[(4,⟨t.cells,[]⟩)],bq (gj (t.groups.getD []) g) 0 e,400⟩:S)) (fun g=>(t.groups.getD []).length-g) (fun g=>g<=(t.groups.getD []).length) ?_ 0 (by omega) ?_
 ·intro g hg1 A back
  have hb:=ht.groups
  have hw:=aF (k:=g) (by omega)
  try simp only[I,B,D,RX,↓KW,seval,wk,hg]
  refine aq (fun h=>?_) (fun h=>?_)<;>try simp only[I,B,D,RX,↓KW,seval,wk,hg,h]
  ·have hlt:g<(t.groups.getD []).length:=by have:=of_decide_eq_true h;omega
   obtain⟨gr,hgr⟩:∃x,(t.groups.getD [])[g]? =some x:=⟨_,List.getElem?_eq_getElem hlt⟩
   have hrs:=ht.rows gr (List.mem_of_getElem? hgr)
   refine aH (fun k:Nat=>(⟨[(5,.dat (I k) none),(4,.dat (I g) none),(1,.ptr 4 0),(3,bQ Sp.cells (gj (t.groups.getD []) g++gu gr g k) 0)],[(4,⟨t.cells,[]⟩)],bq (gj (t.groups.getD []) g++gu gr g k) 0 e,400⟩:S)) (fun k=>2-k) (fun k=>k<=2) ?_ 0 (by omega) ?_
   ·intro k hk A1 back1
    have hw1:=aF (k:=k) (by omega)
    try simp only[I,B,D,RX,↓KW,seval]
    refine aq (fun h1=>?_) (fun h1=>?_)<;>try simp only[I,B,D,RX,↓KW,seval,h1]
    ·have hk2:k<2:=by have:=of_decide_eq_true h1;omega
     have hrow:(List.drop k gr.cells)[0]? =some (aD aA (gr.row k)):=by
      have:k=0\/k=1:=by omega
      rcases this with rfl|rfl<;>rfl
     have hrl:((gr.row k).getD []).length<=1048576:=by
      have:k=0\/k=1:=by omega
      rcases this with rfl|rfl
      exact hrs.1;exact hrs.2
     refine aH (fun i:Nat=>(⟨[(6,.dat (I i) none),(5,.dat (I k) none),(4,.dat (I g) none),(1,.ptr 4 0),(3,bQ Sp.cells (gj (t.groups.getD []) g++gu gr g k++eN g k (((gr.row k).getD []).take i)) 0)],[(4,⟨t.cells,[]⟩)],bq (gj (t.groups.getD []) g++gu gr g k++eN g k (((gr.row k).getD []).take i)) 0 e,400⟩:S)) (fun i=>((gr.row k).getD []).length-i) (fun i=>i<=((gr.row k).getD []).length) ?_ 0 (by omega) ?_
     ·intro i hi A2 back2
      have hw2:=aF (k:=i) (by omega)
      try simp only[I,B,D,RX,↓KW,seval,wk,hg,hgr,Gr.len]
      refine⟨by omega,by omega,?_⟩
      try simp only[I,B,D,RX,↓KW,seval,hrow]
      refine aq (fun h2=>?_) (fun h2=>?_)<;>try simp only[I,B,D,RX,↓KW,seval,wk,hg,hgr,Gr.len,h2]
      ·have hil:i<((gr.row k).getD []).length:=by have:=of_decide_eq_true h2;omega
       obtain⟨x,hx⟩:∃x,((gr.row k).getD [])[i]? =some x:=⟨_,List.getElem?_eq_getElem hil⟩
       have hnx:=Av (g:=g) (k:=k) hx
       refine⟨by omega,by omega,?_⟩
       try simp only[I,B,D,RX,↓KW,seval,hrow]
       refine⟨by omega,?_⟩
       try simp only[I,B,D,RX,↓KW,seval,hx,aA,wk]
       repeat' (((first|refine bJ ?_ ?_|refine aq ?_ ?_|refine cX ?_ ?_)<;>intro h)<;>try simp only[I,B,D,RX,↓KW,seval,h])
       ·rename_i ha
        have hx8:0<=x/\x<8:=⟨of_decide_eq_true ha,of_decide_eq_true h⟩
        have hnx:=hnx.1 hx8
        have hsz:=EF ht hgr hk2 hil
        generalize gj (t.groups.getD []) g++gu gr g k=L at*
        by_cases hl:L++eN g k (((gr.row k).getD []).take i)=[]
        ·try simp only[I,B,D,RX,↓KW,seval,bQ,bq,hl]
         refine back2 (i+1) _ (by omega) (by omega) (ah (by decide) ?_ ?_ ?_ ?_)<;>simp[LX,I,B,D,hnx,hw2,Sp.cells,<-List.append_assoc,hl]
        ·try simp only[I,B,D,RX,↓KW,seval,bQ,bq,hl,Sp.len]
         refine⟨hsz,?_⟩
         refine back2 (i+1) _ (by omega) (by omega) (ah (by decide) ?_ ?_ ?_ ?_)<;>simp[LX,I,B,D,hnx,hw2,Sp.cells,<-List.append_assoc,hl]
       ·have hnx:=hnx.2 (by have:=of_decide_eq_false h;omega)
        refine back2 (i+1) _ (by omega) (by omega) (AU [(0,0)] (by decide) ?_ ?_ ?_ lA)<;>simp[oH,sA,iZ,t7,t8,t9,zb,nh,i4,lP,jG,CA,bS,C8,uV,xl,qR,I,B,D,aG,hnx,hw2,<-List.append_assoc]
       ·have hnx:=hnx.2 (by have:=of_decide_eq_false h;omega)
        refine back2 (i+1) _ (by omega) (by omega) (AU [(0,0)] (by decide) ?_ ?_ ?_ lA)<;>simp[oH,sA,iZ,t7,t8,t9,zb,nh,i4,lP,jG,CA,bS,C8,uV,xl,qR,I,B,D,aG,hnx,hw2,<-List.append_assoc]
      ·have:i=((gr.row k).getD []).length:=by have:=of_decide_eq_false h2;omega
       subst this
       have hk1:=mE gr g k
       rw[List.take_length,List.append_assoc,<-hk1]
       refine back1 (k+1) _ (by omega) (by omega) (AU [(0,0)] (by decide) ?_ ?_ ?_ lA)<;>simp[oH,sA,iZ,t7,t8,t9,zb,nh,i4,lP,jG,CA,bS,C8,uV,xl,qR,I,B,D,aG,hw1]
     ·simp[eN]
      refine AU [(0,0)] (by decide) ?_ ?_ ?_ lA<;>simp[oH,sA,lA,iZ,t7,t8,t9,zb,nh,i4,lP,jG,CA,bS,C8,uV,xl,qR,I,B,D,aG]
    ·have:k=2:=by have:=of_decide_eq_false h1;omega
     subst this
     have hg1:=vl hgr
     rw[<-hg1]
     refine back (g+1) _ (by omega) (by omega) (AU [(0,0)] (by decide) ?_ ?_ ?_ lA)<;>simp[oH,sA,iZ,t7,t8,t9,zb,nh,i4,lP,jG,CA,bS,C8,uV,xl,qR,I,B,D,aG,hw]
   ·simp[gu]
    refine AU [(0,0)] (by decide) ?_ ?_ ?_ lA<;>simp[oH,sA,lA,iZ,t7,t8,t9,zb,nh,i4,lP,jG,CA,bS,C8,uV,xl,qR,I,B,D,aG]
  ·have:g=(t.groups.getD []).length:=by have:=of_decide_eq_false h;omega
   subst this
   have hs:fe t=gj (t.groups.getD []) (t.groups.getD []).length:=rfl
   rw[hs]at hfr⊢;generalize gj (t.groups.getD []) (t.groups.getD []).length=L at*
   by_cases hl:L=[]
   ·rcases hfr with rfl|⟨rfl,hne⟩
    ·try simp only[I,B,D,RX,↓KW,seval,bQ,bq,bf,aD,hl]
    ·exact absurd hl hne
   ·rcases hfr with rfl|⟨rfl,hne⟩
    ·try simp only[I,B,D,RX,↓KW,seval,bQ,bq,bf,aD,hl]
    ·try simp only[I,B,D,RX,↓KW,seval,bQ,bq,bf,aD,hl]
 ·simp[gj]
  refine ah (by decide) ?_ ?_ ?_ ?_<;>simp[LX,I,B,D]
end
def ki(l:List Int):Int:=l.foldl Qn 0
def nO(l:List Int):Int:=l.foldl (fun n x=>if x>n then x else n) 0
theorem AX{α β:Type} {f:β->α->β} {b:β} {l:List α} {i:Nat} {x:α} (h:l[i]? =some x):(l.take (i+1)).foldl f b=f ((l.take i).foldl f b) x:=by
 rw[jU h,List.foldl_append];rfl
def vm.Spec(C:bw) (f:Nat):Prop:=∀l:Option (List Int),(l.getD []).length<=140737488355328->C.c f [aD aA l] (I (ki (l.getD []))) none
def most.Spec(C:bw) (f:Nat):Prop:=∀l:Option (List Int),(l.getD []).length<=140737488355328->C.c f [aD aA l] (I (nO (l.getD []))) none
def gl(t:Tb) (p:Int):Sp×Bool:=match(fe t).find? (fun x=>x.p==p)with
 |some x=>(x,true)
 |none=>(⟨0,0,0,0⟩,false)
def where.Spec(C:bw) (f:Nat):Prop:=∀(t:Tb) (p:Int),t.Ok->C.c f [.agg t.cells,I p] (.qf [.agg (gl t p).1.cells,B (gl t p).2]) none
def gw(t:Tb) (p q:Int):Bool:=(gl t p).2&&(gl t q).2&&(gl t p).1.group==(gl t q).1.group&&(gl t p).1.ring !=(gl t q).1.ring
def beside.Spec(C:bw) (f:Nat):Prop:=∀(t:Tb) (p q:Int),t.Ok->C.c f [.agg t.cells,I p,I q] (B (gw t p q)) none
def eH(t:Tb) (p:Int):Ph:=t.phases.getD p.toNat default
def xM(t:Tb) (k:Nat):List Int:=((List.range k).map fun(k:Nat)=>(k:Int)).filter fun p=>(eH t p).on
def De(t:Tb):Int:=N6 (xM t 8)
def on.Spec(C:bw) (f:Nat):Prop:=∀(t:Tb),t.Ok->C.c f [.agg t.cells] (I (De t)) none
theorem GS(t:Tb) (k:Nat):xM t (k+1)=if(eH t k).on then xM t k++[(k:Int)]else xM t k:=by
 simp only[xM,List.range_succ,List.map_append,List.filter_append,List.map_cons,List.map_nil,List.filter_cons,List.filter_nil]
 split<;>simp
theorem vn{t:Tb} (h:t.Ok) {k:Nat} (hk:k<8):t.phases[k]? =some (eH t k):=by
 have:k<t.phases.length:=by rw[h.phases];exact hk
 simp[eH,this]
theorem Tb.BW{t:Tb} (ht:t.Ok) {x:Int} (h0:0<=x) (h8:x<8):t.cells[x.toNat*13]? =some (B (eH t x).on)/\t.cells[x.toNat*13+1]? =some (I (eH t x).min)/\t.cells[x.toNat*13+2]? =some (I (eH t x).As)/\t.cells[x.toNat*13+3]? =some (I (eH t x).max)/\t.cells[x.toNat*13+4]? =some (I (eH t x).top)/\t.cells[x.toNat*13+5]? =some (I (eH t x).step)/\t.cells[x.toNat*13+6]? =some (I (eH t x).dO)/\t.cells[x.toNat*13+7]? =some (I (eH t x).red)/\t.cells[x.toNat*13+8]? =some (I (eH t x).walk)/\t.cells[x.toNat*13+9]? =some (I (eH t x).ee)/\t.cells[x.toNat*13+10]? =some (I (eH t x).gy)/\t.cells[x.toNat*13+11]? =some (B (eH t x).lock)/\t.cells[x.toNat*13+12]? =some (B (eH t x).rest):=by
 have:=Tb.EE (vn ht (k:=x.toNat) (by omega))
 rw[Int.toNat_of_nonneg h0]at this;exact this
theorem Tb.Ja{t:Tb} (ht:t.Ok) {x:Int} (h0:0<=x) (h8:x<8):bF t.cells (x.toNat*13) (some 13)=some (.agg (eH t x).cells):=by
 have:=Tb.y8 (vn ht (k:=x.toNat) (by omega))
 rw[Int.toNat_of_nonneg h0]at this;exact this
theorem MJ{α:Type} {p:α->Bool} {l:List α} {i:Nat} {x:α} (h:l[i]? =some x) (hp:p x=true) (hn:∀y∈l.take i,p y=false):l.find? p=some x:=by
 rw[BV h,List.find?_append]
 have:(l.take i).find? p=none:=by rw[List.find?_eq_none];intro y hy;simp[hn y hy]
 simp[this,hp]
section
variable{P:Program} (hm:P.follows .mixedOrders=true) {f:Nat}
include hm
theorem Sum.ok{fA:Nat} (hc:de P f=some (vf fA)) (hA:Add.Spec (Pure P) fA):vm.Spec (Pure P) f:=by
 intro l hlen
 refine aB hm hc (by show 1<=18;decide) (ax (keep:=[]) (i:=0) ?_)
 try simp only[I,B,D,RX,↓KW,seval,vf,Z.H]
 refine aH (fun i:Nat=>(⟨[(4,.dat (I i) none),(0,.dat (aD aA l) none),(3,.dat (I (ki ((l.getD []).take i))) none)],[],[],400⟩:S)) (fun i=>(l.getD []).length-i) (fun i=>i<=(l.getD []).length) ?_ 0 (by omega) ?_
 ·intro i hi A back
  have hw:=aF (k:=i) (by omega)
  try simp only[I,B,D,RX,↓KW,seval]
  refine aq (fun h=>?_) (fun h=>?_)<;>try simp only[I,B,D,RX,↓KW,seval,h]
  ·have hlt:i<(l.getD []).length:=by have:=of_decide_eq_true h;omega
   obtain⟨x,hx⟩:∃x,(l.getD [])[i]? =some x:=⟨_,List.getElem?_eq_getElem hlt⟩
   have hn:ki ((l.getD []).take (i+1))=Qn (ki ((l.getD []).take i)) x:=AX hx
   refine⟨by omega,?_⟩
   try simp only[I,B,D,RX,↓KW,seval,hx,aA]
   refine ai (hA _ _) ?_;try simp only[I,B,D,RX,↓KW,seval]
   refine back (i+1) _ (by omega) (by omega) (ah (by decide) ?_ ?_ ?_ ?_)<;>simp[LX,I,B,D,hw,hn]
  ·have:i=(l.getD []).length:=by have:=of_decide_eq_false h;omega
   subst this;simp
 ·refine ah (by decide) ?_ ?_ ?_ ?_<;>simp[LX,I,B,D,ki]
theorem vm.ok{fS:Nat} (hc:de P f=some (vc fS)) (hS:vm.Spec (Pure P) fS):vm.Spec (Pure P) f:=by
 intro l hlen
 refine aB hm hc (by show 1<=5;decide) (ax (keep:=[]) (i:=0) ?_)
 try simp only[I,B,D,RX,↓KW,seval,vc,Z.H]
 refine ai (hS l hlen) ?_;try simp only[I,B,D,RX,↓KW,seval]
theorem most.ok(hc:de P f=some tB):most.Spec (Pure P) f:=by
 intro l hlen
 refine aB hm hc (by show 1<=18;decide) (ax (keep:=[]) (i:=0) ?_)
 try simp only[I,B,D,RX,↓KW,seval,tB,Z.H]
 refine aH (fun i:Nat=>(⟨[(4,.dat (I i) none),(0,.dat (aD aA l) none),(3,.dat (I (nO ((l.getD []).take i))) none)],[],[],400⟩:S)) (fun i=>(l.getD []).length-i) (fun i=>i<=(l.getD []).length) ?_ 0 (by omega) ?_
 ·intro i hi A back
  have hw:=aF (k:=i) (by omega)
  try simp only[I,B,D,RX,↓KW,seval]
  refine aq (fun h=>?_) (fun h=>?_)<;>try simp only[I,B,D,RX,↓KW,seval,h]
  ·have hlt:i<(l.getD []).length:=by have:=of_decide_eq_true h;omega
   obtain⟨x,hx⟩:∃x,(l.getD [])[i]? =some x:=⟨_,List.getElem?_eq_getElem hlt⟩
   have hn:nO ((l.getD []).take (i+1))=(if x>nO ((l.getD []).take i)then x else nO ((l.getD []).take i)):=AX hx
   refine⟨by omega,?_⟩
   try simp only[I,B,D,RX,↓KW,seval,hx,aA]
   refine back (i+1) _ (by omega) (by omega) (ah (by decide) ?_ ?_ ?_ ?_)<;>simp[LX,I,B,D,hw,hn]
  ·have:i=(l.getD []).length:=by have:=of_decide_eq_false h;omega
   subst this;simp
 ·refine ah (by decide) ?_ ?_ ?_ ?_<;>simp[LX,I,B,D,nO]
theorem where.ok{fS e:Nat} (hc:de P f=some (qV fS)) (hS:fe.Spec (Pure P) fS e):where.Spec (Pure P) f:=by
 intro t p ht
 have hl:=Tb.len ht
 have hp:=Tb.whole ht
 have hsz:=AW ht
 refine aB hm hc (by show 2<=28;decide) (ax (keep:=[]) (i:=0) ?_)
 try simp only[I,B,D,RX,↓KW,seval,qV,Z.H,hp]
 refine ai (hS t none ht (.inl rfl)) ?_;try simp only[I,B,D,RX,↓KW,seval]
 refine aH (fun i:Nat=>(⟨[(7,.dat (I i) none),(6,.dat (aD Sp.cells (bf (fe t))) none),(1,.dat (I p) none),(4,.ptr 5 0)],[(5,⟨[I 0,I 0,I 0,I 0],[]⟩)],[],400⟩:S)) (fun i=>(fe t).length-i) (fun i=>i<=(fe t).length/\∀x∈(fe t).take i,x.p≠p) ?_ 0 (by simp) ?_
 ·intro i ⟨hi,hnot⟩ A back
  have hw:=aF (k:=i) (by omega)
  have hmk:(bf (fe t)).getD []=fe t:=by unfold bf;split<;>simp_all
  try simp only[I,B,D,RX,↓KW,seval,hmk]
  refine aq (fun h=>?_) (fun h=>?_)<;>try simp only[I,B,D,RX,↓KW,seval,hmk,h]
  ·have hlt:i<(fe t).length:=by have:=of_decide_eq_true h;omega
   obtain⟨x,hx⟩:∃x,(fe t)[i]? =some x:=⟨_,List.getElem?_eq_getElem hlt⟩
   have htk:=jU hx
   refine⟨by omega,?_⟩
   try simp only[I,B,D,RX,↓KW,seval,hx,Sp.len,Sp.cells]
   refine aq (fun h2=>?_) (fun h2=>?_)<;>try simp only[I,B,D,RX,↓KW,seval,hx,Sp.len,Sp.cells,hmk,h2]
   ·have hw2:gl t p=(x,true):=by
     have:(fe t).find? (fun x=>x.p==p)=some x:=MJ hx (by simpa using h2) (fun y hy=>by simpa using hnot y hy)
     simp[gl,this]
    exact⟨by omega,by simp[hw2]⟩
   ·refine back (i+1) _ ⟨by omega,?_⟩ (by omega) ?_
    ·rw[htk];simp only[List.mem_append,List.mem_singleton];rintro y (hy|rfl);exact hnot y hy;simpa using h2
    ·refine ah (by decide) ?_ ?_ ?_ ?_<;>simp[LX,I,B,D,hw]
  ·have:i=(fe t).length:=by have:=of_decide_eq_false h;omega
   subst this
   have hw2:gl t p=(⟨0,0,0,0⟩,false):=by
    have:(fe t).find? (fun x=>x.p==p)=none:=by
     rw[List.find?_eq_none];intro x hx;simpa using hnot x (by simpa using hx)
    simp[gl,this]
   try simp only[I,B,D,RX,↓KW,seval,hw2,Sp.cells]
 ·refine ah (by decide) ?_ ?_ ?_ ?_<;>simp[LX,I,B,D]
theorem beside.ok{fW:Nat} (hc:de P f=some (pZ fW)) (hW:where.Spec (Pure P) fW):beside.Spec (Pure P) f:=by
 intro t p q ht
 have hl:=Tb.len ht
 have hp:=Tb.whole ht
 refine aB hm hc (by show 3<=41;decide) (ax (keep:=[]) (i:=0) ?_)
 try simp only[I,B,D,RX,↓KW,seval,pZ,Z.H,hp,hl]
 repeat' (first|(refine ai (hW t _ ht) ?_;try simp only[I,B,D,RX,↓KW,seval,hp,Sp.cells])|(((first|refine bJ ?_ ?_|refine aq ?_ ?_|refine cX ?_ ?_)<;>intro h)<;>try simp only[I,B,D,RX,↓KW,seval,hp,Sp.cells,h]))
 all_goals simp_all [gw]
theorem on.ok{e fO:Nat} (hc:de P f=some (qS e fO)) (hO:zc.Spec (Pure P) fO):on.Spec (Pure P) f:=by
 intro t ht
 have hl:=Tb.len ht
 have hp:=Tb.whole ht
 refine aB hm hc (by show 1<=20;decide) (ax (keep:=[]) (i:=0) ?_)
 try simp only[I,B,D,RX,↓KW,seval,qS,Z.H,hp,hl]
 refine aH (fun k:Nat=>(⟨[(4,.dat (I k) none),(1,.ptr 4 0),(3,bQ aA (xM t k) 0)],[(4,⟨t.cells,[]⟩)],bq (xM t k) 0 e,400⟩:S)) (fun k=>8-k) (fun k=>k<=8) ?_ 0 (by omega) ?_
 ·intro k hk A back
  have hw:=aF (k:=k) (by omega)
  have hn:=GS t k
  have hlen:(xM t k).length<=k:=by
   have:=List.length_filter_le (fun p=>(eH t p).on) ((List.range k).map fun(k:Nat)=>(k:Int))
   simpa[xM]using this
  by_cases hl:xM t k=[]
  ·try simp only[I,B,D,RX,↓KW,seval,bQ,bq,hl]
   refine aq (fun h=>?_) (fun h=>?_)<;>try simp only[I,B,D,RX,↓KW,seval,h]
   ·have h8:=of_decide_eq_true h
    have hph:=Tb.EE (vn ht (k:=k) (by omega))
    refine⟨by omega,?_⟩
    try simp only[I,B,D,RX,↓KW,seval,hph]
    refine aq (fun h2=>?_) (fun h2=>?_)<;>try simp only[I,B,D,RX,↓KW,seval,h2]
    ·refine back (k+1) _ (by omega) (by omega) (ah (by decide) ?_ ?_ ?_ ?_)<;>simp[LX,I,B,D,hn,hl,h2,hw]
    ·refine back (k+1) _ (by omega) (by omega) (ah (by decide) ?_ ?_ ?_ ?_)<;>simp[LX,I,B,D,hn,hl,h2,hw]
   ·have:k=8:=by have:=of_decide_eq_false h;omega
    subst this;try simp only[I,B,D,RX,↓KW,seval]
    refine ai (hO none (by simp)) ?_
    try simp only[I,B,D,RX,↓KW,seval]
    simp[De,hl]
  ·try simp only[I,B,D,RX,↓KW,seval,bQ,bq,hl]
   refine aq (fun h=>?_) (fun h=>?_)<;>try simp only[I,B,D,RX,↓KW,seval,h]
   ·have h8:=of_decide_eq_true h
    have hph:=Tb.EE (vn ht (k:=k) (by omega))
    refine⟨by omega,?_⟩
    try simp only[I,B,D,RX,↓KW,seval,hph]
    refine aq (fun h2=>?_) (fun h2=>?_)<;>try simp only[I,B,D,RX,↓KW,seval,h2]
    ·refine⟨by omega,?_⟩
     refine back (k+1) _ (by omega) (by omega) (ah (by decide) ?_ ?_ ?_ ?_)<;>simp[LX,I,B,D,hn,hl,h2,hw]
    ·refine back (k+1) _ (by omega) (by omega) (ah (by decide) ?_ ?_ ?_ ?_)<;>simp[LX,I,B,D,hn,hl,h2,hw]
   ·have:k=8:=by have:=of_decide_eq_false h;omega
    subst this;try simp only[I,B,D,RX,↓KW,seval]
    refine ai (hO (some (xM t 8)) (by simp;omega)) ?_
    try simp only[I,B,D,RX,↓KW,seval]
    simp[De]
 ·refine ah (by decide) ?_ ?_ ?_ ?_<;>simp[LX,I,B,D,xM]
end
def q6(t:Tb):Int:=nO ((jw (De t)).map fun p=>ki [(eH t p).dO,(eH t p).red])
def clear.Spec(C:bw) (f:Nat):Prop:=∀(t:Tb),t.Ok->C.c f [.agg t.cells] (I (q6 t)) none
def ud(t:Tb) (p:Int):Int:=if qh (De t) p then ki [nO [oG (eH t p).min,ki [(eH t p).walk,(eH t p).ee],oG (eH t p).top],t.extend,(eH t p).dO,(eH t p).red,t.revert,8]else 0
def serve.Spec(C:bw) (f:Nat):Prop:=∀(t:Tb) (p:Int),t.Ok->C.c f [.agg t.cells,I p] (I (ud t p)) none
def iH(t:Tb) (g:Int) (n:Nat):List Int:=8::(((fe t).take n).filter (fun x=>x.group==g)).map (fun x=>ud t x.p)
def xu(t:Tb) (g:Int):Int:=if g<0\/((t.groups.getD []).length:Int)<=g then 0 else ki (iH t g (fe t).length)
def pass.Spec(C:bw) (f:Nat):Prop:=∀(t:Tb) (g:Int),t.Ok->C.c f [.agg t.cells,I g] (I (xu t g)) none
def qa(t:Tb) (p:Int):Int:=if(gl t p).2&&qh (De t) p then ki (xu t (gl t p).1.group::(List.range (t.groups.getD []).length).map fun(g:Nat)=>xu t g)else 0
def free.Spec(C:bw) (f:Nat):Prop:=∀(t:Tb) (p:Int),t.Ok->C.c f [.agg t.cells,I p] (I (qa t p)) none
def zg(t:Tb) (k:Int):Rl:=(t.aR.getD []).getD k.toNat default
def zh(t:Tb) (k:Int):Int:=if k<0\/((t.aR.getD []).length:Int)<=k then 0 else
 ki [(zg t k).delay,(zg t k).hold,(zg t k).green,(zg t k).green,(zg t k).ke,(zg t k).ke,(zg t k).ke,q6 t,q6 t,q6 t,q6 t,q6 t,t.revert,t.revert,t.revert,60]
def entry.Spec(C:bw) (f:Nat):Prop:=∀(t:Tb) (k:Int),t.Ok->C.c f [.agg t.cells,I k] (I (zh t k)) none
theorem zi{s p:Int} (h:qh s p=true):0<=p/\p<8:=by
 simp only[qh,Bool.and_eq_true,decide_eq_true_eq]at h;exact h.1
theorem xw{s p:Int} (h:p∈jw s):0<=p/\p<8:=zi (List.mem_filter.1 h).2
theorem AY(s:Int):(jw s).length<=8:=by
 have:=List.length_filter_le (qh s) ((List.range 8).map fun(k:Nat)=>(k:Int))
 simpa[jw]using this
theorem cO{α:Type} (l:List α):(bf l).getD []=l:=by unfold bf;split<;>simp_all
theorem tC{α β:Type} {f:α->β} {l:List α} {i:Nat} {x:α} (h:l[i]? =some x):(l.take (i+1)).map f=(l.take i).map f++[f x]:=by rw[jU h];simp
theorem Df{t:Tb} {g:Int} {k:Nat} {x:Sp} (h:(fe t)[k]? =some x):iH t g (k+1)=if x.group==g then iH t g k++[ud t x.p]else iH t g k:=by
 unfold iH;rw[jU h,List.filter_append,List.map_append]
 by_cases hx:x.group==g<;>simp[hx]
theorem zj(t:Tb) (g:Int) (k:Nat):(iH t g k).length<=k+1:=by
 have:=List.length_filter_le (fun x:Sp=>x.group==g) ((fe t).take k)
 have h2:((fe t).take k).length<=k:=List.length_take_le _ _
 simp only[iH,List.length_cons,List.length_map];omega
section
variable{P:Program} (hm:P.follows .mixedOrders=true) {f:Nat}
include hm
theorem clear.ok{fO fL e fS fM:Nat} (hc:de P f=some (qX fO fL e fS fM)) (hO:on.Spec (Pure P) fO) (hL:pI.Spec (Pure P) fL e) (hS:vm.Spec (Pure P) fS) (hM:most.Spec (Pure P) fM):clear.Spec (Pure P) f:=by
 intro t ht
 have hl:=Tb.len ht
 have hp:=Tb.whole ht
 refine aB hm hc (by show 1<=32;decide) (ax (keep:=[]) (i:=0) ?_)
 try simp only[I,B,D,RX,↓KW,seval,qX,Z.H,hp,hl]
 refine ai (hO t ht) ?_;try simp only[I,B,D,RX,↓KW,seval]
 refine ai (hL _ none (.inl rfl)) ?_;try simp only[I,B,D,RX,↓KW,seval]
 have hlen:=AY (De t)
 have hrg:=@xw (De t)
 have hmost:∀G,G=(jw (De t)).map (fun p=>ki [(eH t p).dO,(eH t p).red])->q6 t=nO G:=fun G h=>by rw[h];rfl
 generalize jw (De t)=L at*
 generalize hF:(fun p=>ki [(eH t p).dO,(eH t p).red])=F at*
 have hF':∀p,F p=ki [(eH t p).dO,(eH t p).red]:=fun p=>by rw[<-hF]
 have hmk:=cO L
 refine aH (fun k:Nat=>(⟨[(10,.dat (I k) none),(9,.dat (I L.length) none),(8,.dat (aD aA (bf L)) none),(1,.ptr 4 0),(3,bQ aA ((L.take k).map F) 0)],[(4,⟨t.cells,[]⟩)],bq ((L.take k).map F) 0 e,400⟩:S)) (fun k=>L.length-k) (fun k=>k<=L.length) ?_ 0 (by omega) ?_
 ·intro k hk A back
  have hw:=aF (k:=k) (by omega)
  by_cases hl:(L.take k).map F=[]
  all_goals
   try simp only[I,B,D,RX,↓KW,seval,bQ,bq,hl]
   refine aq (fun h=>?_) (fun h=>?_)<;>try simp only[I,B,D,RX,↓KW,seval,hmk,h]
  ·have hlt:k<L.length:=by have:=of_decide_eq_true h;omega
   obtain⟨x,hx⟩:∃x,L[k]? =some x:=⟨_,List.getElem?_eq_getElem hlt⟩
   have hn:=tC (f:=F) hx
   have hx8:=hrg (List.mem_of_getElem? hx)
   have hph:=Tb.BW ht hx8.1 hx8.2
   refine⟨by omega,?_⟩
   try simp only[I,B,D,RX,↓KW,seval,hx,aA]
   refine⟨by omega,?_⟩
   try simp only[I,B,D,RX,↓KW,seval,hph]
   refine⟨by omega,?_⟩
   try simp only[I,B,D,RX,↓KW,seval,hph]
   refine ai (hS (some [(eH t x).dO,(eH t x).red]) (by simp)) ?_
   try simp only[I,B,D,RX,↓KW,seval]
   refine back (k+1) _ (by omega) (by omega) (ah (by decide) ?_ ?_ ?_ ?_)<;>simp[LX,I,B,D,hn,hl,hw,hF']
  ·have:k=L.length:=by have:=of_decide_eq_false h;omega
   subst this;try simp only[I,B,D,RX,↓KW,seval]
   rw[List.take_length]at hl
   refine ai (hM none (by simp)) ?_
   try simp only[I,B,D,RX,↓KW,seval]
   simp[hmost _ rfl,hl]
  ·have hlt:k<L.length:=by have:=of_decide_eq_true h;omega
   obtain⟨x,hx⟩:∃x,L[k]? =some x:=⟨_,List.getElem?_eq_getElem hlt⟩
   have hn:=tC (f:=F) hx
   have hx8:=hrg (List.mem_of_getElem? hx)
   have hph:=Tb.BW ht hx8.1 hx8.2
   refine⟨by omega,?_⟩
   try simp only[I,B,D,RX,↓KW,seval,hx,aA]
   refine⟨by omega,?_⟩
   try simp only[I,B,D,RX,↓KW,seval,hph]
   refine⟨by omega,?_⟩
   try simp only[I,B,D,RX,↓KW,seval,hph]
   refine ai (hS (some [(eH t x).dO,(eH t x).red]) (by simp)) ?_
   try simp only[I,B,D,RX,↓KW,seval]
   refine⟨by simp;omega,?_⟩
   refine back (k+1) _ (by omega) (by omega) (ah (by decide) ?_ ?_ ?_ ?_)<;>simp[LX,I,B,D,hn,hl,hw,hF']
  ·have:k=L.length:=by have:=of_decide_eq_false h;omega
   subst this;rw[List.take_length]at*;try simp only[I,B,D,RX,↓KW,seval]
   refine ai (hM (some (L.map F)) (by simp;omega)) ?_
   try simp only[I,B,D,RX,↓KW,seval]
   simp[hmost _ rfl]
 ·refine ah (by decide) ?_ ?_ ?_ ?_<;>simp[LX,I,B,D,hmk]
theorem serve.ok{fO fH fC e fS fM:Nat} (hc:de P f=some (mZ fO fH fC e fS fM)) (hO:on.Spec (Pure P) fO) (hH:t6.Spec (Pure P) fH) (hC:Cap.Spec (Pure P) fC) (hS:vm.Spec (Pure P) fS) (hM:most.Spec (Pure P) fM):serve.Spec (Pure P) f:=by
 intro t p ht
 have hl:=Tb.len ht
 have hp:=Tb.whole ht
 have htl:=Tb.tail_at ht
 have h116:=htl 0 (by omega)
 have h119:=htl 3 (by omega)
 refine aB hm hc (by show 2<=39;decide) (ax (keep:=[]) (i:=0) ?_)
 try simp only[I,B,D,RX,↓KW,seval,mZ,Z.H,hp,hl]
 refine ai (hO t ht) ?_;try simp only[I,B,D,RX,↓KW,seval]
 refine ai (hH _ _) ?_;try simp only[I,B,D,RX,↓KW,seval]
 by_cases h:qh (De t) p=true
 ·have hr:=zi h
  have hph:=Tb.Ja ht hr.1 hr.2
  have hx:ud t p=ki [nO [oG (eH t p).min,ki [(eH t p).walk,(eH t p).ee],oG (eH t p).top],t.extend,(eH t p).dO,(eH t p).red,t.revert,8]:=if_pos h
  generalize eH t p=x at*;try simp only[I,B,D,RX,↓KW,seval,h]
  refine⟨by omega,?_⟩
  try simp only[I,B,D,RX,↓KW,seval,hph,Ph.cells,dh]
  refine ai (hC _) ?_;try simp only[I,B,D,RX,↓KW,seval]
  refine ai (hS (some [x.walk,x.ee]) (by simp)) ?_
  try simp only[I,B,D,RX,↓KW,seval]
  refine ai (hC _) ?_;try simp only[I,B,D,RX,↓KW,seval]
  refine ai (hM (some [_,_,_]) (by simp)) ?_
  try simp only[I,B,D,RX,↓KW,seval,h116,h119]
  refine ai (hS (some [_,_,_,_,_,_]) (by simp)) ?_
  try simp only[I,B,D,RX,↓KW,seval,hx]
  rfl
 ·have hx:ud t p=0:=if_neg h
  simp only[Bool.not_eq_true]at h;try simp only[I,B,D,RX,↓KW,seval,h,hx]
theorem pass.ok{e fS fV fs e':Nat} (hc:de P f=some (oc e fS fV fs)) (hS:fe.Spec (Pure P) fS e') (hV:serve.Spec (Pure P) fV) (hs:vm.Spec (Pure P) fs):pass.Spec (Pure P) f:=by
 intro t g ht
 have hl:=Tb.len ht
 have hp:=Tb.whole ht
 have hg:=Tb.wm ht
 refine aB hm hc (by show 2<=39;decide) (ax (keep:=[]) (i:=0) ?_)
 try simp only[I,B,D,RX,↓KW,seval,oc,Z.H,hp,hl]
 by_cases h0:g<0\/((t.groups.getD []).length:Int)<=g
 ·have hx:xu t g=0:=if_pos h0
  repeat' (((first|refine bJ ?_ ?_|refine aq ?_ ?_|refine cX ?_ ?_)<;>intro h)<;>try simp only[I,B,D,RX,↓KW,seval,hg,hx,h])
  simp_all;omega
 ·have hx:xu t g=ki (iH t g (fe t).length):=if_neg h0
  have h1:decide (g<0)=false:=by simp;omega
  have h2:decide (((t.groups.getD []).length:Int)<=g)=false:=by simp;omega
  try simp only[I,B,D,RX,↓KW,seval,h1,hg,h2,hp]
  refine ai (hS t none ht (.inl rfl)) ?_
  have hsz:=AW ht
  have hmk:=cO (fe t)
  try simp only[I,B,D,RX,↓KW,seval,hmk]
  generalize hS':fe t=Z at*
  refine aH (fun k:Nat=>(⟨[(21,.dat (I k) none),(20,.dat (I Z.length) none),(19,.dat (aD Sp.cells (bf Z)) none),(1,.dat (I g) none),(2,.ptr 4 0),(5,bQ aA (iH t g k) 0)],[(4,⟨t.cells,[]⟩)],bq (iH t g k) 0 e,400⟩:S)) (fun k=>Z.length-k) (fun k=>k<=Z.length) ?_ 0 (by omega) ?_
  ·intro k hk A back
   have hw:=aF (k:=k) (by omega)
   have hne:iH t g k≠[]:=by simp[iH]
   try simp only[I,B,D,RX,↓KW,seval,bQ,bq,hne]
   refine aq (fun h=>?_) (fun h=>?_)<;>try simp only[I,B,D,RX,↓KW,seval,hmk,hp,h]
   ·have hlt:k<Z.length:=by have:=of_decide_eq_true h;omega
    obtain⟨x,hx⟩:∃x,Z[k]? =some x:=⟨_,List.getElem?_eq_getElem hlt⟩
    have hn:iH t g (k+1)=if x.group==g then iH t g k++[ud t x.p]else iH t g k:=Df (by rw[hS'];exact hx)
    have hlen:=zj t g k
    refine⟨by omega,?_⟩
    try simp only[I,B,D,RX,↓KW,seval,hx,Sp.len,Sp.cells]
    refine aq (fun h2=>?_) (fun h2=>?_)<;>try simp only[I,B,D,RX,↓KW,seval,hp,h2]
    ·refine ai (hV t _ ht) ?_
     try simp only[I,B,D,RX,↓KW,seval]
     refine⟨by omega,?_⟩
     refine back (k+1) _ (by omega) (by omega) (ah (by decide) ?_ ?_ ?_ ?_)<;>simp[LX,I,B,D,hn,hw,h2,hne]
    ·refine back (k+1) _ (by omega) (by omega) (ah (by decide) ?_ ?_ ?_ ?_)<;>simp[LX,I,B,D,hn,hw,h2,hne]
   ·have:k=Z.length:=by have:=of_decide_eq_false h;omega
    subst this
    have hlen:=zj t g Z.length
    try simp only[I,B,D,RX,↓KW,seval]
    refine ai (hs (some (iH t g Z.length)) (by simp;omega)) ?_
    try simp only[I,B,D,RX,↓KW,seval,hx]
    rfl
  ·refine ah (by decide) ?_ ?_ ?_ ?_<;>simp[LX,I,B,D,iH,hmk,ud]
end
end Go.Eng
