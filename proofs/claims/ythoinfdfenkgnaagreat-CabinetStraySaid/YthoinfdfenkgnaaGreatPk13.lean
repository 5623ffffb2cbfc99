/- The engine and the library,part 13 of 18: what the proofs of this seat need of them. -/
import Derived.Test.YthoinfdfenkgnaaGreatPk12
set_option linter.unnecessarySimpa false
set_option linter.unusedSimpArgs false
set_option linter.unusedVariables false
set_option linter.defProp false
set_option maxRecDepth 10000
set_option maxHeartbeats 4000000
namespace Go.Eng
open Go
section
open Z
def kD:List AV:=[.bool false,.int .i64 0,.int .i64 0,.int .i64 0,.int .i64 0,.int .i64 0,.int .i64 0,.int .i64 0,.int .i64 0,.int .i64 0,.int .i64 0,.bool false,.bool false,.int .i64 0,.int .i64 0,.int .i64 0,.int .i64 0,.int .i64 0,.int .i64 0,.int .i64 0,.bool false,.bool false,.int .i64 0,.int .i64 0,.int .i64 0,.bool false,.bool false,.bool false,.bool false,.bool false,.bool false,.bool false,.bool false]
def rG(g0:Nat):bM:=⟨21,[.cell 2 (some 117)],r [o 1 (w 0),o 2 (.alloc bX)] (r [o 5 (.build [i 0,i 0] [(0,1,k (i (-1))),(1,1,k (i (-1)))]),o 6 (.build [i 0,i 0,i 0,F] [(1,2,t 5)]),o 7 (.build bX [(96,4,t 6)]),o 3 (.alloc bX),n (s 3 7 117)] (j (r [V 8 (i 0)] (u 0 (.loop (r [o 9 (bb .lss 8 (i 8))] (j (c 9 z (.exit 0)) (j (u 1 (r [M 10 8,M 4 10] (R [M 11 4,M 12 4,o 13 (f 1 0),o 14 (A 13 12 8 13),o 15 (L 14 13),o 16 (.call g0 [t 15]),o 17 (f 3 0),o 18 (A 17 11 8 12),n (s 18 16 12)]))) (R [o 19 (bb .add 8 (i 1)),M 8 19]))))))) (r [o 20 (L 3 117),n (s 2 20 117)] y)))⟩
def tJ(g0 g1 g2 g3 g4 g5 g6 g7 g8 g9 g10 g11 g12 g13 g14 g15 g16 g17:Nat):bM:=⟨220,[.cell 6 (some 117)],r [o 3 (w 0),o 4 (w 1),o 5 (w 2),o 6 (.alloc bX)] (r [o 17 (L 4 117),o 7 (.alloc bX),n (s 7 17 117)] (r [o 18 (L 3 131),o 19 (f 4 116),o 20 (l 19),o 21 (f 5 0),o 22 (l 21),o 23 (.call g0 [t 18,t 20,t 22]),o 24 (f 7 116),n (s 24 23 1)] (r [o 25 (L 3 131),o 26 (L 3 131),o 27 (f 7 116),o 28 (l 27),o 29 (.call g1 [t 26,t 28]),o 30 (.call g2 [t 25,t 29]),M 8 30] (r [o 31 (L 3 131),o 32 (f 4 114),o 33 (L 32 2),M 34 8,o 35 (f 5 1),o 36 (l 35),o 37 (L 4 117),o 38 (.call g3 [t 37]),o 39 (L 4 117),o 40 (.call g4 [t 39]),o 41 (.call g5 [t 31,t 33,t 34,t 36,t 38,t 40]),o 42 (f 7 114),n (s 42 41 2)] (r [o 43 (L 3 131),o 44 (f 7 114),o 45 (L 44 2),M 46 8,o 47 (.call g6 [t 43,t 45,t 46]),M 9 47] (r [o 49 (L 3 131),o 50 (f 4 106),o 51 (L 50 8),o 52 (f 5 3),o 53 (l 52),o 54 (f 4 0),o 55 (L 54 96),o 56 (.call g7 [t 49,t 51,t 53,t 55]),M 48 56,o 57 (e 48 0),o 58 (e 48 1),o 10 (.alloc [i 0,i 0,i 0,i 0,i 0,i 0,i 0,i 0]),o 11 (.alloc [i 0,i 0,i 0,F,F]),n (s 10 57 8),n (s 11 58 5)] (r [o 59 (L 10 8),o 60 (f 7 106),n (s 60 59 8)] (r [o 61 (f 11 0),o 62 (l 61),o 63 (f 11 1),o 64 (l 63),o 65 (f 11 2),o 66 (l 65),o 67 (.build [i 0,i 0,i 0,i 0,i 0,i 0] [(0,1,t 62),(1,1,t 64),(2,1,t 66)]),o 12 (.alloc [i 0,i 0,i 0,i 0,i 0,i 0]),n (s 12 67 6)] (j (r [o 68 (f 11 3),o 69 (l 68)] (c 69 (r [o 71 (L 3 131),o 72 (f 4 96),o 73 (L 72 4),o 74 (f 4 0),o 75 (L 74 96),M 76 9,o 77 (.call g8 [t 71,t 73,t 75,t 76]),M 70 77,o 78 (e 70 0),o 79 (e 70 1),o 80 (e 70 2),o 81 (f 7 96),n (s 81 78 4),o 82 (f 12 0),n (s 82 79 1),o 83 (f 12 1),n (s 83 80 1)] (r [o 84 (L 3 131),o 85 (f 4 96),o 86 (L 85 4),o 87 (f 4 0),o 88 (L 87 96),M 89 9,o 90 (.call g9 [t 84,t 86,t 88,t 89]),o 91 (f 12 3),n (s 91 90 1)] (r [o 92 (L 3 131),o 93 (f 4 100),o 94 (L 93 6),o 95 (f 4 0),o 96 (L 95 96),o 97 (f 5 2),o 98 (l 97),o 99 (.call g10 [t 92,t 94,t 96,t 98]),o 100 (f 12 4),n (s 100 99 1)] (r [o 101 (L 3 131),o 102 (f 4 100),o 103 (L 102 6),o 104 (f 4 0),o 105 (L 104 96),o 106 (f 5 2),o 107 (l 106),o 108 (.call g11 [t 101,t 103,t 105,t 107]),o 109 (f 12 5),n (s 109 108 1)] (R [o 110 (f 12 2),n (ss 110 (i 0) 1)]))))) (r [o 111 (f 11 4),o 112 (l 111)] (c 112 (R [o 113 (L 3 131),o 114 (L 3 131),o 115 (f 4 106),o 116 (f 115 1),o 117 (l 116),o 118 (.call g12 [t 114,t 117]),o 119 (.call g13 [t 113,t 118]),o 120 (f 7 96),n (s 120 119 4)]) z)))) (r [V 13 (F)] (j (r [V 121 (i 0)] (u 0 (.loop (r [o 122 (bb .lss 121 (i 8))] (j (c 122 z (.exit 0)) (j (u 1 (r [M 123 121,M 14 123] (r [o 124 (f 12 0),o 125 (l 124),M 126 14,o 127 (.call g14 [t 125,t 126]),o 128 (f 12 1),o 129 (l 128),M 130 14,o 131 (.call g14 [t 129,t 130]),M 132 8,M 133 14,o 134 (.call g14 [t 132,t 133]),o 135 (f 11 3),o 136 (l 135),M 137 136,p 138 (f 7 114) 137,p 139 (f 138 1) 137,p 140 (l 139) 137,p 141 (m 14) 137,p 142 (.call g14 [t 140,t 141]) 137,o 143 (P 137 142),o 144 (f 12 3),o 145 (l 144),M 146 14,o 147 (.call g14 [t 145,t 146]),o 148 (f 12 4),o 149 (l 148),M 150 14,o 151 (.call g14 [t 149,t 150]),o 152 (f 12 5),o 153 (l 152),M 154 14,o 155 (.call g14 [t 153,t 154]),o 156 (f 12 2),o 157 (l 156),M 158 14,o 159 (.call g14 [t 157,t 158]),o 160 (.build [F,F,F,F,F,F,F,F] [(0,1,t 127),(1,1,t 131),(2,1,t 134),(3,1,t 143),(4,1,t 147),(5,1,t 151),(6,1,t 155),(7,1,t 159)]),o 15 (.alloc [F,F,F,F,F,F,F,F]),n (s 15 160 8)] (r [M 161 13,M 162 161,q 163 (m 14) 162,q 164 (f 3 0) 162,q 165 (A 164 163 8 13) 162,q 166 (L 165 13) 162,q 167 (m 14) 162,q 168 (f 4 0) 162,q 169 (A 168 167 8 12) 162,q 170 (L 169 12) 162,q 171 (L 15 8) 162,q 172 (.call g15 [t 166,t 170,t 171]) 162,o 173 (Q 162 172),M 13 173] (R [M 174 14,M 175 14,o 176 (f 3 0),o 177 (A 176 175 8 13),o 178 (L 177 13),M 179 14,o 180 (f 4 0),o 181 (A 180 179 8 12),o 182 (L 181 12),o 183 (L 15 8),o 184 (.call g16 [t 178,t 182,t 183]),o 185 (f 7 0),o 186 (A 185 174 8 12),n (s 186 184 12)]))))) (R [o 187 (bb .add 121 (i 1)),M 121 187]))))))) (r [o 188 (f 11 3),o 189 (l 188),M 190 189,p 191 (f 4 96) 190,p 192 (f 191 3) 190,p 193 (l 192) 190,o 194 (P 190 193),M 195 194,p 196 (f 7 96) 195,p 197 (f 196 3) 195,p 198 (l 197) 195,p 199 (.un .not (t 198)) 195,o 200 (P 195 199),M 201 200,p 202 (f 7 96) 201,p 203 (f 202 0) 201,p 204 (l 203) 201,p 205 (f 4 96) 201,p 206 (f 205 0) 201,p 207 (l 206) 201,p 208 (b .leq 204 207) 201,o 209 (P 201 208),M 16 209] (r [o 210 (L 3 131),o 211 (f 4 100),o 212 (L 211 6),o 213 (f 5 2),o 214 (l 213),M 215 13,M 216 16,o 217 (.call g17 [t 210,t 212,t 214,t 215,t 216]),o 218 (f 7 100),n (s 218 217 6)] (r [o 219 (L 7 117),n (s 6 219 117)] y))))))))))))))⟩
def rH(g0:Nat):bM:=⟨19,[.tmp 2],r [o 1 (w 0),V 2 (i 0)] (r [V 3 (i 0)] (j (r [V 5 (i 0)] (u 0 (.loop (r [o 6 (bb .lss 5 (i 8))] (j (c 6 z (.exit 0)) (j (u 1 (r [M 7 5,M 4 7] (r [M 8 4,o 9 (f 1 0),o 10 (A 9 8 8 12),o 11 (f 10 0),o 12 (l 11),o 13 (bb .eql 12 (i 1))] (c 13 (R [M 14 3,M 15 4,o 16 (.call g0 [t 14,t 15]),M 3 16]) z)))) (R [o 17 (bb .add 5 (i 1)),M 5 17]))))))) (r [M 18 3,M 2 18] y)))⟩
def tK(g0:Nat):bM:=⟨6,[.cell 2 (some 12)],r [o 1 (w 0),o 2 (.alloc aP)] (r [o 3 (L 1 13),o 4 (.call g0 [t 3]),o 5 (.build aP [(0,1,k (i 0)),(1,1,k (i 9999)),(9,3,t 4)]),n (s 2 5 12)] y)⟩
def nv(g0 g1 g2 g3 g4 g5 g6 g7 g8:Nat):bM:=⟨59,[.tmp 6],r [o 3 (w 0),V 6 .aL] (r [V 7 .aL] (j (r [o 13 (f 3 113),o 14 (l 13),o 15 (h 14),V 16 (i 0)] (u 0 (.loop (r [o 17 (b .lss 16 15)] (j (c 17 z (.exit 0)) (j (u 1 (r [M 18 16,o 19 (a 14 16 7),o 20 (L 19 7),o 9 (.alloc [i 0,.float .f64 0,.float .f64 0,.float .f64 0,.float .f64 0,i 0,i 0]),M 8 18,n (s 9 20 7)] (r [M 21 1,M 22 8,o 23 (.build [F,i 0,i 0,i 0,i 0,i 0,F] []),o 24 (.call g0 [t 21,t 22,t 23]),o 10 (.alloc [F,i 0,i 0,i 0,i 0,i 0,F]),n (s 10 24 7)] (r [o 25 (L 9 7),o 26 (f 10 0),o 27 (L 26 2),M 28 2,M 29 8,o 30 (.call g1 []),o 31 (.call g2 [t 28,t 29,t 30]),o 32 (.call g3 [t 25,t 27,t 31]),o 33 (.build [F,i 0,i 0,i 0,i 0,i 0,F] [(0,2,t 32)]),o 11 (.alloc [F,i 0,i 0,i 0,i 0,i 0,F]),n (s 11 33 7)] (r [o 34 (f 11 0),o 35 (L 34 2),o 36 (.call g4 [t 35]),M 12 36] (r [o 37 (f 10 2),o 38 (L 37 2),M 39 12,o 40 (.call g5 [t 38,t 39]),o 41 (f 11 2),n (s 41 40 2)] (r [o 42 (f 9 3),o 43 (l 42),o 44 (.call g6 [t 43]),o 45 (f 9 4),o 46 (l 45),o 47 (.call g6 [t 46]),o 48 (f 10 4),o 49 (L 48 3),M 50 12,o 51 (.call g7 [t 44,t 47,t 49,t 50]),o 52 (f 11 4),n (s 52 51 3)] (R [M 53 7,o 54 (L 11 7),o 55 (.mz g8 7 [t 54]),o 56 (.app g8 7 56 (t 53) (t 55)),M 7 56])))))))) (R [o 57 (bb .add 16 (i 1)),M 16 57]))))))) (r [M 58 7,M 6 58] y)))⟩
def tL(g0 g1 g2:Nat):bM:=⟨49,[.tmp 4],r [o 2 (w 0),V 4 (i 0)] (r [V 5 (i 0)] (j (r [M 9 1,o 10 (h 9),V 11 (i 0)] (u 0 (.loop (r [o 12 (b .lss 11 10)] (j (c 12 z (.exit 0)) (j (u 1 (r [M 13 11,o 14 (a 9 11 7),o 15 (L 14 7),o 7 (.alloc [F,i 0,i 0,i 0,i 0,i 0,F]),M 6 13,n (s 7 15 7)] (j (r [M 16 6,o 17 (f 2 113),o 18 (l 17),o 19 (h 18),o 20 (b .geq 16 19)] (c 20 (.exit 0) z)) (r [o 21 (f 2 113),o 22 (l 21),M 23 6,o 24 (a 22 23 7),o 25 (L 24 7),o 8 (.alloc [i 0,.float .f64 0,.float .f64 0,.float .f64 0,.float .f64 0,i 0,i 0]),n (s 8 25 7)] (r [o 26 (f 7 4),o 27 (f 26 2),o 28 (l 27),M 29 28,q 30 (f 7 0) 29,q 31 (L 30 2) 29,q 32 (.call g0 [t 31]) 29,o 33 (Q 29 32),M 34 33,q 35 (f 8 5) 34,q 36 (l 35) 34,q 37 (f 8 6) 34,q 38 (l 37) 34,q 39 (f 7 2) 34,q 40 (L 39 2) 34,q 41 (.call g1 [t 36,t 38,t 40]) 34,o 42 (Q 34 41)] (c 42 (R [M 43 5,o 44 (f 8 0),o 45 (l 44),o 46 (.call g2 [t 43,t 45]),M 5 46]) z)))))) (R [o 47 (bb .add 11 (i 1)),M 11 47]))))))) (r [M 48 5,M 4 48] y)))⟩
def rI(g0:Nat):bM:=⟨20,[.tmp 2],r [o 1 (w 0),V 2 (i 0)] (r [V 3 (i 0)] (j (r [V 5 (i 0)] (u 0 (.loop (r [o 6 (bb .lss 5 (i 8))] (j (c 6 z (.exit 0)) (j (u 1 (r [M 7 5,M 4 7] (r [M 8 4,o 9 (f 1 0),o 10 (A 9 8 8 12),o 11 (f 10 2),o 12 (f 11 0),o 13 (l 12),o 14 (bb .eql 13 (i 1))] (c 14 (R [M 15 3,M 16 4,o 17 (.call g0 [t 15,t 16]),M 3 17]) z)))) (R [o 18 (bb .add 5 (i 1)),M 5 18]))))))) (r [M 19 3,M 2 19] y)))⟩
def xV(g0 g1 g2 g3 g4 g5 g6 g7 g8 g9 g10 g11:Nat):bM:=⟨159,[.cell 8 (some 4),.tmp 9,.tmp 10],r [o 4 (w 0),o 5 (w 1),o 6 (w 2),o 8 (.alloc [i 0,i 0,i 0,F]),V 9 (i 0),V 10 (i 0)] (j (r [o 19 (f 5 3),o 20 (l 19)] (c 20 (r [o 21 (L 4 131),o 22 (L 5 4),o 23 (L 6 96),M 24 3,o 25 (.call g0 [t 21,t 22,t 23,t 24]),n (s 8 25 4),V 9 (i 0),V 10 (i 0)] y) z)) (r [o 11 (.alloc [i 0,i 0,F,i 0,i 0,F])] (j (r [V 26 (i 0)] (u 0 (.loop (r [o 27 (bb .lss 26 (i 2))] (j (c 27 z (.exit 0)) (j (u 1 (r [M 28 26,M 12 28] (r [o 29 (L 4 131),o 30 (L 5 4),M 31 12,o 32 (.call g1 [t 29,t 30,t 31]),o 33 (L 4 131),o 34 (f 5 0),o 35 (l 34),M 36 12,M 37 12,o 38 (f 5 1),o 39 (A 38 37 2 1),o 40 (l 39),M 41 3,o 42 (.call g2 [t 33,t 35,t 36,t 40,t 41]),o 43 (.build [i 0,i 0,F] [(0,1,t 32),(1,1,t 42)]),o 13 (.alloc [i 0,i 0,F]),n (s 13 43 3)] (r [o 44 (f 13 0),o 45 (l 44),o 46 (bb .geq 45 (i 0)),M 47 46,p 48 (f 13 0) 47,p 49 (l 48) 47,p 50 (A 6 49 8 12) 47,p 51 (L 50 12) 47,p 52 (.call g3 [t 51]) 47,p 53 (.un .not (t 52)) 47,o 54 (P 47 53),o 55 (f 13 2),n (s 55 54 1)] (R [M 56 12,o 57 (L 13 3),o 58 (A 11 56 2 3),n (s 58 57 3)]))))) (R [o 59 (bb .add 26 (i 1)),M 26 59]))))))) (r [o 60 (L 5 4),n (s 8 60 4)] (j (r [o 61 (L 11 6),V 62 (i 0)] (u 2 (.loop (r [o 63 (bb .lss 62 (i 2))] (j (c 63 z (.exit 2)) (j (u 3 (r [M 64 62,o 65 (.DU (t 61) (t 62) 2 3 (some 3)),o 15 (.alloc [i 0,i 0,F]),M 14 64,n (s 15 65 3)] (u 4 (r [o 67 (f 15 2),o 68 (l 67),M 66 68] (c 66 (r [o 69 (f 15 0),o 70 (l 69),o 71 (A 6 70 8 12),o 72 (L 71 12),o 16 (.alloc aP),n (s 16 72 12)] (r [o 73 (f 16 0),o 74 (l 73),o 75 (bb .eql 74 (i 1)),M 76 75,p 77 (f 16 7) 76,p 78 (l 77) 76,p 79 (m 78) 76,p 80 (f 15 1) 79,p 81 (l 80) 79,p 82 (bb .geq 81 (i 0)) 79,p 83 (P 79 82) 76,p 84 (m 83) 76,q 85 (f 15 0) 84,q 86 (l 85) 84,q 87 (f 4 0) 84,q 88 (A 87 86 8 13) 84,q 89 (L 88 13) 84,q 90 (L 16 12) 84,q 91 (.call g4 [t 89,t 90]) 84,q 92 (m 91) 84,p 93 (m 3) 92,p 94 (f 15 0) 92,p 95 (l 94) 92,p 96 (.call g5 [t 93,t 95]) 92,p 97 (.un .not (t 96)) 92,q 98 (P 92 97) 84,p 99 (Q 84 98) 76,o 100 (P 76 99)] (c 100 (R [M 101 10,o 102 (f 15 0),o 103 (l 102),o 104 (.call g6 [t 101,t 103]),M 10 104]) z))) (r [o 106 (f 15 1),o 107 (l 106),o 108 (bb .geq 107 (i 0)),M 105 108] (c 105 (r [o 109 (L 4 131),o 110 (f 5 0),o 111 (l 110),M 112 14,o 113 (f 15 1),o 114 (l 113),o 115 (.call g7 [t 109,t 111,t 112,t 114]),M 17 115] (r [o 116 (L 4 131),o 117 (L 6 96),M 118 17,o 119 (.call g8 [t 116,t 117,t 118])] (c 119 (R [M 120 14,M 121 9,M 122 17,o 123 (.call g6 [t 121,t 122]),o 124 (f 15 1),o 125 (l 124),M 9 123,o 126 (f 8 1),o 127 (A 126 120 2 1),n (s 127 125 1)]) z))) z))))))) (R [o 128 (bb .add 62 (i 1)),M 62 128]))))))) (r [o 129 (L 6 96),o 130 (.call g9 [t 129]),M 18 130] (j (r [M 131 9,M 132 10,o 133 (b .or 131 132),o 134 (bb .eql 133 (i 0)),M 135 134,p 136 (.Gj (t 11) (k (i 0)) 2 3) 135,p 137 (L 136 3) 135,p 138 (L 6 96) 135,p 139 (.call g10 [t 137,t 138]) 135,o 140 (P 135 139),M 141 140,p 142 (.Gj (t 11) (k (i 1)) 2 3) 141,p 143 (L 142 3) 141,p 144 (L 6 96) 141,p 145 (.call g10 [t 143,t 144]) 141,o 146 (P 141 145),M 147 146,p 148 (m 3) 147,p 149 (m 18) 147,p 150 (b .andNot 148 149) 147,p 151 (.call g11 [t 150]) 147,p 152 (bb .geq 151 (i 0)) 147,o 153 (P 147 152)] (c 153 (R [M 154 18,o 155 (f 8 3),n (ss 155 (T) 1),M 10 154]) z)) (r [o 156 (L 8 4),M 157 9,M 158 10,n (s 8 156 4),M 9 157,M 10 158] y))))))))⟩
def rJ(g0 g1 g2 g3 g4 g5:Nat):bM:=⟨52,[.tmp 8],r [o 4 (w 0),o 5 (w 1),o 6 (w 2),o 7 (w 3),V 8 (i 0)] (r [o 17 (L 6 96),o 18 (.call g0 [t 17]),o 9 (.alloc [i 0]),o 10 (.alloc [i 0]),n (s 9 18 1),n (ss 10 (i 0) 1)] (j (r [o 19 (l 9),o 20 (L 4 131),o 21 (.call g1 [t 20]),o 22 (b .and 19 21),o 23 (.call g2 [t 22])] (u 0 (.mI (t 23) [24] [24,11,26,27,28,25,29,30,31,32,13,15,12,14,33,34,35,36,37,16,38,39,40,41,42,43,44,45,46,47,48,49,50] (R [o 11 (.alloc [i 0]),n (s 11 24 1)]) (u 1 (r [o 26 (L 4 131),o 27 (l 11),o 28 (.call g3 [t 26,t 27]),M 25 28,o 29 (e 25 0),o 30 (e 25 1),o 31 (e 25 2),o 32 (e 25 3),o 13 (.alloc [i 0]),o 15 (.alloc [F]),M 12 29,n (s 13 30 1),M 14 31,n (s 15 32 1)] (r [o 33 (l 7),o 34 (l 9),o 35 (b .andNot 33 34),o 36 (.call g2 [t 35])] (u 2 (.mI (t 36) [37] [37,16,38,39,40,41,42,43,44,45,46,47,48,49,50] (R [M 16 37]) (u 3 (r [o 38 (l 15),o 39 (.un .not (t 38)),M 40 39,q 41 (L 4 131) 40,q 42 (L 5 4) 40,q 43 (l 13) 40,q 44 (m 16) 40,q 45 (.call g4 [t 41,t 42,t 43,t 44]) 40,q 46 (.un .not (t 45)) 40,o 47 (Q 40 46)] (c 47 (R [o 48 (l 10),o 49 (l 11),o 50 (.call g5 [t 48,t 49]),n (s 10 50 1)]) z))))))))))) (r [o 51 (l 10),M 8 51] y)))⟩
def Ab(g0 g1 g2:Nat):bM:=⟨53,[.cell 4 (some 4)],r [o 2 (w 0),o 4 (.alloc [i 0,i 0,i 0,F])] (r [o 11 (.build [i 0,i 0] [(0,1,k (i (-1))),(1,1,k (i (-1)))]),o 12 (.build [i 0,i 0,i 0,F] [(1,2,t 11)]),o 5 (.alloc [i 0,i 0,i 0,F]),n (s 5 12 4)] (r [o 14 (L 2 131),M 15 1,o 16 (.call g0 [t 15]),o 17 (.call g1 [t 14,t 16]),M 13 17,o 18 (e 13 0),o 19 (e 13 1),o 20 (e 13 2),o 21 (e 13 3),o 22 (f 5 0),n (s 22 18 1)] (j (r [M 23 1,o 24 (.call g2 [t 23])] (u 0 (.mI (t 24) [25] [25,6,27,28,29,26,30,31,32,33,7,8,9,10,34,35,36,37,38,39,40,41,42,43,44,45,46,47,48,49,50,51] (R [M 6 25]) (u 1 (r [o 27 (L 2 131),M 28 6,o 29 (.call g1 [t 27,t 28]),M 26 29,o 30 (e 26 0),o 31 (e 26 1),o 32 (e 26 2),o 33 (e 26 3),M 7 30,M 8 31,M 9 32,M 10 33] (r [M 34 10,M 35 34,p 36 (m 7) 35,p 37 (f 5 0) 35,p 38 (l 37) 35,p 39 (b .eql 36 38) 35,o 40 (P 35 39),M 41 40,p 42 (m 8) 41,p 43 (f 5 1) 41,p 44 (A 43 42 2 1) 41,p 45 (l 44) 41,p 46 (bb .lss 45 (i 0)) 41,o 47 (P 41 46)] (c 47 (R [M 48 8,M 49 9,o 50 (f 5 1),o 51 (A 50 48 2 1),n (s 51 49 1)]) z))))))) (r [o 52 (L 5 4),n (s 4 52 4)] y))))⟩
def tM:bM:=⟨20,[.tmp 4],r [o 2 (w 0),V 4 (i 0)] (j (r [M 5 1,o 6 (bb .lss 5 (i 0)),M 7 6,q 8 (m 1) 7,q 9 (f 2 114) 7,q 10 (l 9) 7,q 11 (h 10) 7,q 12 (b .geq 8 11) 7,o 13 (Q 7 12)] (c 13 (r [V 4 (i 0)] y) z)) (r [o 14 (f 2 114),o 15 (l 14),M 16 1,o 17 (a 15 16 11),o 18 (f 17 3),o 19 (l 18),M 4 19] y))⟩
def vo(g0:Nat):bM:=⟨30,[.tmp 6],r [o 3 (w 0),o 4 (w 1),o 5 (w 2),V 6 (F)] (j (r [o 9 (f 4 0),o 10 (l 9),o 11 (bb .neq 10 (i 1)),M 12 11,q 13 (f 5 1) 12,q 14 (l 13) 12,o 15 (Q 12 14),M 16 15,q 17 (f 5 5) 16,q 18 (l 17) 16,q 19 (.un .not (t 18)) 16,o 20 (Q 16 19)] (c 20 (r [V 6 (F)] y) z)) (r [o 22 (L 3 13),o 23 (L 4 12),o 24 (L 5 8),o 25 (.build kD [(0,13,t 22),(13,12,t 23),(25,8,t 24)]),o 26 (.call g0 [t 25]),M 21 26,o 27 (e 21 0),o 28 (e 21 1),o 7 (.alloc aP),n (s 7 27 12),M 8 28] (r [M 29 8,M 6 29] y)))⟩
def vp(g0 g1 g2 g3:Nat):bM:=⟨31,[.cell 6 (some 12)],r [o 3 (w 0),o 4 (w 1),o 5 (w 2),o 6 (.alloc aP)] (r [o 9 (L 3 13),o 10 (L 4 12),o 11 (L 5 8),o 12 (.build kD [(0,13,t 9),(13,12,t 10),(25,8,t 11)]),o 7 (.alloc kD),n (s 7 12 33)] (r [o 13 (L 7 33),o 14 (.rW (.func g0) [t 13] []),M 8 14] (j (r [o 15 (f 4 0),o 16 (l 15)] (u 0 (r [o 18 (bb .eql 16 (i 1)),M 17 18] (c 17 (R [o 19 (L 7 33),o 20 (.rW (.func g1) [t 19] []),M 8 20]) (r [o 22 (bb .eql 16 (i 2)),M 21 22] (c 21 (R [o 23 (L 7 33),o 24 (.rW (.func g2) [t 23] []),M 8 24]) (r [o 26 (bb .eql 16 (i 3)),M 25 26] (c 25 (R [o 27 (L 7 33),o 28 (.rW (.func g3) [t 27] []),M 8 28]) z)))))))) (r [M 29 8,o 30 (.eP (t 29) []),n (s 6 30 12)] y))))⟩
def xW:bM:=⟨6,[.cell 2 (some 3)],r [o 1 (w 0),o 2 (.alloc [i 0,i 0,i 0])] (r [o 3 (f 1 3),o 4 (l 3),o 5 (.build [i 0,i 0,i 0] [(0,1,t 4)]),n (s 2 5 3)] y)⟩
def iW:bM:=⟨16,[.cell 6 (some 7)],r [o 5 (w 2),o 6 (.alloc [F,i 0,i 0,i 0,i 0,i 0,F])] (j (r [M 7 1,M 8 0,o 9 (h 8),o 10 (b .lss 7 9)] (c 10 (r [M 11 0,M 12 1,o 13 (a 11 12 7),o 14 (L 13 7),n (s 6 14 7)] y) z)) (r [o 15 (L 5 7),n (s 6 15 7)] y))⟩
def oC(g0:Nat):bM:=⟨35,[.cell 6 (some 2)],r [o 3 (w 0),o 4 (w 1),o 6 (.alloc [F,i 0])] (j (r [M 7 2,o 8 (bb .geq 7 (.float .f64 13920209183539462144)),M 9 8,p 10 (m 2) 9,p 11 (bb .leq 10 (.float .f64 4696837146684686336)) 9,o 12 (P 9 11),o 13 (.un .not (t 12))] (c 13 (r [o 14 (f 4 0),o 15 (l 14),o 16 (f 4 1),o 17 (l 16),o 18 (.call g0 [t 17]),o 19 (.build [F,i 0] [(0,1,t 15),(1,1,t 18)]),n (s 6 19 2)] y) z)) (j (u 0 (r [M 21 2,o 22 (f 3 1),o 23 (l 22),o 24 (b .geq 21 23),M 20 24] (c 20 (r [o 25 (.build [F,i 0] [(0,1,k (T))]),n (s 6 25 2)] y) (r [M 27 2,o 28 (f 3 2),o 29 (l 28),o 30 (b .leq 27 29),M 26 30] (c 26 (r [o 31 (.build [F,i 0] []),n (s 6 31 2)] y) z))))) (r [o 32 (f 4 0),o 33 (l 32),o 34 (.build [F,i 0] [(0,1,t 33)]),n (s 6 34 2)] y)))⟩
def lu:bM:=⟨16,[.tmp 6],r [V 6 (.float .f64 0)] (j (r [M 7 1,M 8 0,o 9 (h 8),o 10 (b .lss 7 9)] (c 10 (r [M 11 0,M 12 1,o 13 (a 11 12 1),o 14 (l 13),M 6 14] y) z)) (r [M 15 2,M 6 15] y))⟩
def vq(g0:Nat):bM:=⟨9,[.tmp 2],r [o 1 (w 0),V 2 (F)] (r [o 3 (f 1 0),o 4 (l 3),M 5 4,q 6 (L 1 2) 5,q 7 (.call g0 [t 6]) 5,o 8 (Q 5 7),M 2 8] y)⟩
def xX(g0:Nat):bM:=⟨14,[.cell 4 (some 2)],r [o 2 (w 0),o 4 (.alloc [i 0,i 0])] (j (r [M 5 1] (c 5 (r [o 6 (f 2 0),o 7 (l 6),o 8 (.call g0 [t 7]),o 9 (.build [i 0,i 0] [(0,1,t 8)]),n (s 4 9 2)] y) z)) (r [o 10 (f 2 1),o 11 (l 10),o 12 (.call g0 [t 11]),o 13 (.build [i 0,i 0] [(1,1,t 12)]),n (s 4 13 2)] y))⟩
def vr(g0:Nat):bM:=⟨50,[.cell 8 (some 3)],r [o 6 (w 2),o 8 (.alloc [i 0,i 0,F])] (j (r [M 11 3,o 12 (.un .not (t 11)),M 13 12,p 14 (L 6 3) 13,p 15 (.build [i 0,i 0,F] []) 13,p 16 (.eqc [.i,.i,.b] false (t 14) (t 15)) 13,o 17 (P 13 16)] (c 17 (r [o 18 (L 6 3),n (s 8 18 3)] y) z)) (r [o 9 (.alloc [i 0,i 0,F])] (j (r [M 19 3] (c 19 (R [o 20 (f 6 0),o 21 (l 20),o 22 (.call g0 [t 21]),o 23 (bb .add 22 (i 1)),o 24 (f 9 0),n (s 24 23 1)]) z)) (j (r [o 25 (f 6 1),o 26 (l 25),o 27 (.call g0 [t 26]),M 10 27] (u 0 (r [o 29 (f 9 0),o 30 (l 29),M 31 0,o 32 (.call g0 [t 31]),o 33 (b .gtr 30 32),M 28 33] (c 28 (R [M 34 1,o 35 (.call g0 [t 34]),o 36 (f 9 2),n (ss 36 (T) 1),o 37 (f 9 1),n (s 37 35 1)]) (r [o 39 (f 6 2),o 40 (l 39),M 41 40,p 42 (m 10) 41,p 43 (bb .gtr 42 (i 0)) 41,o 44 (P 41 43),M 38 44] (c 38 (R [M 45 10,o 46 (bb .sub 45 (i 1)),o 47 (f 9 2),n (ss 47 (T) 1),o 48 (f 9 1),n (s 48 46 1)]) z)))))) (r [o 49 (L 9 3),n (s 8 49 3)] y)))))⟩
def rK(g0:Nat):bM:=⟨11,[.tmp 2],r [V 2 (i 0)] (r [M 6 0,o 7 (.call g0 [t 6]),M 5 7,o 8 (e 5 0),o 9 (e 5 1),M 3 8,M 4 9] (r [M 10 3,M 2 10] y))⟩
def rL:bM:=⟨6,[.tmp 2],r [o 1 (w 0),V 2 (F)] (r [o 3 (f 1 1),o 4 (l 3),o 5 (bb .geq 4 (i 3)),M 2 5] y)⟩
def vt:bM:=⟨25,[.tmp 6],r [o 5 (w 2),V 6 (F)] (j (u 0 (j (u 2 (u 1 (j (j (r [M 8 0,o 9 (bb .gtr 8 (i 0)),M 10 9,p 11 (f 5 0) 10,p 12 (l 11) 10,p 13 (m 0) 10,p 14 (b .geq 12 13) 10,o 15 (P 10 14),M 7 15] (c 7 (.exit 1) z)) (r [M 17 1,o 18 (bb .gtr 17 (i 0)),M 19 18,p 20 (f 5 1) 19,p 21 (l 20) 19,p 22 (m 1) 19,p 23 (b .geq 21 22) 19,o 24 (P 19 23),M 16 24] (c 16 (.exit 2) z))) (.exit 0)))) (j (r [V 6 (T)] y) (.exit 0)))) (r [V 6 (F)] y))⟩
def rM(g0 g1:Nat):bM:=⟨34,[.cell 8 (some 4)],r [o 4 (w 0),o 5 (w 1),o 6 (w 2),o 8 (.alloc [i 0,i 0,i 0,F])] (j (r [o 12 (L 6 96),V 13 (i 0)] (u 0 (.loop (r [o 14 (bb .lss 13 (i 8))] (j (c 14 z (.exit 0)) (j (u 1 (r [o 15 (.DU (t 12) (t 13) 8 12 (some 12)),o 10 (.alloc aP),n (s 10 15 12)] (r [o 16 (L 10 12),o 17 (.call g0 [t 16]),o 18 (.un .not (t 17))] (c 18 (r [o 19 (L 5 4),n (s 8 19 4)] y) z)))) (R [o 20 (bb .add 13 (i 1)),M 13 20]))))))) (j (r [o 21 (L 4 131),o 22 (f 5 0),o 23 (l 22),M 24 3,o 25 (.call g1 [t 21,t 23,t 24]),M 11 25] (r [M 26 11,o 27 (bb .geq 26 (i 0))] (c 27 (R [M 28 11,o 29 (f 5 0),n (s 29 28 1)]) z))) (r [o 30 (f 5 0),o 31 (l 30),o 32 (.build [i 0,i 0] [(0,1,k (i (-1))),(1,1,k (i (-1)))]),o 33 (.build [i 0,i 0,i 0,F] [(0,1,t 31),(1,2,t 32)]),n (s 8 33 4)] y)))⟩
def Ad(g0:Nat):bM:=⟨22,[.tmp 6],r [o 3 (w 0),o 4 (w 1),V 6 (i 0)] (j (r [M 7 2,o 8 (bb .lss 7 (i 0)),M 9 8,q 10 (m 2) 9,q 11 (bb .gtr 10 (i 1)) 9,o 12 (Q 9 11)] (c 12 (r [V 6 (i (-1))] y) z)) (r [o 13 (L 3 131),o 14 (f 4 0),o 15 (l 14),M 16 2,M 17 2,o 18 (f 4 1),o 19 (A 18 17 2 1),o 20 (l 19),o 21 (.call g0 [t 13,t 15,t 16,t 20]),M 6 21] y))⟩
def xY(g0 g1:Nat):bM:=⟨33,[.tmp 10],r [o 5 (w 0),V 10 (i 0)] (j (r [o 13 (L 5 131),M 14 1,M 15 2,o 16 (.call g0 [t 13,t 14,t 15]),o 17 (h 16),V 18 (i 0)] (u 0 (.loop (r [o 19 (b .lss 18 17)] (j (c 19 z (.exit 0)) (j (u 1 (r [M 20 18,o 21 (a 16 18 1),o 22 (l 21),M 11 20,M 12 22] (r [M 23 11,M 24 3,o 25 (b .gtr 23 24),M 26 25,p 27 (m 4) 26,p 28 (m 12) 26,p 29 (.call g1 [t 27,t 28]) 26,o 30 (P 26 29)] (c 30 (r [M 31 11,M 10 31] y) z)))) (R [o 32 (bb .add 18 (i 1)),M 18 32]))))))) (r [V 10 (i (-1))] y))⟩
def Ae:bM:=⟨16,[.tmp 2],r [o 1 (w 0),V 2 (F)] (r [o 3 (f 1 0),o 4 (l 3),o 5 (bb .neq 4 (i 1)),M 6 5,p 7 (f 1 0) 6,p 8 (l 7) 6,p 9 (bb .neq 8 (i 2)) 6,o 10 (P 6 9),M 11 10,p 12 (f 1 0) 11,p 13 (l 12) 11,p 14 (bb .neq 13 (i 3)) 11,o 15 (P 11 14),M 2 15] y)⟩
def vu:bM:=⟨34,[.tmp 4],r [o 2 (w 0),o 3 (w 1),V 4 (F)] (r [o 6 (f 3 2),o 7 (f 6 0),o 8 (l 7),o 9 (bb .eql 8 (i 1)),M 10 9,q 11 (f 3 2) 10,q 12 (f 11 0) 10,q 13 (l 12) 10,q 14 (bb .eql 13 (i 2)) 10,o 15 (Q 10 14),M 5 15] (r [o 16 (f 2 12),o 17 (l 16),M 18 17,p 19 (f 3 1) 18,p 20 (l 19) 18,p 21 (f 2 1) 18,p 22 (l 21) 18,p 23 (b .geq 20 22) 18,o 24 (P 18 23),M 25 24,p 26 (m 5) 25,p 27 (.un .not (t 26)) 25,o 28 (P 25 27),M 29 28,p 30 (f 3 4) 29,p 31 (l 30) 29,p 32 (bb .eql 31 (i 0)) 29,o 33 (P 29 32),M 4 33] y))⟩
def wq(g0 g1:Nat):bM:=⟨55,[.tmp 8],r [o 4 (w 0),V 8 (i 0)] (j (r [M 10 1,o 11 (bb .lss 10 (i 0)),M 12 11,q 13 (m 1) 12,q 14 (f 4 104) 12,q 15 (l 14) 12,q 16 (h 15) 12,q 17 (b .geq 13 16) 12,o 18 (Q 12 17),M 19 18,q 20 (m 2) 19,q 21 (bb .lss 20 (i 0)) 19,o 22 (Q 19 21),M 23 22,q 24 (m 2) 23,q 25 (bb .gtr 24 (i 1)) 23,o 26 (Q 23 25)] (c 26 (r [V 8 (i (-1))] y) z)) (r [o 27 (f 4 104),o 28 (l 27),M 29 1,M 30 2,o 31 (a 28 29 2),o 32 (A 31 30 2 1),o 33 (l 32),M 9 33] (j (r [M 34 3,o 35 (bb .lss 34 (i 0)),M 36 35,q 37 (m 3) 36,q 38 (m 9) 36,q 39 (h 38) 36,q 40 (b .geq 37 39) 36,o 41 (Q 36 40),M 42 41,q 43 (m 9) 42,q 44 (m 3) 42,q 45 (a 43 44 1) 42,q 46 (l 45) 42,q 47 (.mz g0 1 [t 46]) 42,q 48 (.call g1 [t 47]) 42,q 49 (bb .eql 48 (i 0)) 42,o 50 (Q 42 49)] (c 50 (r [V 8 (i (-1))] y) z)) (r [M 51 9,M 52 3,o 53 (a 51 52 1),o 54 (l 53),M 8 54] y))))⟩
def Af(g0 g1:Nat):bM:=⟨33,[.cell 6 none],r [o 3 (w 0),o 4 (w 1),o 6 (.alloc [F])] (j (r [M 8 2,o 9 (A 4 8 8 12),o 10 (L 9 12),o 11 (.call g0 [t 10]),o 12 (.un .not (t 11)),M 13 12,q 14 (m 2) 13,q 15 (A 4 14 8 12) 13,q 16 (f 15 1) 13,q 17 (l 16) 13,q 18 (f 3 119) 13,q 19 (l 18) 13,q 20 (b .lss 17 19) 13,o 21 (Q 13 20)] (c 21 (r [n (ss 6 (F) 1)] y) z)) (j (r [M 22 2,o 23 (f 3 105),o 24 (A 23 22 8 1),o 25 (l 24),o 26 (.call g1 [t 25])] (u 0 (.mI (t 26) [27] [27,7,28,29,30,31,32] (R [M 7 27]) (u 1 (r [M 28 7,o 29 (A 4 28 8 12),o 30 (L 29 12),o 31 (.call g0 [t 30]),o 32 (.un .not (t 31))] (c 32 (r [n (ss 6 (F) 1)] y) z)))))) (r [n (ss 6 (T) 1)] y)))⟩
def tN(g0:Nat):bM:=⟨19,[.tmp 2],r [o 1 (w 0),V 2 (i 0)] (r [V 3 (i 0)] (j (r [o 6 (L 1 96),V 7 (i 0)] (u 0 (.loop (r [o 8 (bb .lss 7 (i 8))] (j (c 8 z (.exit 0)) (j (u 1 (r [M 9 7,o 10 (.DU (t 6) (t 7) 8 12 (some 12)),o 5 (.alloc aP),M 4 9,n (s 5 10 12)] (r [o 11 (f 5 0),o 12 (l 11),o 13 (bb .eql 12 (i 1))] (c 13 (R [M 14 3,M 15 4,o 16 (.call g0 [t 14,t 15]),M 3 16]) z)))) (R [o 17 (bb .add 7 (i 1)),M 7 17]))))))) (r [M 18 3,M 2 18] y)))⟩
def me:bM:=⟨28,[.tmp 4],r [o 2 (w 0),o 3 (w 1),V 4 (F)] (r [o 5 (f 2 1),o 6 (l 5),o 7 (bb .lss 6 (i 0)),M 8 7,p 9 (f 2 2) 8,p 10 (l 9) 8,p 11 (.un .not (t 10)) 8,p 12 (m 11) 8,q 13 (f 2 0) 12,q 14 (l 13) 12,q 15 (A 3 14 8 12) 12,q 16 (f 15 0) 12,q 17 (l 16) 12,q 18 (bb .eql 17 (i 1)) 12,q 19 (m 18) 12,p 20 (f 2 0) 19,p 21 (l 20) 19,p 22 (A 3 21 8 12) 19,p 23 (f 22 7) 19,p 24 (l 23) 19,q 25 (P 19 24) 12,p 26 (Q 12 25) 8,o 27 (P 8 26),M 4 27] y)⟩
def xZ(g0:Nat):bM:=⟨8,[.cell 2 none],r [o 2 (.alloc [i 0])] (j (r [M 4 0,o 5 (.call g0 [t 4])] (u 0 (.mI (t 5) [6] [6,3,7] (R [M 3 6]) (u 1 (r [M 7 3,n (s 2 7 1)] y))))) (r [n (ss 2 (i (-1)) 1)] y))⟩
def vv(g0:Nat):bM:=⟨41,[.tmp 8],r [o 4 (w 0),o 5 (w 1),V 8 (F)] (r [o 14 (L 4 131),M 15 3,o 16 (.call g0 [t 14,t 15]),M 13 16,o 17 (e 13 0),o 18 (e 13 1),o 19 (e 13 2),o 20 (e 13 3),M 9 17,M 10 18,M 11 19,M 12 20] (r [M 21 12,M 22 21,p 23 (m 9) 22,p 24 (f 5 0) 22,p 25 (l 24) 22,p 26 (b .eql 23 25) 22,o 27 (P 22 26),M 28 27,p 29 (m 10) 28,p 30 (m 2) 28,p 31 (b .neq 29 30) 28,o 32 (P 28 31),M 33 32,p 34 (m 11) 33,p 35 (m 10) 33,p 36 (f 5 1) 33,p 37 (A 36 35 2 1) 33,p 38 (l 37) 33,p 39 (b .gtr 34 38) 33,o 40 (P 33 39),M 8 40] y))⟩
def nw(g0 g1 g2 g3 g4 g5:Nat):bM:=⟨120,[.cell 2 (some 12),.tmp 3],r [o 1 (w 0),o 2 (.alloc aP),V 3 (F)] (r [o 6 (f 1 13),o 7 (L 6 12),o 4 (.alloc aP),n (s 4 7 12)] (r [o 8 (f 1 13),o 9 (f 8 1),o 10 (l 9),o 11 (.call g0 [t 10]),o 12 (f 4 0),n (ss 12 (i 1) 1),o 13 (f 4 1),n (s 13 11 1)] (j (r [o 14 (f 1 25),o 15 (f 14 7),o 16 (l 15),M 17 16,p 18 (f 1 13) 17,p 19 (f 18 2) 17,p 20 (f 19 0) 17,p 21 (l 20) 17,p 22 (bb .eql 21 (i 1)) 17,o 23 (P 17 22)] (c 23 (R [o 24 (f 1 13),o 25 (f 24 2),o 26 (L 25 2),o 27 (.call g1 [t 26]),o 28 (f 4 2),n (s 28 27 2)]) (R [o 29 (f 1 0),o 30 (L 29 13),o 31 (f 1 13),o 32 (f 31 2),o 33 (L 32 2),o 34 (f 1 25),o 35 (f 34 3),o 36 (l 35),M 37 36,p 38 (f 1 25) 37,p 39 (f 38 4) 37,p 40 (l 39) 37,p 41 (.un .not (t 40)) 37,o 42 (P 37 41),o 43 (.call g2 [t 30,t 33,t 42]),o 44 (f 4 2),n (s 44 43 2)]))) (j (r [o 45 (f 1 13),o 46 (f 45 2),o 47 (L 46 2),o 48 (.call g3 [t 47]),o 49 (.un .not (t 48)),M 50 49,p 51 (f 4 2) 50,p 52 (f 51 0) 50,p 53 (l 52) 50,p 54 (bb .eql 53 (i 1)) 50,o 55 (P 50 54)] (c 55 (R [o 56 (f 4 7),n (ss 56 (F) 1),o 57 (f 4 8),n (ss 57 (F) 1)]) z)) (r [o 58 (f 1 0),o 59 (L 58 13),o 60 (f 1 13),o 61 (f 60 4),o 62 (l 61),o 63 (f 1 25),o 64 (f 63 2),o 65 (l 64),o 66 (.call g4 [t 59,t 62,t 65]),o 67 (f 4 4),n (s 67 66 1)] (j (r [o 68 (f 1 25),o 69 (f 68 4),o 70 (l 69)] (c 70 (R [o 71 (f 1 13),o 72 (f 71 5),o 73 (l 72),o 74 (.call g0 [t 73]),o 75 (f 4 5),n (s 75 74 1)]) z)) (r [o 76 (f 4 5),o 77 (l 76),o 78 (f 1 0),o 79 (L 78 13),o 80 (f 4 9),o 81 (L 80 3),o 82 (.call g5 [t 79,t 81]),o 83 (b .geq 77 82),M 5 83] (.seq (.kL [o 84 (L 4 12),o 85 (f 1 25),o 86 (f 85 4),o 87 (l 86),M 88 87,p 89 (f 4 7) 88,p 90 (l 89) 88,p 91 (.un .not (t 90)) 88,o 92 (P 88 91),M 93 92,p 94 (f 4 1) 93,p 95 (l 94) 93,p 96 (f 1 0) 93,p 97 (f 96 1) 93,p 98 (l 97) 93,p 99 (b .geq 95 98) 93,o 100 (P 93 99),M 101 100,p 102 (f 4 2) 101,p 103 (L 102 2) 101,p 104 (.call g3 [t 103]) 101,p 105 (.un .not (t 104)) 101,o 106 (P 101 105),M 107 106,p 108 (f 4 4) 107,p 109 (l 108) 107,p 110 (bb .eql 109 (i 0)) 107,p 111 (m 110) 107,q 112 (m 5) 111,p 113 (Q 111 112) 107,p 114 (m 113) 107,q 115 (f 1 25) 114,q 116 (f 115 6) 114,q 117 (l 116) 114,p 118 (Q 114 117) 107,o 119 (P 107 118),n (s 2 84 12),M 3 119] [(3,36),(6,36),(11,36),(14,36),(19,36),(25,36),(33,36)]) y))))))))⟩
def od(g0 g1 g2:Nat):bM:=⟨29,[.cell 2 (some 12)],r [o 1 (w 0),o 2 (.alloc aP)] (j (r [o 4 (f 1 25),o 5 (f 4 0),o 6 (l 5),o 7 (.un .not (t 6))] (c 7 (r [o 8 (L 1 33),o 9 (f 1 13),o 10 (f 9 1),o 11 (l 10),o 12 (.call g0 [t 11]),o 13 (.call g1 [t 8,k (i 0),t 12]),n (s 2 13 12)] y) z)) (r [o 14 (L 1 33),o 15 (.call g1 [t 14,k (i 1),k (i 1)]),o 3 (.alloc aP),n (s 3 15 12)] (.seq (.kL [o 16 (f 1 0),o 17 (L 16 13),o 18 (.build [i 0,i 0] []),o 19 (f 1 25),o 20 (f 19 3),o 21 (l 20),o 22 (.call g2 [t 17,t 18,t 21]),o 23 (f 1 0),o 24 (f 23 2),o 25 (l 24),o 26 (f 3 2),n (s 26 22 2),o 27 (f 3 4),n (s 27 25 1)] [(9,11)]) (r [o 28 (L 3 12),n (s 2 28 12)] y))))⟩
def mg(g0 g1 g2 g3 g4:Nat):bM:=⟨59,[.cell 2 (some 12)],r [o 1 (w 0),o 2 (.alloc aP)] (j (r [o 6 (f 1 25),o 7 (f 6 1),o 8 (l 7)] (c 8 (r [o 9 (L 1 33),o 10 (.call g0 [t 9,k (i 2),k (i 1)]),o 3 (.alloc aP),n (s 3 10 12)] (j (r [o 11 (f 1 13),o 12 (f 11 7),o 13 (l 12)] (c 13 (R [o 14 (f 1 0),o 15 (L 14 13),o 16 (f 1 13),o 17 (f 16 9),o 18 (L 17 3),o 19 (f 1 13),o 20 (f 19 8),o 21 (l 20),o 22 (.call g1 [t 15,t 18,t 21]),o 23 (f 3 9),n (s 23 22 3)]) z)) (r [o 24 (L 3 12),n (s 2 24 12)] y))) z)) (r [o 26 (L 1 33),o 27 (.call g2 [t 26]),M 25 27,o 28 (e 25 0),o 29 (e 25 1),o 4 (.alloc aP),n (s 4 28 12),M 5 29] (j (u 0 (r [M 31 5,M 32 31,p 33 (f 1 25) 32,p 34 (f 33 5) 32,p 35 (l 34) 32,o 36 (P 32 35),M 30 36] (c 30 (R [o 37 (f 4 6),o 38 (l 37),o 39 (.call g3 [t 38]),o 40 (f 4 6),n (s 40 39 1)]) (r [M 42 5,M 41 42] (c 41 (R [o 43 (f 4 4),o 44 (l 43),o 45 (bb .gtr 44 (i 0)),M 46 45,p 47 (f 4 5) 46,p 48 (l 47) 46,p 49 (f 1 0) 46,p 50 (L 49 13) 46,p 51 (f 4 9) 46,p 52 (L 51 3) 46,p 53 (.call g4 [t 50,t 52]) 46,p 54 (b .geq 48 53) 46,o 55 (P 46 54),o 56 (f 4 7),n (ss 56 (T) 1),o 57 (f 4 8),n (s 57 55 1)]) z))))) (r [o 58 (L 4 12),n (s 2 58 12)] y))))⟩
def lz(g0 g1:Nat):bM:=⟨26,[.cell 2 (some 12)],r [o 1 (w 0),o 2 (.alloc aP)] (j (u 0 (r [o 4 (f 1 13),o 5 (f 4 1),o 6 (l 5),o 7 (f 1 0),o 8 (f 7 6),o 9 (l 8),o 10 (b .lss 6 9),M 3 10] (c 3 (r [o 11 (L 1 33),o 12 (f 1 13),o 13 (f 12 1),o 14 (l 13),o 15 (.call g0 [t 14]),o 16 (.call g1 [t 11,k (i 2),t 15]),n (s 2 16 12)] y) (r [o 18 (f 1 0),o 19 (f 18 7),o 20 (l 19),o 21 (bb .gtr 20 (i 0)),M 17 21] (c 17 (r [o 22 (L 1 33),o 23 (.call g1 [t 22,k (i 3),k (i 1)]),n (s 2 23 12)] y) z))))) (r [o 24 (L 1 33),o 25 (.call g1 [t 24,k (i 0),k (i 1)]),n (s 2 25 12)] y))⟩
def lA(g0 g1:Nat):bM:=⟨18,[.cell 2 (some 12)],r [o 1 (w 0),o 2 (.alloc aP)] (j (r [o 3 (f 1 13),o 4 (f 3 1),o 5 (l 4),o 6 (f 1 0),o 7 (f 6 7),o 8 (l 7),o 9 (b .lss 5 8)] (c 9 (r [o 10 (L 1 33),o 11 (f 1 13),o 12 (f 11 1),o 13 (l 12),o 14 (.call g0 [t 13]),o 15 (.call g1 [t 10,k (i 3),t 14]),n (s 2 15 12)] y) z)) (r [o 16 (L 1 33),o 17 (.call g1 [t 16,k (i 0),k (i 1)]),n (s 2 17 12)] y))⟩
def vw:bM:=⟨7,[.tmp 2],r [V 2 (i 0)] (r [M 3 0,o 4 (.mm true [t 3,k (i 0)]),o 5 (.mm false [t 4,k (i 9999)]),o 6 (bb .add 5 (i 1)),M 2 6] y)⟩
def ya:bM:=⟨7,[.tmp 2],r [V 2 (i 0)] (r [M 3 0,o 4 (.mm true [t 3,k (i 0)]),o 5 (.mm false [t 4,k (i 9999)]),o 6 (bb .add 5 (i 1)),M 2 6] y)⟩
def yb:bM:=⟨6,[.tmp 2],r [V 2 (i 0)] (r [M 3 0,o 4 (.mm true [t 3,k (i 0)]),o 5 (.mm false [t 4,k (i 9999)]),M 2 5] y)⟩
def oe(g0:Nat):bM:=⟨40,[.tmp 6],r [o 3 (w 0),V 6 (i 0)] (r [o 10 (f 3 104),o 11 (l 10),o 12 (h 11),M 7 12] (j (r [M 13 1,o 14 (bb .lss 13 (i 0)),M 15 14,q 16 (m 1) 15,q 17 (m 7) 15,q 18 (b .geq 16 17) 15,o 19 (Q 15 18)] (c 19 (R [M 20 7,o 21 (bb .sub 20 (i 1)),M 1 21]) z)) (j (r [M 22 7,V 23 (i 0)] (u 0 (.loop (r [o 24 (b .lss 23 22)] (j (c 24 z (.exit 0)) (j (u 1 (r [M 25 23,M 8 25] (r [M 26 1,o 27 (bb .add 26 (i 1)),M 28 8,o 29 (b .add 27 28),M 30 7,o 31 (b .rem 29 30),M 9 31] (r [o 32 (L 3 131),M 33 9,o 34 (.call g0 [t 32,t 33]),M 35 2,o 36 (b .and 34 35),o 37 (bb .neq 36 (i 0))] (c 37 (r [M 38 9,M 6 38] y) z))))) (R [o 39 (bb .add 23 (i 1)),M 23 39]))))))) (r [V 6 (i (-1))] y))))⟩
def Ag:bM:=⟨31,[.tmp 6],r [o 3 (w 0),V 6 .aL] (j (r [M 7 1,o 8 (bb .lss 7 (i 0)),M 9 8,q 10 (m 1) 9,q 11 (f 3 104) 9,q 12 (l 11) 9,q 13 (h 12) 9,q 14 (b .geq 10 13) 9,o 15 (Q 9 14),M 16 15,q 17 (m 2) 16,q 18 (bb .lss 17 (i 0)) 16,o 19 (Q 16 18),M 20 19,q 21 (m 2) 20,q 22 (bb .gtr 21 (i 1)) 20,o 23 (Q 20 22)] (c 23 (r [V 6 .aL] y) z)) (r [o 24 (f 3 104),o 25 (l 24),M 26 1,M 27 2,o 28 (a 25 26 2),o 29 (A 28 27 2 1),o 30 (l 29),M 6 30] y))⟩
def vz:bM:=⟨7,[.tmp 2],r [V 2 (i 0)] (r [M 3 0,o 4 (.mm true [t 3,k (i 0)]),o 5 (.mm false [t 4,k (i 9999)]),o 6 (bb .add 5 (i 1)),M 2 6] y)⟩
def CG:bM:=⟨8,[.cell 2 (some 2)],r [o 1 (w 0),o 2 (.alloc [i 0,i 0])] (j (r [o 3 (f 1 0),o 4 (l 3),o 5 (bb .eql 4 (i 1))] (c 5 (r [o 6 (.build [i 0,i 0] [(0,1,k (i 2)),(1,1,k (i 1))]),n (s 2 6 2)] y) z)) (r [o 7 (L 1 2),n (s 2 7 2)] y))⟩
def Ah(g0:Nat):bM:=⟨53,[.cell 6 (some 2)],r [o 3 (w 0),o 4 (w 1),o 6 (.alloc [i 0,i 0])] (j (u 0 (r [o 8 (f 4 0),o 9 (l 8),o 10 (bb .eql 9 (i 1)),M 11 10,p 12 (f 4 1) 11,p 13 (l 12) 11,p 14 (f 3 8) 11,p 15 (l 14) 11,p 16 (b .geq 13 15) 11,o 17 (P 11 16),M 7 17] (c 7 (r [o 18 (.build [i 0,i 0] [(0,1,k (i 2)),(1,1,k (i 1))]),n (s 6 18 2)] y) (r [o 20 (f 4 0),o 21 (l 20),o 22 (bb .eql 21 (i 2)),M 23 22,p 24 (f 4 1) 23,p 25 (l 24) 23,p 26 (f 3 9) 23,p 27 (l 26) 23,p 28 (b .geq 25 27) 23,o 29 (P 23 28),M 19 29] (c 19 (r [o 30 (.build [i 0,i 0] [(0,1,k (i 0))]),n (s 6 30 2)] y) (j (r [o 32 (f 4 0),o 33 (l 32),o 34 (bb .eql 33 (i 1)),M 31 34] (c 31 z (R [o 35 (f 4 0),o 36 (l 35),o 37 (bb .eql 36 (i 2)),M 31 37]))) (c 31 (r [o 38 (f 4 0),o 39 (l 38),o 40 (f 4 1),o 41 (l 40),o 42 (.call g0 [t 41]),o 43 (.build [i 0,i 0] [(0,1,t 39),(1,1,t 42)]),n (s 6 43 2)] y) (r [M 45 2,M 46 45,p 47 (f 3 8) 46,p 48 (l 47) 46,p 49 (bb .gtr 48 (i 0)) 46,o 50 (P 46 49),M 44 50] (c 44 (r [o 51 (.build [i 0,i 0] [(0,1,k (i 1)),(1,1,k (i 1))]),n (s 6 51 2)] y) z))))))))) (r [o 52 (.build [i 0,i 0] []),n (s 6 52 2)] y))⟩
def tO:bM:=⟨11,[.tmp 2],r [o 1 (w 0),V 2 (F)] (r [o 3 (f 1 0),o 4 (l 3),o 5 (bb .eql 4 (i 1)),M 6 5,q 7 (f 1 0) 6,q 8 (l 7) 6,q 9 (bb .eql 8 (i 2)) 6,o 10 (Q 6 9),M 2 10] y)⟩
def Ai:bM:=⟨19,[.tmp 6],r [o 3 (w 0),V 6 (i 0)] (j (u 0 (j (u 3 (j (u 2 (j (u 1 (j (j (r [M 8 2,M 7 8] (c 7 (.exit 1) z)) (j (r [M 10 1,o 11 (bb .gtr 10 (i 9999)),M 9 11] (c 9 (.exit 2) z)) (r [M 13 1,o 14 (bb .gtr 13 (i 0)),M 12 14] (c 12 (.exit 3) z)))) (.exit 0))) (j (r [o 15 (f 3 2),o 16 (l 15),M 6 16] y) (.exit 0)))) (R [V 1 (i 9999)]))) (j (r [M 17 1,o 18 (bb .sub 17 (i 1)),M 6 18] y) (.exit 0)))) (r [V 6 (i 0)] y))⟩
def yc:bM:=⟨13,[.tmp 4],r [o 2 (w 0),o 3 (w 1),V 4 (i 0)] (r [o 5 (f 3 0),o 6 (l 5),o 7 (f 2 4),o 8 (l 7),o 9 (.mm false [t 6,t 8]),o 10 (f 2 3),o 11 (l 10),o 12 (.mm true [t 9,t 11]),M 4 12] y)⟩
def pQ:bM:=⟨13,[.cell 6 (some 12)],r [o 3 (w 0),o 6 (.alloc aP)] (r [M 7 1,M 8 2,o 9 (f 3 13),o 10 (f 9 9),o 11 (L 10 3),o 12 (.build aP [(0,1,t 7),(1,1,t 8),(9,3,t 11)]),n (s 6 12 12)] y)⟩
def Aj(g0 g1 g2:Nat):bM:=⟨52,[.cell 6 (some 3)],r [o 3 (w 0),o 4 (w 1),o 6 (.alloc [i 0,i 0,i 0])] (r [o 8 (L 3 13),o 9 (L 4 3),o 10 (.call g0 [t 8,t 9]),o 11 (f 4 1),o 12 (l 11),o 13 (.mm true [t 12,k (i 0)]),o 14 (.mm false [t 13,k (i 1)]),o 15 (bb .add 14 (i 1)),o 16 (f 4 2),o 17 (l 16),o 18 (.mm true [t 17,k (i 0)]),o 19 (.mm false [t 18,k (i 1)]),o 20 (bb .add 19 (i 1)),o 21 (.build [i 0,i 0,i 0] [(0,1,t 10),(1,1,t 15),(2,1,t 20)]),o 7 (.alloc [i 0,i 0,i 0]),n (s 7 21 3)] (j (r [M 22 2] (c 22 (R [o 23 (f 7 2),n (ss 23 (i 0) 1)]) (R [o 24 (f 7 1),n (ss 24 (i 0) 1)]))) (j (u 0 (r [o 26 (f 7 1),o 27 (l 26),o 28 (bb .eql 27 (i 2)),M 25 28] (c 25 (R [o 29 (f 7 0),o 30 (l 29),o 31 (f 3 5),o 32 (l 31),o 33 (.call g1 [t 30,t 32]),o 34 (f 7 1),n (ss 34 (i 0) 1),o 35 (f 7 0),n (s 35 33 1)]) (r [o 37 (f 7 2),o 38 (l 37),o 39 (bb .eql 38 (i 2)),M 36 39] (c 36 (R [o 40 (f 7 0),o 41 (l 40),o 42 (f 3 5),o 43 (l 42),o 44 (.call g2 [t 41,t 43]),o 45 (f 7 2),n (ss 45 (i 0) 1),o 46 (f 7 0),n (s 46 44 1)]) z))))) (r [o 47 (L 3 13),o 48 (L 7 3),o 49 (.call g0 [t 47,t 48]),o 50 (f 7 0),n (s 50 49 1)] (r [o 51 (L 7 3),n (s 6 51 3)] y)))))⟩
def rN(g0 g1:Nat):bM:=⟨14,[.tmp 4],r [o 2 (w 0),V 4 (i 0)] (r [o 5 (L 2 131),M 6 1,o 7 (.call g0 [t 5,t 6,k (i 0)]),o 8 (.call g1 [t 7]),o 9 (L 2 131),M 10 1,o 11 (.call g0 [t 9,t 10,k (i 1)]),o 12 (.call g1 [t 11]),o 13 (b .or 8 12),M 4 13] y)⟩
def Ak:bM:=⟨7,[.tmp 2],r [V 2 (i 0)] (r [M 3 0,o 4 (.mm true [t 3,k (i 0)]),o 5 (.mm false [t 4,k (i 9999)]),o 6 (bb .add 5 (i 1)),M 2 6] y)⟩
def Am:bM:=⟨26,[.tmp 4],r [V 4 (i 0)] (j (u 0 (r [M 6 1,o 7 (bb .gtr 6 (i 0)),M 8 7,p 9 (m 0) 8,p 10 (m 1) 8,p 11 (.bin .sub (k (i 9223372036854775807)) (t 10)) 8,p 12 (b .gtr 9 11) 8,o 13 (P 8 12),M 5 13] (c 5 (r [V 4 (i 9223372036854775807)] y) (r [M 15 1,o 16 (bb .lss 15 (i 0)),M 17 16,p 18 (m 0) 17,p 19 (m 1) 17,p 20 (.bin .sub (k (i (-9223372036854775808))) (t 19)) 17,p 21 (b .lss 18 20) 17,o 22 (P 17 21),M 14 22] (c 14 (r [V 4 (i (-9223372036854775808))] y) z))))) (r [M 23 0,M 24 1,o 25 (b .add 23 24),M 4 25] y))⟩
def yd:bM:=⟨26,[.tmp 4],r [V 4 (i 0)] (j (u 0 (r [M 6 1,o 7 (bb .gtr 6 (i 0)),M 8 7,p 9 (m 0) 8,p 10 (m 1) 8,p 11 (.bin .add (k (i (-9223372036854775808))) (t 10)) 8,p 12 (b .lss 9 11) 8,o 13 (P 8 12),M 5 13] (c 5 (r [V 4 (i (-9223372036854775808))] y) (r [M 15 1,o 16 (bb .lss 15 (i 0)),M 17 16,p 18 (m 0) 17,p 19 (m 1) 17,p 20 (.bin .add (k (i 9223372036854775807)) (t 19)) 17,p 21 (b .gtr 18 20) 17,o 22 (P 17 21),M 14 22] (c 14 (r [V 4 (i 9223372036854775807)] y) z))))) (r [M 23 0,M 24 1,o 25 (b .sub 23 24),M 4 25] y))⟩
end
def lQ(t:Tb) (g r:Int):Option (List Int):=if g<0\/((t.groups.getD []).length:Int)<=g\/r<0\/1<r then none else(((t.groups.getD []).getD g.toNat default).row r.toNat)
theorem CH{t:Tb} (h:t.Ok) (g r:Int):((lQ t g r).getD []).length<=1048576:=by
 unfold lQ;split
 ·simp
 ·rename_i hn
  have hlt:g.toNat<(t.groups.getD []).length:=by omega
  have hm:(t.groups.getD []).getD g.toNat default∈t.groups.getD []:=by
   rw[List.getD_eq_getElem?_getD,List.getElem?_eq_getElem hlt];exact List.getElem_mem hlt
  have:=h.rows _ hm
  unfold Gr.row;split
  ·exact this.1
  ·exact this.2
def VL(t:Tb) (g r at' want:Int) (i:Nat):Bool:=decide ((i:Int)>at')&&ej want (((lQ t g r).getD []).getD i 0)
def WH(t:Tb) (g r at' want:Int):Int:=match(List.range ((lQ t g r).getD []).length).find? (VL t g r at' want)with
 |some i=>i
 |none=>-1
def WJ(t:Tb) (g:Int):Int:=yE .i64 (U7 ((lQ t g 0).getD [])) (U7 ((lQ t g 1).getD []))
def ZK(t:Tb) (g:Int):Int:=if g<0\/((t.groups.getD []).length:Int)<=g then IntKind.i64.wrap ((t.groups.getD []).length-1)else g
def WK(t:Tb) (g:Int) (k:Nat):Int:=(IntKind.i64.wrap (IntKind.i64.wrap (ZK t g+1)+k)).tmod (t.groups.getD []).length
def fwP(t:Tb) (g want:Int) (k:Nat):Bool:=dw .i64 (WJ t (WK t g k)) want !=0
def WL(t:Tb) (g want:Int):Int:=match(List.range (t.groups.getD []).length).find? (fwP t g want)with
 |some k=>WK t g k
 |none=>-1
def Jp(t:Tb) (g r pl:Int):Int:=
 if g<0\/((t.groups.getD []).length:Int)<=g\/r<0\/1<r then -1
 else if pl<0\/(((lQ t g r).getD []).length:Int)<=pl then -1
 else if 0<=((lQ t g r).getD []).getD pl.toNat 0/\((lQ t g r).getD []).getD pl.toNat 0<8 then((lQ t g r).getD []).getD pl.toNat 0 else -1
def gL.at(r:gL) (k:Int):Int:=if k=0 then r.a0 else r.a1
def tP(t:Tb) (r:gL) (k:Int):Int:=if k<0\/1<k then -1 else Jp t r.group k (r.at k)
def AI(s:Int):Int:=match(fJ s).head? with
 |some p=>p
 |none=>-1
def RH(p:Ph) (r:Rn):Bool:=p.rest&&decide (r.time>=p.min)&& !(r.fst==1||r.fst==2)&&r.left==0
def ZL(t:Tb) (r:gL) (ring q:Int):Bool:=(aR t q).2&&(aR t q).1.group==r.group&&(aR t q).1.ring !=ring&&decide ((aR t q).1.pos>r.at (aR t q).1.ring)
theorem CI{t:Tb} {q:Int} (h:(aR t q).2=true):0<=(aR t q).1.ring/\(aR t q).1.ring<2:=by
 unfold aR at h⊢;split at h
 ·rename_i x hx
  have hm:=List.mem_of_find?_eq_some hx
  show 0<=x.ring/\x.ring<2
  clear h;simp only[cU,dm,List.mem_flatMap]at hm;obtain⟨⟨gr,g⟩,_,hm⟩:=hm;simp only[dz,List.mem_flatMap,List.mem_range]at hm;obtain⟨k,hk,hm⟩:=hm;simp only[bY,List.mem_filterMap]at hm;obtain⟨⟨p,i⟩,_,hm⟩:=hm;split at hm
  ·cases hm;simp only;omega
  ·cases hm
 ·cases h
def EI.Spec(C:aS) (f:Nat):Prop:=∀(t:Tb) (g r:Int),t.Ok->C.c f [.agg t.cells,I g,I r] (aH aD (lQ t g r)) none
def CJ.Spec(C:aS) (f:Nat):Prop:=∀(t:Tb) (g r at' want:Int),t.Ok->C.c f [.agg t.cells,I g,I r,I at',I want] (I (WH t g r at' want)) none
def HY.Spec(C:aS) (f:Nat):Prop:=∀(t:Tb) (g:Int),t.Ok->C.c f [.agg t.cells,I g] (I (WJ t g)) none
def HZ.Spec(C:aS) (f:Nat):Prop:=∀(t:Tb) (g want:Int),t.Ok->C.c f [.agg t.cells,I g,I want] (I (WL t g want)) none
def CL.Spec(C:aS) (f:Nat):Prop:=∀r:Rn,C.c f [.agg r.cells] (B (iu r)) none
def L7.Spec(C:aS) (f:Nat):Prop:=∀(t:Tb) (g r pl:Int),t.Ok->C.c f [.agg t.cells,I g,I r,I pl] (I (Jp t g r pl)) none
def H6.Spec(C:aS) (f:Nat):Prop:=∀(t:Tb) (r:gL) (k:Int),t.Ok->C.c f [.agg t.cells,.agg r.cells,I k] (I (tP t r k)) none
def pR.Spec(C:aS) (f:Nat):Prop:=∀l:List Rn,l.length=8->C.c f [.agg (cz l)] (I (Kw fun p=>ga (bp l p))) none
def ye.Spec(C:aS) (f:Nat):Prop:=∀(t:Tb) (r:gL) (k q:Int),t.Ok->C.c f [.agg t.cells,.agg r.cells,I k,I q] (B (ZL t r k q)) none
def yf.Spec(C:aS) (f:Nat):Prop:=∀(p:Ph) (r:Rn),C.c f [.agg p.cells,.agg r.cells] (B (RH p r)) none
def H7.Spec(C:aS) (f:Nat):Prop:=∀(t:Tb) (l:List Rn) (p:Nat),t.Ok->l.length=8->p<8->C.c f [.agg t.cells,.agg (cz l),I p] (B (nr t l p)) none
def uJ.Spec(C:aS) (f:Nat):Prop:=∀s:Int,C.c f [I s] (I (AI s)) none
section
variable{P:Program} (hm:P.follows .mixedOrders=true) {f:Nat}
include hm
theorem CL.ok(hc:bF P f=some Ae):CL.Spec (Pure P) f:=by
 intro r
 refine ak hm hc (by show 1<=16;decide) (aj (keep:=[]) (i:=0) ?_)
 try simp only[I,B,RX,↓KW,seval,Ae,Z.H,Rn.cells]
 repeat' (((first|refine aV ?_ ?_|refine ax ?_ ?_|refine bC ?_ ?_)<;>intro h)<;>try simp only[RX,↓KW,seval,h])
 all_goals(try simp only[iu])
 all_goals(cases e1:(r.aQ !=1)<;>cases e2:(r.aQ !=2)<;>simp_all [])
theorem uJ.ok{fE:Nat} (hc:bF P f=some (xZ fE)) (hE:tf.Spec (Pure P) fE):uJ.Spec (Pure P) f:=by
 intro s
 refine ak hm hc (by show 1<=8;decide) (aj (keep:=[]) (i:=0) ?_)
 try simp only[I,RX,↓KW,seval,xZ,Z.H]
 obtain⟨k,hk,hi⟩:=hE s;refine af hk ?_;try simp only[I,RX,seval]
 refine ia (fun y:Unit=>(⟨[(5,.dat (.fn (.func k) [] [.ref [.int .i64 s]]) none),(2,.ptr 4 0)],[(4,⟨[I 0],[]⟩)],[],400⟩:S)) (fun i _=>i=0) hi rfl (gZ fun _=>rfl) (fun _=>rfl) ?_ ?_ () rfl ?_
 ·rintro i y ⟨⟩ hx' hi0 A back
  subst hi0;obtain⟨q,hq,rfl⟩:=m7 hx'
  have hq:(fJ s)[0]? =some q:=hq
  have he:AI s=q:=by rw[AI,List.head?_eq_getElem?,hq]
  try simp only[I,RX,↓KW,seval]
  rw[he]
 ·rintro⟨⟩ hl
  have hn:fJ s=[]:=by
   have:(fJ s).length=0:=by simpa[fJ]using hl
   exact List.eq_nil_of_length_eq_zero this
  have he:AI s=-1:=by rw[AI,hn];rfl
  try simp only[I,RX,↓KW,seval]
  rw[he]
 ·refine ai (by decide) ?_ ?_ ?_ ?_<;>simp[LX,I]
theorem yf.ok(hc:bF P f=some vu):yf.Spec (Pure P) f:=by
 intro p r
 have q1:p.cells[12]? =some (B p.rest)/\p.cells[1]? =some (I p.min):=⟨rfl,rfl⟩
 have q2:r.cells[2]? =some (I r.fst)/\r.cells[1]? =some (I r.time)/\r.cells[4]? =some (I r.left):=⟨rfl,rfl,rfl⟩
 refine ak hm hc (by show 2<=34;decide) (aj (keep:=[]) (i:=0) ?_)
 try simp only[I,B,RX,↓KW,seval,vu,Z.H,q2]
 cases h1:(r.fst==1)<;>cases h2:(r.fst==2)<;>cases h3:p.rest<;>cases h4:decide (r.time>=p.min)<;>cases h5:(r.left==0)<;>
 (try simp only[I,B,RX,↓KW,seval,h2,h3,h4,h5,q1,q2];try(try simp only[I,B,D,RX,↓KW,seval,h1,h2,h3,h4,h5,q1,q2]);simp_all [RH])
theorem pR.ok{fW:Nat} (hc:bF P f=some (tN fW)) (hW:gO.Spec (Pure P) fW):pR.Spec (Pure P) f:=by
 intro l hl
 have hw:=gB hl
 refine ak hm hc (by show 1<=19;decide) (aj (keep:=[]) (i:=0) ?_)
 try simp only[I,RY,↓KW,seval,tN,Z.H,hw]
 refine aG (fun k:Nat=>(⟨[(7,.dat (I k) none),(6,.dat (.agg (cz l)) none),(3,.dat (I (nh (fun p=>ga (bp l p)) k)) none)],[],[],400⟩:S)) (fun k=>8-k) (fun k=>k<=8) ?_ 0 (by omega) ?_
 ·intro k hk A back
  have hwr:=aB (k:=k) (by omega)
  try simp only[I,RY,↓KW,seval]
  refine ax (fun h=>?_) (fun h=>?_)<;>try simp only[RY,↓KW,seval,h]
  ·have h8:k<8:=by have:=of_decide_eq_true h;omega
   have hat:ay (cz l) (k*12) (some 12)=some (.agg (bp l k).cells):=i6 hl h8
   have hn:nh (fun p=>ga (bp l p)) (k+1)=if ga (bp l k)then d9 (nh (fun p=>ga (bp l p)) k) k else nh (fun p=>ga (bp l p)) k:=rfl
   have hy:0<=(k:Int)/\(k:Int)<8:=by omega
   have q0:(bp l k).cells[0]? =some (I (bp l k).aQ):=rfl
   have qz:setCells aP 0 (bp l k).cells=(bp l k).cells:=rfl
   have ql:aP.length=12:=rfl
   have hg:((bp l k).aQ==1)=ga (bp l k):=rfl
   try simp only[I,RY,↓KW,seval,hy,hat,q0,qz,ql,Rn.len]
   rw[hg];cases h2:ga (bp l k)
   ·try simp only[RY,↓KW,seval]
    refine back (k+1) _ (by omega) (by omega) (ai (by decide) ?_ ?_ ?_ ?_)<;>simp[LX,I,hwr,hn,h2]
   ·try simp only[RY,↓KW,seval]
    refine af (hW _ _) ?_;try simp only[I,RY,↓KW,seval]
    refine back (k+1) _ (by omega) (by omega) (ai (by decide) ?_ ?_ ?_ ?_)<;>simp[LX,I,hwr,hn,h2]
  ·have:k=8:=by have:=of_decide_eq_false h;omega
   subst this;try simp only[I,B,D,RY,↓KW,seval]
   rfl
 ·refine ai (by decide) ?_ ?_ ?_ ?_<;>simp[LX,I,nh]
theorem H7.ok{fR fE:Nat} (hc:bF P f=some (Af fR fE)) (hR:CL.Spec (Pure P) fR) (hE:tf.Spec (Pure P) fE):H7.Spec (Pure P) f:=by
 intro t l p ht hl hp
 have hat:ay (cz l) (p*12) (some 12)=some (.agg (bp l p).cells):=i6 hl hp
 have hat1:(cz l)[p*12+1]? =some (I (bp l p).time):=by rw[kG hat (by omega)];rfl
 have hrv:t.cells[119]? =some (I t.revert):=Tb.tail_at ht 3 (by omega)
 have hcn:=ht.ln.Jg hp
 have hy:0<=(p:Int)/\(p:Int)<8:=by omega
 have hb:nr t l p=(iu (bp l p)&&decide ((bp l p).time>=t.revert)&&pN l (gI t p)):=rfl
 refine ak hm hc (by show 3<=33;decide) (aj (keep:=[]) (i:=0) ?_)
 try simp only[I,B,RX,↓KW,seval,Af,Z.H,hat,hy]
 refine af (hR _) ?_;cases h1:iu (bp l p)
 ·try simp only[B,RX,↓KW,seval]
  simp[hb,h1]
 try simp only[I,B,RX,↓KW,seval,hat1,hrv,hy]
 cases h2:decide ((bp l p).time<t.revert);rotate_left
 ·have:=of_decide_eq_true h2
  have h3:decide ((bp l p).time>=t.revert)=false:=by simp;omega
  try simp only[RX,↓KW,seval]
  simp[hb,h1,h3]
 have h3:decide ((bp l p).time>=t.revert)=true:=by have:=of_decide_eq_false h2;simp;omega
 have hb:nr t l p=pN l (gI t p):=by rw[hb,h1,h3];rfl
 try simp only[I,RX,↓KW,seval,hcn,hy]
 obtain⟨k,hk,hi⟩:=hE (gI t p)
 refine af hk ?_;try simp only[I,RX,seval]
 refine ia (fun y:Unit=>(⟨[(26,.dat (.fn (.func k) [] [.ref [.int .i64 (gI t p)]]) none),(6,.ptr 6 0),(4,.ptr 5 0)],[(6,⟨[B false],[]⟩),(5,⟨cz l,[]⟩)],[],400⟩:S)) (fun i _=>∀q∈(fJ (gI t p)).take i,iu (bp l q)=true) hi rfl (gZ fun _=>rfl) (fun _=>rfl) ?_ ?_ () (by simp) ?_
 ·rintro i y ⟨⟩ hx' hal A back
  obtain⟨q,hq,rfl⟩:=m7 hx'
  have hq:(fJ (gI t p))[i]? =some q:=hq
  have hm:=List.mem_of_getElem? hq
  have h8:=xF hm
  have hy2:0<=(q:Int)/\(q:Int)<8:=by omega
  have hq1:ay (cz l) (q*12) (some 12)=some (.agg (bp l q).cells):=i6 hl h8
  try simp only[I,B,RX,↓KW,seval,hy2,hq1]
  refine af (hR _) ?_;cases h4:iu (bp l q)
  ·try simp only[B,RX,↓KW,seval]
   have:pN l (gI t p)=false:=by
    rw[Bool.eq_false_iff];intro hh
    have:=Cn.1 hh q h8 (Kt hm)
    rw[h4]at this;cases this
   rw[hb,this]
  ·try simp only[B,RX,↓KW,seval]
   refine back () _ (fun q' hq'=>?_) ?_
   ·rw[List.take_add_one,hq]at hq'
    rcases List.mem_append.1 hq' with h|h
    ·exact hal q' h
    ·simp at h;rw[h];exact h4
   ·refine ai (by decide) ?_ ?_ ?_ ?_<;>simp[LX,B]
 ·rintro⟨⟩ hal
  rw[List.take_of_length_le (by simp[fJ])]at hal
  have:pN l (gI t p)=true:=Cn.2 fun q h8 ht=>hal q (HD h8 ht)
  try simp only[B,RX,↓KW,seval]
  rw[hb,this]
 ·refine ai (by decide) ?_ ?_ ?_ ?_<;>simp[LX,B]
theorem EI.ok(hc:bF P f=some Ag):EI.Spec (Pure P) f:=by
 intro t g r ht
 have hg:=Tb.mD ht
 refine ak hm hc (by show 3<=31;decide) (aj (keep:=[]) (i:=0) ?_)
 try simp only[I,RX,↓KW,seval,Ag,Z.H]
 by_cases h0:g<0\/((t.groups.getD []).length:Int)<=g\/r<0\/1<r
 ·have hx:lQ t g r=none:=if_pos h0
  rw[hx];cases h1:decide (g<0)
  ·try simp only[RX,↓KW,seval,hg]
   cases h2:decide (g>=((t.groups.getD []).length:Int))
   ·try simp only[RX,↓KW,seval]
    cases h3:decide (r<0)
    ·have h4:decide (r>1)=true:=by
      have:=of_decide_eq_false h1;have:=of_decide_eq_false h2;have:=of_decide_eq_false h3;simp;omega
     try simp only[RX,↓KW,seval,h4]
     try rfl
    ·try simp only[RX,↓KW,seval]
     try rfl
   ·try simp only[RX,↓KW,seval]
    try rfl
  ·try simp only[RX,↓KW,seval]
   try rfl
 ·have hx:lQ t g r=((t.groups.getD []).getD g.toNat default).row r.toNat:=if_neg h0
  have h1:decide (g<0)=false:=by simp;omega
  have h2:decide (g>=((t.groups.getD []).length:Int))=false:=by simp;omega
  have h3:decide (r<0)=false:=by simp;omega
  have h4:decide (r>1)=false:=by simp;omega
  obtain⟨gr,hgr⟩:∃gr,(t.groups.getD [])[g.toNat]? =some gr:=⟨_,List.getElem?_eq_getElem (by omega)⟩
  have hgd:(t.groups.getD []).getD g.toNat default=gr:=by rw[List.getD_eq_getElem?_getD,hgr];rfl
  rw[hgd]at hx
  have hrow:(gr.cells.drop r.toNat)[0]? =some (aH aD (gr.row r.toNat)):=by
   have:r=0\/r=1:=by omega
   rcases this with rfl|rfl<;>rfl
  have hgl:gr.cells.length=2:=rfl
  have hy:0<=g/\g<((t.groups.getD []).length:Int):=by omega
  have hy2:0<=r/\r<2:=by omega
  try simp only[RX,↓KW,seval,h1,h2,h3,h4,hg,hgr,hgl,hy,hy2,hrow]
  rw[hx]
end
section
variable{P:Program} (hm:P.follows .mixedOrders=true) {f:Nat}
include hm
theorem CJ.ok{fR fH:Nat} (hc:bF P f=some (xY fR fH)) (hR:EI.Spec (Pure P) fR) (hH:kn.Spec (Pure P) fH):CJ.Spec (Pure P) f:=by
 intro t g r at' want ht
 have hp:=Tb.whole ht
 have hln:=CH ht g r
 refine ak hm hc (by show 5<=33;decide) (aj (keep:=[]) (i:=0) ?_)
 try simp only[I,RX,↓KW,seval,xY,Z.H,hp]
 refine af (hR t g r ht) ?_
 have hP:∀i,VL t g r at' want i=(decide ((i:Int)>at')&&ej want (((lQ t g r).getD []).getD i 0)):=fun _=>rfl
 have hE:WH t g r at' want=match(List.range ((lQ t g r).getD []).length).find? (VL t g r at' want)with
  |some i=>(i:Int)
  |none=>-1:=rfl
 generalize VL t g r at' want=pr at*;generalize WH t g r at' want=res at*;generalize lQ t g r=row at*;try simp only[RX,↓KW,seval]
 refine aG (fun k:Nat=>(⟨[(18,.dat (I k) none),(17,.dat (I (row.getD []).length) none),(16,.dat (aH aD row) none),(3,.dat (I at') none),(4,.dat (I want) none)],[],[],400⟩:S)) (fun k=>(row.getD []).length-k) (fun k=>k<=(row.getD []).length/\∀q,q<k->pr q=false) ?_ 0 ⟨by omega,by omega⟩ ?_
 rotate_left
 ·refine ai (by decide) ?_ ?_ ?_ ?_<;>simp[LX,I]
 rintro k ⟨hk,hno⟩ A back
 have hwr:=aB (k:=k) (by omega)
 try simp only[I,RX,↓KW,seval]
 cases h:decide ((k:Int)<((row.getD []).length:Int))
 ·have hk':k=(row.getD []).length:=by have:=of_decide_eq_false h;omega
  have hf:(List.range (row.getD []).length).find? pr=none:=pg fun x hx=>hno x (by have:=List.mem_range.1 hx;omega)
  rw[hf]at hE;try simp only[RX,↓KW,seval]
  rw[hE]
 ·have h8:k<(row.getD []).length:=by have:=of_decide_eq_true h;omega
  obtain⟨x,hx⟩:∃x,(row.getD [])[k]? =some x:=⟨_,List.getElem?_eq_getElem h8⟩
  have hxd:(row.getD []).getD k 0=x:=by rw[List.getD_eq_getElem?_getD,hx];rfl
  have hpk:=hP k
  rw[hxd]at hpk;try simp only[I,RX,↓KW,seval,hx,aD]
  refine⟨by omega,?_⟩
  try simp only[I,B,D,RX,↓KW,seval,hx,aD]
  cases h1:decide ((k:Int)>at')
  ·have hx2:pr k=false:=by rw[hpk,h1];rfl
   try simp only[RX,↓KW,seval]
   refine back (k+1) _ ⟨by omega,fun q hq'=>?_⟩ (by omega) ?_
   ·by_cases e:q=k
    ·rw[e];exact hx2
    ·exact hno q (by omega)
   ·refine ai (by decide) ?_ ?_ ?_ ?_<;>simp[LX,I,hwr]
  ·try simp only[RX,↓KW,seval]
   refine af (hH want x) ?_;cases h2:ej want x
   ·have hx2:pr k=false:=by rw[hpk,h1,h2];rfl
    try simp only[B,RX,↓KW,seval]
    refine back (k+1) _ ⟨by omega,fun q hq'=>?_⟩ (by omega) ?_
    ·by_cases e:q=k
     ·rw[e];exact hx2
     ·exact hno q (by omega)
    ·refine ai (by decide) ?_ ?_ ?_ ?_<;>simp[LX,I,hwr]
   ·have hx2:pr k=true:=by rw[hpk,h1,h2];rfl
    have hf:(List.range (row.getD []).length).find? pr=some k:=uo (List.getElem?_range h8) hx2 (fun y hy=>hno y (by rw[List.take_range]at hy;have:=List.mem_range.1 hy;omega))
    rw[hf]at hE;try simp only[B,RX,↓KW,seval]
    rw[hE]
theorem HY.ok{fR fO:Nat} (hc:bF P f=some (rN fR fO)) (hR:EI.Spec (Pure P) fR) (hO:setOf.Spec (Pure P) fO):HY.Spec (Pure P) f:=by
 intro t g ht
 have hp:=Tb.whole ht
 have l0:=CH ht g 0
 have l1:=CH ht g 1
 refine ak hm hc (by show 2<=14;decide) (aj (keep:=[]) (i:=0) ?_)
 try simp only[I,RX,↓KW,seval,rN,Z.H,hp]
 refine af (hR t g 0 ht) ?_;try simp only[RX,↓KW,seval]
 refine af (hO _ (by omega)) ?_
 try simp only[I,RX,↓KW,seval,hp]
 refine af (hR t g 1 ht) ?_;try simp only[RX,↓KW,seval]
 refine af (hO _ (by omega)) ?_
 try simp only[I,RX,↓KW,seval]
 rfl
theorem HZ.ok{fM:Nat} (hc:bF P f=some (oe fM)) (hM:HY.Spec (Pure P) fM):HZ.Spec (Pure P) f:=by
 intro t g want ht
 have hp:=Tb.whole ht
 have hg:=Tb.mD ht
 have hgl:=ht.groups
 have hE:WL t g want=match(List.range (t.groups.getD []).length).find? (fwP t g want)with
  |some k=>WK t g k
  |none=>-1:=rfl
 have hP:∀k,fwP t g want k=(dw .i64 (WJ t (WK t g k)) want !=0):=fun _=>rfl
 have hF:∀k,WK t g k=(IntKind.i64.wrap (IntKind.i64.wrap (ZK t g+1)+k)).tmod (t.groups.getD []).length:=fun _=>rfl
 refine ak hm hc (by show 3<=40;decide) (aj (keep:=[]) (i:=0) ?_)
 try simp only[I,RX,↓KW,seval,oe,Z.H,hg]
 have hG:(g<0\/((t.groups.getD []).length:Int)<=g->IntKind.i64.wrap (((t.groups.getD []).length:Int)-1)=ZK t g)/\(¬(g<0\/((t.groups.getD []).length:Int)<=g)->g=ZK t g):=
  ⟨fun h=>(if_pos h).symm,fun h=>(if_neg h).symm⟩
 generalize hgr:ZK t g=g0 at*;generalize WK t g=fg at*;generalize fwP t g want=pr at*;generalize WL t g want=res at*;cases c1:decide (g<0);cases c2:decide (g>=((t.groups.getD []).length:Int))
 ·have e0:=hG.2 (by have:=of_decide_eq_false c1;have:=of_decide_eq_false c2;omega)
  subst e0;try simp only[RX,↓KW,seval,c2]
  refine aG (fun k:Nat=>(⟨[(23,.dat (I k) none),(22,.dat (I (t.groups.getD []).length) none),(1,.dat (I g) none),(7,.dat (I (t.groups.getD []).length) none),(3,.ptr 4 0),(2,.dat (I want) none)],[(4,⟨t.cells,[]⟩)],[],400⟩:S)) (fun k=>(t.groups.getD []).length-k) (fun k=>k<=(t.groups.getD []).length/\∀q,q<k->pr q=false) ?_ 0 ⟨by omega,by omega⟩ ?_
  rotate_left
  ·refine ai (by decide) ?_ ?_ ?_ ?_<;>simp[LX,I]
  rintro k ⟨hk,hno⟩ A back
  have hwr:=aB (k:=k) (by omega)
  try simp only[I,RX,↓KW,seval]
  cases h:decide ((k:Int)<((t.groups.getD []).length:Int))
  ·have hk':k=(t.groups.getD []).length:=by have:=of_decide_eq_false h;omega
   have hf:(List.range (t.groups.getD []).length).find? pr=none:=pg fun x hx=>hno x (by have:=List.mem_range.1 hx;omega)
   rw[hf]at hE;try simp only[RX,↓KW,seval]
   rw[hE]
  ·have h8:k<(t.groups.getD []).length:=by have:=of_decide_eq_true h;omega
   have hFk:=hF k
   have hne:(((t.groups.getD []).length:Int)=0)=False:=by simp;intro h;rw[h]at h8;simp at h8
   have hPk:=hP k
   try simp only[RX,↓KW,seval,hne,hp]
   rw[<-hFk];refine af (hM t (fg k) ht) ?_;cases h2:(dw .i64 (WJ t (fg k)) want !=0)
   ·have hx2:pr k=false:=by rw[hPk,h2]
    try simp only[I,RX,↓KW,seval,h2]
    refine back (k+1) _ ⟨by omega,fun q hq'=>?_⟩ (by omega) ?_
    ·by_cases e:q=k
     ·rw[e];exact hx2
     ·exact hno q (by omega)
    ·refine ai (by decide) ?_ ?_ ?_ ?_<;>simp[LX,I,hwr]
   ·have hx2:pr k=true:=by rw[hPk,h2]
    have hf:(List.range (t.groups.getD []).length).find? pr=some k:=uo (List.getElem?_range h8) hx2 (fun y hy=>hno y (by rw[List.take_range]at hy;have:=List.mem_range.1 hy;omega))
    rw[hf]at hE;try simp only[I,RX,↓KW,seval,h2]
    rw[hE]
 ·have e0:=hG.1 (.inr (by have:=of_decide_eq_true c2;omega))
  try simp only[RX,↓KW,seval,c2]
  refine aG (fun k:Nat=>(⟨[(23,.dat (I k) none),(22,.dat (I (t.groups.getD []).length) none),(1,.dat (I g0) none),(7,.dat (I (t.groups.getD []).length) none),(3,.ptr 4 0),(2,.dat (I want) none)],[(4,⟨t.cells,[]⟩)],[],400⟩:S)) (fun k=>(t.groups.getD []).length-k) (fun k=>k<=(t.groups.getD []).length/\∀q,q<k->pr q=false) ?_ 0 ⟨by omega,by omega⟩ ?_
  rotate_left
  ·refine ai (by decide) ?_ ?_ ?_ ?_<;>simp[LX,I,e0]
  rintro k ⟨hk,hno⟩ A back
  have hwr:=aB (k:=k) (by omega)
  try simp only[I,RX,↓KW,seval]
  cases h:decide ((k:Int)<((t.groups.getD []).length:Int))
  ·have hk':k=(t.groups.getD []).length:=by have:=of_decide_eq_false h;omega
   have hf:(List.range (t.groups.getD []).length).find? pr=none:=pg fun x hx=>hno x (by have:=List.mem_range.1 hx;omega)
   rw[hf]at hE;try simp only[RX,↓KW,seval]
   rw[hE]
  ·have h8:k<(t.groups.getD []).length:=by have:=of_decide_eq_true h;omega
   have hFk:=hF k
   have hne:(((t.groups.getD []).length:Int)=0)=False:=by simp;intro h;rw[h]at h8;simp at h8
   have hPk:=hP k
   try simp only[RX,↓KW,seval,hne,hp]
   rw[<-hFk];refine af (hM t (fg k) ht) ?_;cases h2:(dw .i64 (WJ t (fg k)) want !=0)
   ·have hx2:pr k=false:=by rw[hPk,h2]
    try simp only[I,RX,↓KW,seval,h2]
    refine back (k+1) _ ⟨by omega,fun q hq'=>?_⟩ (by omega) ?_
    ·by_cases e:q=k
     ·rw[e];exact hx2
     ·exact hno q (by omega)
    ·refine ai (by decide) ?_ ?_ ?_ ?_<;>simp[LX,I,hwr]
   ·have hx2:pr k=true:=by rw[hPk,h2]
    have hf:(List.range (t.groups.getD []).length).find? pr=some k:=uo (List.getElem?_range h8) hx2 (fun y hy=>hno y (by rw[List.take_range]at hy;have:=List.mem_range.1 hy;omega))
    rw[hf]at hE;try simp only[I,RX,↓KW,seval,h2]
    rw[hE]
 ·have e0:=hG.1 (.inl (of_decide_eq_true c1))
  try simp only[RX,↓KW,seval]
  refine aG (fun k:Nat=>(⟨[(23,.dat (I k) none),(22,.dat (I (t.groups.getD []).length) none),(1,.dat (I g0) none),(7,.dat (I (t.groups.getD []).length) none),(3,.ptr 4 0),(2,.dat (I want) none)],[(4,⟨t.cells,[]⟩)],[],400⟩:S)) (fun k=>(t.groups.getD []).length-k) (fun k=>k<=(t.groups.getD []).length/\∀q,q<k->pr q=false) ?_ 0 ⟨by omega,by omega⟩ ?_
  rotate_left
  ·refine ai (by decide) ?_ ?_ ?_ ?_<;>simp[LX,I,e0]
  rintro k ⟨hk,hno⟩ A back
  have hwr:=aB (k:=k) (by omega)
  try simp only[I,RX,↓KW,seval]
  cases h:decide ((k:Int)<((t.groups.getD []).length:Int))
  ·have hk':k=(t.groups.getD []).length:=by have:=of_decide_eq_false h;omega
   have hf:(List.range (t.groups.getD []).length).find? pr=none:=pg fun x hx=>hno x (by have:=List.mem_range.1 hx;omega)
   rw[hf]at hE;try simp only[RX,↓KW,seval]
   rw[hE]
  ·have h8:k<(t.groups.getD []).length:=by have:=of_decide_eq_true h;omega
   have hFk:=hF k
   have hne:(((t.groups.getD []).length:Int)=0)=False:=by simp;intro h;rw[h]at h8;simp at h8
   have hPk:=hP k
   try simp only[RX,↓KW,seval,hne,hp]
   rw[<-hFk];refine af (hM t (fg k) ht) ?_;cases h2:(dw .i64 (WJ t (fg k)) want !=0)
   ·have hx2:pr k=false:=by rw[hPk,h2]
    try simp only[I,RX,↓KW,seval,h2]
    refine back (k+1) _ ⟨by omega,fun q hq'=>?_⟩ (by omega) ?_
    ·by_cases e:q=k
     ·rw[e];exact hx2
     ·exact hno q (by omega)
    ·refine ai (by decide) ?_ ?_ ?_ ?_<;>simp[LX,I,hwr]
   ·have hx2:pr k=true:=by rw[hPk,h2]
    have hf:(List.range (t.groups.getD []).length).find? pr=some k:=uo (List.getElem?_range h8) hx2 (fun y hy=>hno y (by rw[List.take_range]at hy;have:=List.mem_range.1 hy;omega))
    rw[hf]at hE;try simp only[I,RX,↓KW,seval,h2]
    rw[hE]
theorem L7.ok{e fO:Nat} (hc:bF P f=some (wq e fO)) (hO:setOf.Spec (Pure P) fO):L7.Spec (Pure P) f:=by
 intro t g r pl ht
 have hg:=Tb.mD ht
 refine ak hm hc (by show 4<=55;decide) (aj (keep:=[]) (i:=0) ?_)
 try simp only[I,RX,↓KW,seval,wq,Z.H]
 by_cases h0:g<0\/((t.groups.getD []).length:Int)<=g\/r<0\/1<r
 ·have hx:Jp t g r pl=-1:=if_pos h0
  rw[hx];cases h1:decide (g<0)
  ·try simp only[RX,↓KW,seval,hg]
   cases h2:decide (g>=((t.groups.getD []).length:Int))
   ·try simp only[RX,↓KW,seval]
    cases h3:decide (r<0)
    ·have h4:decide (r>1)=true:=by
      have:=of_decide_eq_false h1;have:=of_decide_eq_false h2;have:=of_decide_eq_false h3;simp;omega
     try simp only[RX,↓KW,seval,h4]
    ·try simp only[RX,↓KW,seval]
   ·try simp only[RX,↓KW,seval]
  ·try simp only[RX,↓KW,seval]
 have hx:lQ t g r=((t.groups.getD []).getD g.toNat default).row r.toNat:=if_neg h0
 have hat:Jp t g r pl=if pl<0\/(((lQ t g r).getD []).length:Int)<=pl then -1
  else if 0<=((lQ t g r).getD []).getD pl.toNat 0/\((lQ t g r).getD []).getD pl.toNat 0<8 then((lQ t g r).getD []).getD pl.toNat 0 else -1:=if_neg h0
 have h1:decide (g<0)=false:=by simp;omega
 have h2:decide (g>=((t.groups.getD []).length:Int))=false:=by simp;omega
 have h3:decide (r<0)=false:=by simp;omega
 have h4:decide (r>1)=false:=by simp;omega
 obtain⟨gr,hgr⟩:∃gr,(t.groups.getD [])[g.toNat]? =some gr:=⟨_,List.getElem?_eq_getElem (by omega)⟩
 have hgd:(t.groups.getD []).getD g.toNat default=gr:=by rw[List.getD_eq_getElem?_getD,hgr];rfl
 rw[hgd]at hx
 have hrow:(gr.cells.drop r.toNat)[0]? =some (aH aD (gr.row r.toNat)):=by
  have:r=0\/r=1:=by omega
  rcases this with rfl|rfl<;>rfl
 rw[<-hx]at hrow
 have hgl:gr.cells.length=2:=rfl
 have hy:0<=g/\g<((t.groups.getD []).length:Int):=by omega
 have hy2:0<=r/\r<2:=by omega
 generalize Jp t g r pl=res at*;generalize lQ t g r=row at*;try simp only[RX,↓KW,seval,h1,h2,h3,h4,hg,hgr,hgl,hy,hy2,hrow]
 by_cases h5:pl<0\/((row.getD []).length:Int)<=pl
 ·rw[if_pos h5]at hat
  rw[hat];cases h6:decide (pl<0)
  ·have h7:decide (pl>=((row.getD []).length:Int))=true:=by have:=of_decide_eq_false h6;simp;omega
   try simp only[RX,↓KW,seval,h7]
  ·try simp only[RX,↓KW,seval]
 ·rw[if_neg h5]at hat
  have h6:decide (pl<0)=false:=by simp;omega
  have h7:decide (pl>=((row.getD []).length:Int))=false:=by simp;omega
  obtain⟨x,hx2⟩:∃x,(row.getD [])[pl.toNat]? =some x:=⟨_,List.getElem?_eq_getElem (by omega)⟩
  have hxd:(row.getD []).getD pl.toNat 0=x:=by rw[List.getD_eq_getElem?_getD,hx2];rfl
  rw[hxd]at hat
  have ho:=FP x
  have hy3:0<=pl/\pl<((row.getD []).length:Int):=by omega
  try simp only[I,RX,↓KW,seval,h6,h7,hy3,hx2,aD]
  have hOx:=hO (some [x]) (by simp)
  obtain⟨z,hz⟩:∃z,U7 ((some [x]:Option (List Int)).getD [])=z:=⟨_,rfl⟩
  have hs:(z==0)=!(decide (0<=x)&&decide (x<8)):=by rw[<-hz];exact ho
  rw[hz]at hOx;refine af hOx ?_
  by_cases h8:0<=x/\x<8
  ·rw[if_pos h8]at hat
   rw[decide_eq_true h8.1,decide_eq_true h8.2]at hs;try simp only[I,RX,↓KW,seval,hs,hy3,hx2,aD,Bool.and_self]
   rw[hat]
  ·rw[if_neg h8]at hat
   have h9:(decide (0<=x)&&decide (x<8))=false:=by
    rw[<-Bool.decide_and];exact decide_eq_false h8
   rw[h9]at hs;try simp only[I,RX,↓KW,seval,hs]
   rw[hat]
theorem H6.ok{fA:Nat} (hc:bF P f=some (Ad fA)) (hA:L7.Spec (Pure P) fA):H6.Spec (Pure P) f:=by
 intro t r k ht
 have hp:=Tb.whole ht
 have hr0:r.cells[0]? =some (I r.group):=rfl
 refine ak hm hc (by show 3<=22;decide) (aj (keep:=[]) (i:=0) ?_)
 try simp only[I,RX,↓KW,seval,Ad,Z.H]
 cases h1:decide (k<0)
 ·try simp only[RX,↓KW,seval]
  cases h2:decide (k>1)
  ·try simp only[I,RX,↓KW,seval,hp,hr0]
   have a:=of_decide_eq_false h1
   have b:=of_decide_eq_false h2
   have hy:0<=k/\k<2:=by omega
   have hr1:r.cells[1+k.toNat]? =some (I (r.at k)):=by
    have:k=0\/k=1:=by omega
    rcases this with rfl|rfl<;>rfl
   try simp only[I,RX,↓KW,seval,hy,hr1]
   refine af (hA t r.group k (r.at k) ht) ?_;try simp only[I,RX,↓KW,seval]
   rw[tP,if_neg (by omega)]
  ·try simp only[RX,↓KW,seval]
   rw[tP,if_pos (.inr (of_decide_eq_true h2))]
 ·try simp only[RX,↓KW,seval]
  rw[tP,if_pos (.inl (of_decide_eq_true h1))]
theorem ye.ok{fW:Nat} (hc:bF P f=some (vv fW)) (hW:vY.Spec (Pure P) fW):ye.Spec (Pure P) f:=by
 intro t r k q ht
 have hp:=Tb.whole ht
 have hr0:r.cells[0]? =some (I r.group):=rfl
 have hwr:=fun h=>CI (t:=t) (q:=q) h
 have hE:ZL t r k q=((aR t q).2&&(aR t q).1.group==r.group&&(aR t q).1.ring !=k&&decide ((aR t q).1.pos>r.at (aR t q).1.ring)):=rfl
 refine ak hm hc (by show 4<=41;decide) (aj (keep:=[]) (i:=0) ?_)
 try simp only[I,B,RX,↓KW,seval,vv,Z.H,hp]
 refine af (hW t q ht) ?_;generalize(aR t q).2=ok at*;generalize(aR t q).1=w at*;generalize ZL t r k q=res at*;cases ok
 ·try simp only[I,B,RX,↓KW,seval]
  rw[hE];rfl
 try simp only[I,B,RX,↓KW,seval,hr0]
 have hy:0<=w.ring/\w.ring<2:=hwr rfl
 have hr1:r.cells[1+w.ring.toNat]? =some (I (r.at w.ring)):=by
  have:w.ring=0\/w.ring=1:=by omega
  rcases this with e|e<;>rw[e]<;>rfl
 cases h1:(w.group==r.group)
 ·try simp only[RX,↓KW,seval]
  rw[hE,h1];rfl
 try simp only[RX,↓KW,seval]
 cases h2:(w.ring !=k)
 ·try simp only[RX,↓KW,seval]
  rw[hE,h1,h2];rfl
 try simp only[I,RX,↓KW,seval,hy,hr1]
 rw[hE,h1,h2];rfl
end
end Go.Eng
