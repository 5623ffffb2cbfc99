/- The engine and the library,part 7 of 18: what the proofs of this seat need of them. -/
import Derived.Test.YthoinfdfenkgnaaGreatPk6
set_option linter.unnecessarySimpa false
set_option linter.unusedSimpArgs false
set_option linter.unusedVariables false
set_option linter.defProp false
set_option maxRecDepth 10000
set_option maxHeartbeats 4000000
namespace Go.Eng
open Go
abbrev I (n:Int):AV:=.int .i64 n
abbrev B (b:Bool):AV:=.bool b
abbrev D (n:Nat):AV:=.float .f64 n
def dS(n:Int):Int:=IntKind.i64.wrap n
def aH{α:Type} (f:α->List AV):Option (List α)->AV
 |none=>.aL
 |some l=>.sl (l.map f)
def aD(n:Int):List AV:=[I n]
structure Ph where
 on:Bool
 min:Int
 Pb:Int
 max:Int
 top:Int
 step:Int
 ei:Int
 red:Int
 walk:Int
 f7:Int
 kj:Int
 lock:Bool
 rest:Bool
 deriving Inhabited,DecidableEq
def Ph.cells(p:Ph):List AV:=[B p.on,I p.min,I p.Pb,I p.max,I p.top,I p.step,I p.ei,I p.red,I p.walk,I p.f7,I p.kj,B p.lock,B p.rest]
structure nL where
 phase:Int
 on:Nat
 off:Nat
 delay:Nat
 extend:Nat
 maxOn:Int
 sI:Int
 deriving Inhabited,DecidableEq
def nL.cells(d:nL):List AV:=[I d.phase,D d.on,D d.off,D d.delay,D d.extend,I d.maxOn,I d.sI]
structure Rl where
 bars:Int
 clear:Int
 iB:Int
 exit:Int
 delay:Int
 green:Int
 gV:Int
 hold:Int
 stay:Int
 most:Int
 limit:Int
 deriving Inhabited,DecidableEq
def Rl.cells(r:Rl):List AV:=[I r.bars,I r.clear,I r.iB,I r.exit,I r.delay,I r.green,I r.gV,I r.hold,I r.stay,I r.most,I r.limit]
structure Bs where
 set:Int
 lock:Int
 deriving Inhabited,DecidableEq
def Bs.cells(b:Bs):List AV:=[I b.set,I b.lock]
structure Gr where
 a:Option (List Int)
 b:Option (List Int)
 deriving Inhabited,DecidableEq
def Gr.cells(g:Gr):List AV:=[aH aD g.a,aH aD g.b]
structure Tb where
 phases:List Ph
 groups:Option (List Gr)
 conflict:List Int
 aM:Option (List nL)
 bQ:Option (List Rl)
 jC:Option (List Bs)
 extend:Int
 gx:Int
 start:Int
 revert:Int
 least:Int
 cB:List Int
 mS:Int
 share:Int
 deriving Inhabited,DecidableEq
def Tb.cells(t:Tb):List AV:=
 t.phases.flatMap Ph.cells++(aH Gr.cells t.groups::(t.conflict.map I++(aH nL.cells t.aM::aH Rl.cells t.bQ::aH Bs.cells t.jC::
  I t.extend::I t.gx::I t.start::I t.revert::I t.least::(t.cB.map I++[I t.mS,I t.share]))))
structure Tb.Ok (t:Tb):Prop where
 phases:t.phases.length=8
 conflict:t.conflict.length=8
 cB:t.cB.length=8
 groups:(t.groups.getD []).length<=1048576
 rows:∀g∈t.groups.getD [],(g.a.getD []).length<=1048576/\(g.b.getD []).length<=1048576
 YL:(t.aM.getD []).length<=1048576
 bQ:(t.bQ.getD []).length<=1048576
 jC:(t.jC.getD []).length<=1048576
theorem aJ{α:Type} {f:α->List AV} {z:Nat} (hf:∀x,(f x).length=z):∀{l:List α},(l.flatMap f).length=l.length*z
 |[]=>by simp
 |x::l=>by simp[List.flatMap_cons,hf,aJ hf (l:=l),Nat.add_mul];omega
theorem Ph.len(p:Ph):p.cells.length=13:=rfl
theorem Tb.len{t:Tb} (h:t.Ok):t.cells.length=131:=by
 simp[Tb.cells,aJ Ph.len,h.phases,h.conflict,h.cB]
theorem Fo{α:Type}:∀{l:List α} {i:Nat} {x:α},l[i]? =some x->l=l.take i++x::l.drop (i+1)
 |[],i,x,h=>by simp at h
 |y::l,0,x,h=>by
  simp at h;subst h;simp
 |y::l,i+1,x,h=>by
  have:=Fo (l:=l) (i:=i) (x:=x) (by simpa using h)
  simp only[List.take_succ_cons,List.drop_succ_cons,List.cons_append]
  exact congrArg (y:: ·) this
theorem ja{α:Type} {f:α->List AV} {l:List α} {i:Nat} {x:α} (h:l[i]? =some x):l.flatMap f=(l.take i).flatMap f++(f x++(l.drop (i+1)).flatMap f):=by
 conv=>lhs;rw[Fo h]
 rw[List.flatMap_append,List.flatMap_cons]
theorem jD{α:Type} {l:List α} {i:Nat} {x:α} (h:l[i]? =some x):(l.take i).length=i:=by
 have:=(List.getElem?_eq_some_iff.1 h).1
 simp;omega
theorem eu{pre mid post:List AV} {off z:Nat} (h1:pre.length=off) (h2:mid.length=z):ay (pre++(mid++post)) off (some z)=some (.agg mid):=by
 subst h1 h2
 have hle:pre.length+mid.length<=(pre++(mid++post)).length:=by simp
 simp only[ay,hle,if_true,Option.some.injEq,AV.agg.injEq];simp
theorem nM{pre mid post ps:List AV} {off:Nat} (h1:pre.length=off) (h2:mid.length=ps.length):setCells (pre++(mid++post)) off ps=pre++(ps++post):=by
 subst h1;simp only[setCells];rw[<-h2];simp[List.drop_append]
theorem bk{cs ps:List AV} (h:cs.length=ps.length):setCells cs 0 ps=ps:=by
 simp only[setCells,List.take_zero,List.nil_append,Nat.zero_add,<-h,List.drop_length,List.append_nil]
theorem Tb.mT{t:Tb} {i:Nat} {p:Ph} (h:t.phases[i]? =some p):ay t.cells (i*13) (some 13)=some (.agg p.cells):=by
 unfold Tb.cells;rw[ja h,List.append_assoc,List.append_assoc]
 exact eu (by rw[aJ Ph.len,jD h]) rfl
theorem Nw{α:Type} {l:List α} {i:Nat} {x y:α} (h:l[i]? =some x):l.set i y=l.take i++y::l.drop (i+1):=by
 have hlt:=(List.getElem?_eq_some_iff.1 h).1
 rw[List.set_eq_take_append_cons_drop,if_pos hlt]
theorem Tb.Ly{t:Tb} {i:Nat} {p q:Ph} (h:t.phases[i]? =some p):setCells t.cells (i*13) q.cells={t with phases:=t.phases.set i q}.cells:=by
 unfold Tb.cells;simp only;rw[Nw h,List.flatMap_append,List.flatMap_cons]
 conv=>lhs;rw[ja h]
 rw[List.append_assoc,List.append_assoc,List.append_assoc,List.append_assoc]
 exact nM (by rw[aJ Ph.len,jD h]) rfl
end Go.Eng
namespace Go.Eng.Z
open Go
def o(d:Nat) (x:bW):CO:=⟨some d,x,none⟩
def p(d:Nat) (x:bW) (g:Nat):CO:=⟨some d,x,some (g,true)⟩
def q(d:Nat) (x:bW) (g:Nat):CO:=⟨some d,x,some (g,false)⟩
def n(x:bW):CO:=⟨none,x,none⟩
def M(d x:Nat):CO:=⟨some d,.mv (.t x),none⟩
def V(d:Nat) (v:AV):CO:=⟨some d,.mv (.k v),none⟩
def m(x:Nat):bW:=.mv (.t x)
def v(x:AV):bW:=.mv (.k x)
def l(x:Nat):bW:=.ld (.t x) none
def L(x z:Nat):bW:=.ld (.t x) (some z)
def f(x z:Nat):bW:=.fa (.t x) z
def s(x y z:Nat):bW:=.st (.t x) (.t y) z
def ss(x:Nat) (y:AV) (z:Nat):bW:=.st (.t x) (.k y) z
def A(x y a b:Nat):bW:=.Gj (.t x) (.t y) a b
def a(x y z:Nat):bW:=.Pm (.t x) (.t y) z
def P(x y:Nat):bW:=.pick (.t x) (.t y) (.k (.bool false))
def Q(x y:Nat):bW:=.pick (.t x) (.k (.bool true)) (.t y)
def h(x:Nat):bW:=.KV (.t x)
def w(x:Nat):bW:=.box (.t x)
def b(g:BinOp) (x y:Nat):bW:=.bin g (.t x) (.t y)
def bb(g:BinOp) (x:Nat) (y:AV):bW:=.bin g (.t x) (.k y)
def e(x y:Nat):bW:=.ext (.t x) y
def i(x:Int):AV:=.int .i64 x
def t(x:Nat):bB:=.t x
def k(x:AV):bB:=.k x
def r(x:List CO) (y:aT):aT:=.seq (.KY x) y
def R(x:List CO):aT:=.KY x
def j(x y:aT):aT:=.join x y
def c(x:Nat) (y z:aT):aT:=.cond (.t x) y z
def u(x:Nat) (y:aT):aT:=.block x y
def y:aT:=.ret
def z:aT:=.skip
def T:AV:=.bool true
def F:AV:=.bool false
def H:=
 And.intro @o.eq_1 (And.intro @p.eq_1 (And.intro @q.eq_1 (And.intro @n.eq_1 (And.intro @M.eq_1 (And.intro @V.eq_1 (And.intro @m.eq_1 (And.intro @v.eq_1 (And.intro @l.eq_1 (And.intro @L.eq_1 (And.intro @f.eq_1 (And.intro @s.eq_1 (And.intro @ss.eq_1 (And.intro @A.eq_1 (And.intro @a.eq_1 (And.intro @P.eq_1 (And.intro @Q.eq_1 (And.intro @h.eq_1 (And.intro @w.eq_1 (And.intro @b.eq_1 (And.intro @bb.eq_1 (And.intro @e.eq_1 (And.intro @i.eq_1 (And.intro @t.eq_1 (And.intro @k.eq_1 (And.intro @r.eq_1 (And.intro @R.eq_1 (And.intro @j.eq_1 (And.intro @c.eq_1 (And.intro @u.eq_1 (And.intro @y.eq_1 (And.intro @z.eq_1 (And.intro @T.eq_1 @F.eq_1))))))))))))))))))))))))))))))))
end Go.Eng.Z
namespace Go.Eng
open Go
section
open Z
def bz:List AV:=[.int .i64 0,.int .i64 0,.int .i64 0,.int .i64 0,.int .i64 0,.int .i64 0,.int .i64 0,.int .i64 0,.int .i64 0,.int .i64 0,.int .i64 0]
def dJ:List AV:=[.bool false,.int .i64 0,.int .i64 0,.int .i64 0,.int .i64 0,.int .i64 0,.int .i64 0,.int .i64 0,.int .i64 0,.int .i64 0,.int .i64 0,.bool false,.bool false,.bool false,.int .i64 0,.int .i64 0,.int .i64 0,.int .i64 0,.int .i64 0,.int .i64 0,.int .i64 0,.int .i64 0,.int .i64 0,.int .i64 0,.bool false,.bool false,.bool false,.int .i64 0,.int .i64 0,.int .i64 0,.int .i64 0,.int .i64 0,.int .i64 0,.int .i64 0,.int .i64 0,.int .i64 0,.int .i64 0,.bool false,.bool false,.bool false,.int .i64 0,.int .i64 0,.int .i64 0,.int .i64 0,.int .i64 0,.int .i64 0,.int .i64 0,.int .i64 0,.int .i64 0,.int .i64 0,.bool false,.bool false,.bool false,.int .i64 0,.int .i64 0,.int .i64 0,.int .i64 0,.int .i64 0,.int .i64 0,.int .i64 0,.int .i64 0,.int .i64 0,.int .i64 0,.bool false,.bool false,.bool false,.int .i64 0,.int .i64 0,.int .i64 0,.int .i64 0,.int .i64 0,.int .i64 0,.int .i64 0,.int .i64 0,.int .i64 0,.int .i64 0,.bool false,.bool false,.bool false,.int .i64 0,.int .i64 0,.int .i64 0,.int .i64 0,.int .i64 0,.int .i64 0,.int .i64 0,.int .i64 0,.int .i64 0,.int .i64 0,.bool false,.bool false,.bool false,.int .i64 0,.int .i64 0,.int .i64 0,.int .i64 0,.int .i64 0,.int .i64 0,.int .i64 0,.int .i64 0,.int .i64 0,.int .i64 0,.bool false,.bool false,.aL,.int .i64 0,.int .i64 0,.int .i64 0,.int .i64 0,.int .i64 0,.int .i64 0,.int .i64 0,.int .i64 0,.aL,.aL,.aL,.int .i64 0,.int .i64 0,.int .i64 0,.int .i64 0,.int .i64 0,.int .i64 0,.int .i64 0,.int .i64 0,.int .i64 0,.int .i64 0,.int .i64 0,.int .i64 0,.int .i64 0,.int .i64 0,.int .i64 0]
def cn:List AV:=[.bool false,.int .i64 0,.int .i64 0,.int .i64 0,.int .i64 0,.int .i64 0,.int .i64 0,.int .i64 0,.int .i64 0,.int .i64 0,.int .i64 0,.bool false,.bool false]
def mU(g0 g1 g2 g3 g4 g5 g6 g7 g8 g9 g10:Nat):bM:=⟨186,[.cell 2 (some 131)],r [o 2 (.alloc dJ)] (r [o 3 (.alloc dJ)] (r [M 13 0,o 14 (.bI g0 [t 3,t 13]),M 4 14] (j (r [V 5 (i 0)] (u 0 (.loop (j (r [M 15 5,M 16 4,o 17 (b .lss 15 16)] (c 17 z (.exit 0))) (j (u 1 (r [M 20 5,M 21 0,M 22 5,o 23 (.bin .mul (k (i 12)) (t 22)),o 24 (.bin .add (k (i 10)) (t 23)),o 25 (.call g1 [t 21,t 24]),o 26 (f 3 0),o 27 (A 26 20 8 13),n (s 27 25 13)] (R [M 28 5,o 29 (f 3 121),o 30 (A 29 28 8 1),n (ss 30 (i 1) 1)]))) (R [M 18 5,o 19 (bb .add 18 (i 1)),M 5 19])))))) (j (r [V 6 (i 0)] (u 2 (.loop (j (r [M 31 6,M 32 4,o 33 (b .lss 31 32)] (c 33 z (.exit 2))) (j (u 3 (r [V 7 (i 0)] (u 4 (.loop (j (r [M 36 7,M 37 6,o 38 (b .lss 36 37)] (c 38 z (.exit 4))) (j (u 5 (r [o 41 (L 3 131),M 42 6,M 43 7,o 44 (.call g2 [t 41,t 42,t 43]),o 45 (.un .not (t 44)),M 46 45,p 47 (m 0) 46,p 48 (m 6) 46,p 49 (.bin .mul (k (i 8)) (t 48)) 46,p 50 (.bin .add (k (i 110)) (t 49)) 46,p 51 (m 7) 46,p 52 (b .add 50 51) 46,p 53 (.call g3 [t 47,t 52,k (i 9)]) 46,p 54 (bb .neq 53 (i 1)) 46,o 55 (P 46 54)] (c 55 (r [M 56 6,M 57 6,o 58 (f 3 105),o 59 (A 58 57 8 1),o 60 (l 59),M 61 7,o 62 (.call g4 [t 60,t 61]),o 63 (f 3 105),o 64 (A 63 56 8 1),n (s 64 62 1)] (R [M 65 7,M 66 7,o 67 (f 3 105),o 68 (A 67 66 8 1),o 69 (l 68),M 70 6,o 71 (.call g4 [t 69,t 70]),o 72 (f 3 105),o 73 (A 72 65 8 1),n (s 73 71 1)])) z))) (R [M 39 7,o 40 (bb .add 39 (i 1)),M 7 40]))))))) (R [M 34 6,o 35 (bb .add 34 (i 1)),M 6 35])))))) (j (r [M 74 0,M 75 4,o 76 (bb .add 75 (i 1)),o 77 (.call g3 [t 74,k (i 174),t 76]),M 8 77] (r [M 78 8,M 79 4,o 80 (b .lss 78 79)] (c 80 (R [M 81 8,o 82 (f 3 121),o 83 (A 82 81 8 1),n (ss 83 (i 2) 1)]) z))) (j (r [M 84 0,o 85 (.call g3 [t 84,k (i 175),k (i 9)]),M 9 85] (u 6 (.loop (j (r [M 86 9,o 87 (bb .gtr 86 (i 0))] (c 87 z (.exit 6))) (j (u 7 (R [o 90 (f 3 113),o 91 (l 90),M 92 0,M 93 9,o 94 (.bin .mul (k (i 8)) (t 93)),o 95 (.bin .add (k (i 180)) (t 94)),M 96 4,o 97 (.call g5 [t 92,t 95,t 96]),o 98 (.mz g6 7 [t 97]),o 99 (.app g6 7 56 (t 91) (t 98)),o 100 (f 3 113),n (s 100 99 1)])) (R [M 88 9,o 89 (bb .sub 88 (i 1)),M 9 89])))))) (j (r [M 101 0,o 102 (.call g3 [t 101,k (i 176),k (i 4)]),o 103 (bb .rem 102 (i 3)),M 10 103] (u 8 (.loop (j (r [M 104 10,o 105 (bb .gtr 104 (i 0))] (c 105 z (.exit 8))) (j (u 9 (R [o 108 (f 3 114),o 109 (l 108),o 110 (L 3 131),M 111 0,M 112 10,o 113 (.bin .mul (k (i 16)) (t 112)),o 114 (.bin .add (k (i 260)) (t 113)),M 115 4,o 116 (.call g7 [t 110,t 111,t 114,t 115]),o 117 (.mz g8 11 [t 116]),o 118 (.app g8 11 88 (t 109) (t 117)),o 119 (f 3 114),n (s 119 118 1)])) (R [M 106 10,o 107 (bb .sub 106 (i 1)),M 10 107])))))) (j (r [M 120 0,o 121 (.call g3 [t 120,k (i 177),k (i 3)]),M 11 121] (u 10 (.loop (j (r [M 122 11,o 123 (bb .gtr 122 (i 0))] (c 123 z (.exit 10))) (j (u 11 (R [o 126 (f 3 115),o 127 (l 126),M 128 0,M 129 11,o 130 (.bin .mul (k (i 2)) (t 129)),o 131 (.bin .add (k (i 330)) (t 130)),o 132 (.call g3 [t 128,t 131,k (i 256)]),M 133 4,o 134 (.oG .u64 (t 133)),o 135 (.bin .shl (k (i 1)) (t 134)),o 136 (bb .sub 135 (i 1)),o 137 (b .and 132 136),o 138 (.mm true [k (i 1),t 137]),M 139 0,M 140 11,o 141 (.bin .mul (k (i 2)) (t 140)),o 142 (.bin .add (k (i 331)) (t 141)),o 143 (.call g3 [t 139,t 142,k (i 30)]),o 144 (.bin .add (k (i 1)) (t 143)),o 145 (.build [i 0,i 0] [(0,1,t 138),(1,1,t 144)]),o 146 (.mz g9 2 [t 145]),o 147 (.app g9 2 16 (t 127) (t 146)),o 148 (f 3 115),n (s 148 147 1)])) (R [M 124 11,o 125 (bb .sub 124 (i 1)),M 11 125])))))) (r [M 149 0,o 150 (.call g3 [t 149,k (i 178),k (i 12)]),o 151 (f 3 116),n (s 151 150 1)] (r [M 152 0,o 153 (.call g3 [t 152,k (i 179),k (i 40)]),o 154 (f 3 117),n (s 154 153 1)] (r [M 155 0,o 156 (.call g3 [t 155,k (i 180),k (i 8)]),o 157 (f 3 118),n (s 157 156 1)] (r [M 158 0,o 159 (.call g3 [t 158,k (i 181),k (i 8)]),o 160 (f 3 119),n (s 160 159 1)] (r [M 161 0,o 162 (.call g3 [t 161,k (i 182),k (i 12)]),o 163 (f 3 120),n (s 163 162 1)] (r [M 164 0,o 165 (.call g3 [t 164,k (i 183),k (i 4)]),o 166 (f 3 130),n (s 166 165 1)] (j (r [V 12 (i 0)] (u 12 (.loop (j (r [M 167 12,M 168 4,o 169 (b .lss 167 168),M 170 169,p 171 (f 3 114) 170,p 172 (l 171) 170,p 173 (h 172) 170,p 174 (bb .gtr 173 (i 0)) 170,o 175 (P 170 174)] (c 175 z (.exit 12))) (j (u 13 (R [o 178 (f 3 129),o 179 (l 178),o 180 (L 3 131),M 181 12,o 182 (.call g10 [t 180,t 181]),o 183 (.mm true [t 179,t 182]),o 184 (f 3 129),n (s 184 183 1)])) (R [M 176 12,o 177 (bb .add 176 (i 1)),M 12 177])))))) (r [o 185 (L 3 131),n (s 2 185 131)] y))))))))))))))))⟩
def sJ(g0 g1:Nat):bM:=⟨20,[.tmp 2],r [o 1 (w 0),V 2 (i 0)] (r [V 3 .aL] (j (r [V 4 (i 0)] (u 0 (.loop (j (r [M 5 4,o 6 (bb .lss 5 (i 8))] (c 6 z (.exit 0))) (j (u 1 (r [M 9 4,o 10 (f 1 0),o 11 (A 10 9 8 13),o 12 (f 11 0),o 13 (l 12)] (c 13 (R [M 14 3,M 15 4,o 16 (.mz g0 1 [t 15]),o 17 (.app g0 1 8 (t 14) (t 16)),M 3 17]) z))) (R [M 7 4,o 8 (bb .add 7 (i 1)),M 4 8])))))) (r [M 18 3,o 19 (.call g1 [t 18]),M 2 19] y)))⟩
def uX(g0 g1 g2:Nat):bM:=⟨24,[.cell 12 (some 2)],r [o 6 (w 0),o 7 (w 1),o 8 (w 2),o 9 (w 3),o 10 (w 4),o 11 (w 5),o 12 (.alloc [i 0,i 0])] (r [o 15 (.rW (.func g0) [] [t 10,t 7,t 8]),M 13 15] (r [o 16 (.rW (.func g1) [] [t 11,t 7,t 9]),M 14 16] (r [o 17 (L 6 131),M 18 13,o 19 (.call g2 [t 17,t 18]),o 20 (L 6 131),M 21 14,o 22 (.call g2 [t 20,t 21]),o 23 (.build [i 0,i 0] [(0,1,t 19),(1,1,t 22)]),n (s 12 23 2)] y)))⟩
def uY(g0 g1 g2:Nat):bM:=⟨14,[.tmp 6],r [o 3 (w 0),o 4 (w 1),V 6 (i 0)] (r [o 8 (L 3 131),M 9 2,o 10 (.call g0 [t 8,t 9]),o 7 (.alloc [i 0]),n (s 7 10 1)] (r [o 11 (L 3 131),o 12 (.rW (.func g1) [] [t 4,t 7]),o 13 (.call g2 [t 11,t 12]),M 6 13] y))⟩
def sK:bM:=⟨15,[.tmp 4],r [V 4 (i 0)] (r [M 6 0,M 7 1,o 8 (b .rem 6 7),M 5 8] (j (r [M 9 5,o 10 (bb .lss 9 (i 0))] (c 10 (R [M 11 5,M 12 1,o 13 (b .add 11 12),M 5 13]) z)) (r [M 14 5,M 4 14] y)))⟩
def zL:bM:=⟨28,[.tmp 2],r [V 2 (i 0)] (r [V 3 (i 0)] (j (r [V 4 (i 0)] (u 0 (.loop (j (r [M 6 4,o 7 (bb .lss 6 (i 8))] (c 7 z (.exit 0))) (j (u 1 (r [V 5 (i 0)] (u 2 (.loop (j (r [M 10 5,M 11 0,o 12 (h 11),o 13 (b .lss 10 12)] (c 13 z (.exit 2))) (j (u 3 (r [M 16 0,M 17 5,o 18 (a 16 17 1),o 19 (l 18),M 20 4,o 21 (b .eql 19 20)] (c 21 (r [M 22 3,M 23 4,o 24 (.oG .u64 (t 23)),o 25 (.bin .shl (k (i 1)) (t 24)),o 26 (b .or 22 25),M 3 26] (.exit 2)) z))) (R [M 14 5,o 15 (bb .add 14 (i 1)),M 5 15]))))))) (R [M 8 4,o 9 (bb .add 8 (i 1)),M 4 9])))))) (r [M 27 3,M 2 27] y)))⟩
def xg:bM:=⟨19,[.tmp 4],r [V 4 (F)] (r [M 5 1,o 6 (bb .geq 5 (i 0)),M 7 6,p 8 (m 1) 7,p 9 (bb .lss 8 (i 8)) 7,o 10 (P 7 9),M 11 10,p 12 (m 0) 11,p 13 (m 1) 11,p 14 (.oG .u64 (t 13)) 11,p 15 (b .shr 12 14) 11,p 16 (bb .and 15 (i 1)) 11,p 17 (bb .eql 16 (i 1)) 11,o 18 (P 11 17),M 4 18] y)⟩
def uZ(g0 g1:Nat):bM:=⟨8,[.tmp 4],r [o 2 (w 0),o 3 (w 1),V 4 (i 0)] (r [o 5 (L 2 131),o 6 (.rW (.func g0) [] [t 3]),o 7 (.call g1 [t 5,t 6]),M 4 7] y)⟩
def ot(g0 g1 g2:Nat):bM:=⟨78,[.tmp 4],r [V 4 (i 0)] (r [M 12 1,o 13 (.call g0 [t 12,k (i 0),k (i 3)]),o 14 (.bin .add (k (i 1)) (t 13)),M 5 14] (r [V 6 (i 0)] (j (r [V 7 (i 0)] (u 0 (.loop (j (r [M 15 7,M 16 5,o 17 (b .lss 15 16)] (c 17 z (.exit 0))) (j (u 1 (r [o 8 (.alloc [.aL,.aL])] (j (r [V 9 (i 0)] (u 2 (.loop (j (r [M 20 9,o 21 (bb .lss 20 (i 2))] (c 21 z (.exit 2))) (j (u 3 (r [M 24 1,M 25 7,o 26 (.bin .mul (k (i 2)) (t 25)),o 27 (.bin .add (k (i 1)) (t 26)),M 28 9,o 29 (b .add 27 28),o 30 (.call g0 [t 24,t 29,k (i 3)]),M 10 30] (j (r [M 31 9,o 32 (bb .eql 31 (i 1)),M 33 32,p 34 (m 10) 33,p 35 (bb .eql 34 (i 0)) 33,o 36 (P 33 35),M 37 36,p 38 (.Gj (t 8) (k (i 0)) 2 1) 37,p 39 (l 38) 37,p 40 (h 39) 37,p 41 (bb .eql 40 (i 0)) 37,o 42 (P 37 41)] (c 42 (R [V 10 (i 1)]) z)) (r [V 11 (i 0)] (u 4 (.loop (j (r [M 43 11,M 44 10,o 45 (b .lss 43 44),M 46 45,p 47 (m 6) 46,p 48 (m 5) 46,p 49 (bb .sub 48 (i 1)) 46,p 50 (m 7) 46,p 51 (b .sub 49 50) 46,p 52 (.bin .sub (k (i 8)) (t 51)) 46,p 53 (b .lss 47 52) 46,o 54 (P 46 53)] (c 54 z (.exit 4))) (j (u 5 (r [M 57 9,M 58 9,o 59 (A 8 58 2 1),o 60 (l 59),M 61 6,o 62 (.mz g1 1 [t 61]),o 63 (.app g1 1 8 (t 60) (t 62)),o 64 (A 8 57 2 1),n (s 64 63 1)] (R [M 65 6,o 66 (bb .add 65 (i 1)),M 6 66]))) (R [M 55 11,o 56 (bb .add 55 (i 1)),M 11 56]))))))))) (R [M 22 9,o 23 (bb .add 22 (i 1)),M 9 23])))))) (R [M 67 0,M 68 0,o 69 (.nc (t 68)),o 70 (f 69 104),o 71 (l 70),o 72 (L 8 2),o 73 (.mz g2 2 [t 72]),o 74 (.app g2 2 48 (t 71) (t 73)),o 75 (.nc (t 67)),o 76 (f 75 104),n (s 76 74 1)])))) (R [M 18 7,o 19 (bb .add 18 (i 1)),M 7 19])))))) (r [M 77 6,M 4 77] y))))⟩
def sL(g0:Nat):bM:=⟨95,[.cell 4 (some 13)],r [o 4 (.alloc cn)] (r [M 6 0,M 7 1,o 8 (.call g0 [t 6,t 7,k (i 12)]),o 9 (.bin .add (k (i 1)) (t 8)),M 10 0,M 11 1,o 12 (bb .add 11 (i 1)),o 13 (.call g0 [t 10,t 12,k (i 9)]),M 14 0,M 15 1,o 16 (bb .add 15 (i 2)),o 17 (.call g0 [t 14,t 16,k (i 6)]),o 18 (.bin .add (k (i 1)) (t 17)),M 19 0,M 20 1,o 21 (bb .add 20 (i 3)),o 22 (.call g0 [t 19,t 21,k (i 4)]),o 23 (.bin .add (k (i 10)) (t 22)),M 24 0,M 25 1,o 26 (bb .add 25 (i 4)),o 27 (.call g0 [t 24,t 26,k (i 5)]),o 28 (.build cn [(0,1,k (T)),(1,1,t 9),(2,1,t 13),(5,1,t 18),(6,1,t 23),(7,1,t 27)]),o 5 (.alloc cn),n (s 5 28 13)] (r [o 29 (f 5 1),o 30 (l 29),M 31 0,M 32 1,o 33 (bb .add 32 (i 5)),o 34 (.call g0 [t 31,t 33,k (i 25)]),o 35 (b .add 30 34),o 36 (f 5 3),n (s 36 35 1)] (r [o 37 (f 5 3),o 38 (l 37),M 39 0,M 40 1,o 41 (bb .add 40 (i 6)),o 42 (.call g0 [t 39,t 41,k (i 15)]),o 43 (b .add 38 42),o 44 (f 5 4),n (s 44 43 1)] (j (r [M 45 0,M 46 1,o 47 (bb .add 46 (i 7)),o 48 (.call g0 [t 45,t 47,k (i 2)]),o 49 (bb .eql 48 (i 1))] (c 49 (r [M 50 0,M 51 1,o 52 (bb .add 51 (i 8)),o 53 (.call g0 [t 50,t 52,k (i 10)]),o 54 (.bin .add (k (i 1)) (t 53)),o 55 (f 5 8),n (s 55 54 1)] (R [M 56 0,M 57 1,o 58 (bb .add 57 (i 8)),o 59 (.call g0 [t 56,t 58,k (i 97)]),o 60 (bb .quo 59 (i 10)),o 61 (.bin .add (k (i 1)) (t 60)),o 62 (f 5 9),n (s 62 61 1)])) z)) (r [M 63 0,M 64 1,o 65 (bb .add 64 (i 9)),o 66 (.call g0 [t 63,t 65,k (i 7)]),o 67 (f 5 10),n (s 67 66 1)] (j (r [o 68 (f 5 10),o 69 (l 68),o 70 (bb .gtr 69 (i 3)),M 71 70,q 72 (f 5 10) 71,q 73 (l 72) 71,q 74 (bb .eql 73 (i 3)) 71,q 75 (m 74) 71,p 76 (f 5 8) 75,p 77 (l 76) 75,p 78 (bb .eql 77 (i 0)) 75,q 79 (P 75 78) 71,o 80 (Q 71 79)] (c 80 (R [o 81 (f 5 10),n (ss 81 (i 0) 1)]) z)) (r [M 82 0,M 83 1,o 84 (bb .add 83 (i 10)),o 85 (.call g0 [t 82,t 84,k (i 3)]),o 86 (bb .gtr 85 (i 0)),o 87 (f 5 11),n (s 87 86 1)] (r [M 88 0,M 89 1,o 90 (bb .add 89 (i 11)),o 91 (.call g0 [t 88,t 90,k (i 4)]),o 92 (bb .eql 91 (i 1)),o 93 (f 5 12),n (s 93 92 1)] (r [o 94 (L 5 13),n (s 4 94 13)] y)))))))))⟩
def qP(g0:Nat):bM:=⟨41,[.tmp 6],r [o 3 (w 0),V 6 (F)] (r [o 12 (L 3 131),M 13 1,o 14 (.call g0 [t 12,t 13]),M 11 14,o 15 (e 11 0),o 16 (e 11 1),o 7 (.alloc [i 0,i 0,i 0,i 0]),n (s 7 15 4),M 8 16] (r [o 18 (L 3 131),M 19 2,o 20 (.call g0 [t 18,t 19]),M 17 20,o 21 (e 17 0),o 22 (e 17 1),o 9 (.alloc [i 0,i 0,i 0,i 0]),n (s 9 21 4),M 10 22] (r [M 23 8,M 24 23,p 25 (m 10) 24,o 26 (P 24 25),M 27 26,p 28 (f 7 0) 27,p 29 (l 28) 27,p 30 (f 9 0) 27,p 31 (l 30) 27,p 32 (b .eql 29 31) 27,o 33 (P 27 32),M 34 33,p 35 (f 7 1) 34,p 36 (l 35) 34,p 37 (f 9 1) 34,p 38 (l 37) 34,p 39 (b .neq 36 38) 34,o 40 (P 34 39),M 6 40] y)))⟩
def vc(g0 g1:Nat):bM:=⟨12,[.tmp 6],r [V 6 (i 0)] (r [M 7 0,M 8 1,o 9 (.call g0 [t 7,t 8]),M 10 2,o 11 (.call g1 [t 9,t 10]),M 6 11] y)⟩
def ve(g0 g1 g2:Nat):bM:=⟨11,[.tmp 4],r [V 4 (i 0)] (r [M 5 0,o 6 (.call g0 [t 5]),M 7 1,o 8 (.mz g1 1 [t 7]),o 9 (.app g1 1 8 (t 6) (t 8)),o 10 (.call g2 [t 9]),M 4 10] y)⟩
def nN(g0:Nat):bM:=⟨66,[.cell 6 (some 7)],r [o 6 (.alloc [i 0,.float .f64 0,.float .f64 0,.float .f64 0,.float .f64 0,i 0,i 0])] (r [M 8 0,M 9 1,M 10 2,o 11 (.call g0 [t 8,t 9,t 10]),o 12 (.build [.float .f64 0,.float .f64 0,.float .f64 0,.float .f64 0] [(0,1,k (.float .f64 4617315517961601024)),(1,1,k (.float .f64 4621819117588971520)),(2,1,k (.float .f64 4607182418800017408)),(3,1,k (.float .f64 4602678819172646912))]),M 13 0,M 14 1,o 15 (bb .add 14 (i 1)),o 16 (.call g0 [t 13,t 15,k (i 4)]),o 17 (.DU (t 12) (t 16) 4 1 none),o 18 (.build [i 0,.float .f64 0,.float .f64 0,.float .f64 0,.float .f64 0,i 0,i 0] [(0,1,t 11),(1,1,t 17)]),o 7 (.alloc [i 0,.float .f64 0,.float .f64 0,.float .f64 0,.float .f64 0,i 0,i 0]),n (s 7 18 7)] (r [o 19 (f 7 1),o 20 (l 19),o 21 (.build [.float .f64 0,.float .f64 0,.float .f64 0] [(0,1,k (.float .f64 4602678819172646912)),(1,1,k (.float .f64 4607182418800017408)),(2,1,k (.float .f64 4598175219545276416))]),M 22 0,M 23 1,o 24 (bb .add 23 (i 2)),o 25 (.call g0 [t 22,t 24,k (i 3)]),o 26 (.DU (t 21) (t 25) 3 1 none),o 27 (b .mul 20 26),o 28 (f 7 2),n (s 28 27 1)] (r [M 29 0,M 30 1,o 31 (bb .add 30 (i 3)),o 32 (.call g0 [t 29,t 31,k (i 4)]),o 33 (.DH .f64 (t 32)),o 34 (bb .quo 33 (.float .f64 4621819117588971520)),o 35 (f 7 3),n (s 35 34 1)] (r [M 36 0,M 37 1,o 38 (bb .add 37 (i 4)),o 39 (.call g0 [t 36,t 38,k (i 6)]),o 40 (.DH .f64 (t 39)),o 41 (bb .quo 40 (.float .f64 4621819117588971520)),o 42 (f 7 4),n (s 42 41 1)] (j (r [M 43 0,M 44 1,o 45 (bb .add 44 (i 5)),o 46 (.call g0 [t 43,t 45,k (i 3)]),o 47 (bb .eql 46 (i 1))] (c 47 (R [M 48 0,M 49 1,o 50 (bb .add 49 (i 6)),o 51 (.call g0 [t 48,t 50,k (i 60)]),o 52 (.bin .add (k (i 20)) (t 51)),o 53 (f 7 5),n (s 53 52 1)]) z)) (j (r [M 54 0,M 55 1,o 56 (bb .add 55 (i 5)),o 57 (.call g0 [t 54,t 56,k (i 9)]),o 58 (bb .eql 57 (i 2))] (c 58 (R [M 59 0,M 60 1,o 61 (bb .add 60 (i 7)),o 62 (.call g0 [t 59,t 61,k (i 300)]),o 63 (.bin .add (k (i 60)) (t 62)),o 64 (f 7 6),n (s 64 63 1)]) z)) (r [o 65 (L 7 7),n (s 6 65 7)] y)))))))⟩
def vf(g0 g1:Nat):bM:=⟨119,[.cell 8 (some 11)],r [o 4 (w 0),o 8 (.alloc bz)] (r [o 11 (L 4 131),M 12 1,M 13 2,M 14 3,o 15 (.call g0 [t 12,t 13,t 14]),M 16 1,M 17 2,o 18 (bb .add 17 (i 1)),M 19 3,o 20 (.call g0 [t 16,t 18,t 19]),o 21 (.call g1 [t 11,t 15,t 20]),o 22 (L 4 131),M 23 1,M 24 2,o 25 (bb .add 24 (i 2)),M 26 3,o 27 (.call g0 [t 23,t 25,t 26]),M 28 1,M 29 2,o 30 (bb .add 29 (i 3)),M 31 3,o 32 (.call g0 [t 28,t 30,t 31]),o 33 (.call g1 [t 22,t 27,t 32]),o 34 (.build bz [(2,1,t 21),(3,1,t 33)]),o 9 (.alloc bz),n (s 9 34 11)] (j (r [M 35 1,M 36 2,o 37 (bb .add 36 (i 4)),M 38 3,o 39 (bb .add 38 (i 1)),o 40 (.call g0 [t 35,t 37,t 39]),M 10 40] (r [M 41 10,M 42 3,o 43 (b .lss 41 42)] (c 43 (r [o 44 (L 4 131),M 45 10,M 46 1,M 47 2,o 48 (bb .add 47 (i 5)),M 49 3,o 50 (.call g0 [t 46,t 48,t 49]),o 51 (.call g1 [t 44,t 45,t 50]),o 52 (f 9 1),n (s 52 51 1)] (R [M 53 1,M 54 2,o 55 (bb .add 54 (i 6)),o 56 (.call g0 [t 53,t 55,k (i 10)]),o 57 (.bin .add (k (i 1)) (t 56)),o 58 (f 9 7),n (s 58 57 1)])) z))) (r [M 59 1,M 60 2,o 61 (bb .add 60 (i 7)),o 62 (.call g0 [t 59,t 61,k (i 256)]),M 63 3,o 64 (.oG .u64 (t 63)),o 65 (.bin .shl (k (i 1)) (t 64)),o 66 (bb .sub 65 (i 1)),o 67 (b .and 62 66),o 68 (f 9 2),o 69 (l 68),o 70 (b .andNot 67 69),o 71 (f 9 0),n (s 71 70 1)] (r [M 72 1,M 73 2,o 74 (bb .add 73 (i 8)),o 75 (.call g0 [t 72,t 74,k (i 4)]),o 76 (f 9 4),n (s 76 75 1)] (r [M 77 1,M 78 2,o 79 (bb .add 78 (i 9)),o 80 (.call g0 [t 77,t 79,k (i 6)]),o 81 (.bin .add (k (i 1)) (t 80)),o 82 (f 9 5),n (s 82 81 1)] (r [M 83 1,M 84 2,o 85 (bb .add 84 (i 10)),o 86 (.call g0 [t 83,t 85,k (i 6)]),o 87 (f 9 6),n (s 87 86 1)] (r [M 88 1,M 89 2,o 90 (bb .add 89 (i 11)),o 91 (.call g0 [t 88,t 90,k (i 15)]),o 92 (.bin .add (k (i 1)) (t 91)),o 93 (f 9 8),n (s 93 92 1)] (j (r [M 94 1,M 95 2,o 96 (bb .add 95 (i 12)),o 97 (.call g0 [t 94,t 96,k (i 3)]),o 98 (bb .eql 97 (i 1))] (c 98 (R [o 99 (f 9 8),o 100 (l 99),M 101 1,M 102 2,o 103 (bb .add 102 (i 13)),o 104 (.call g0 [t 101,t 103,k (i 30)]),o 105 (b .add 100 104),o 106 (f 9 9),n (s 106 105 1)]) z)) (r [o 107 (f 9 4),o 108 (l 107),o 109 (bb .add 108 (i 1)),o 110 (.build [i 0,i 0,i 0] [(0,1,k (i 10000)),(1,1,k (i 400)),(2,1,k (i 20))]),M 111 1,M 112 2,o 113 (bb .add 112 (i 14)),o 114 (.call g0 [t 111,t 113,k (i 3)]),o 115 (.DU (t 110) (t 114) 3 1 none),o 116 (b .add 109 115),o 117 (f 9 10),n (s 117 116 1)] (r [o 118 (L 9 11),n (s 8 118 11)] y))))))))))⟩
def ou(g0 g1 g2 g3 g4:Nat):bM:=⟨32,[.tmp 4],r [o 2 (w 0),V 4 (i 0)] (r [o 6 (L 2 131),M 7 1,o 8 (.call g0 [t 6,t 7]),M 5 8] (j (r [M 9 5,o 10 (bb .eql 9 (i 0)),M 11 10,q 12 (f 2 114) 11,q 13 (l 12) 11,q 14 (h 13) 11,q 15 (bb .eql 14 (i 0)) 11,o 16 (Q 11 15)] (c 16 (r [M 17 5,M 4 17] y) z)) (r [o 18 (f 2 130),o 19 (l 18),o 20 (.mz g1 1 [t 19,k (i 1)]),o 21 (.call g2 [t 20]),o 22 (L 2 131),o 23 (.call g3 [t 22]),M 24 5,o 25 (.mz g1 1 [t 23,t 24,k (i 2)]),o 26 (.call g2 [t 25]),o 27 (.call g4 [t 21,t 26]),o 28 (f 2 130),o 29 (l 28),o 30 (.mz g1 1 [t 27,t 29]),o 31 (.call g2 [t 30]),M 4 31] y)))⟩
def qQ(g0:Nat):bM:=⟨39,[.tmp 7],r [o 6 (w 1),V 7 (F)] (r [o 9 (f 6 10),o 10 (l 9),o 11 (bb .eql 10 (i 1)),M 12 11,q 13 (f 6 10) 12,q 14 (l 13) 12,q 15 (bb .eql 14 (i 2)) 12,o 16 (Q 12 15),M 8 16] (r [o 17 (l 2),M 18 0,o 19 (.call g0 [t 17,t 18]),o 20 (.un .not (t 19)),M 21 20,p 22 (f 3 0) 21,p 23 (l 22) 21,p 24 (m 0) 21,p 25 (.call g0 [t 23,t 24]) 21,p 26 (m 25) 21,q 27 (f 6 11) 26,q 28 (l 27) 26,q 29 (m 28) 26,p 30 (l 4) 29,p 31 (m 0) 29,p 32 (.call g0 [t 30,t 31]) 29,q 33 (P 29 32) 26,p 34 (Q 26 33) 21,p 35 (m 34) 21,q 36 (m 8) 35,p 37 (Q 35 36) 21,o 38 (P 21 37),M 7 38] y))⟩
def BO(g0:Nat):bM:=⟨10,[.tmp 4],r [V 4 (F)] (r [M 5 0,M 6 1,o 7 (.call g0 [t 6]),o 8 (b .and 5 7),o 9 (bb .neq 8 (i 0)),M 4 9] y)⟩
def qR(g0:Nat):bM:=⟨33,[.tmp 7],r [o 6 (w 1),V 7 (F)] (r [o 8 (f 6 8),o 9 (l 8),o 10 (bb .gtr 9 (i 0)),M 11 10,p 12 (l 2) 11,p 13 (m 0) 11,p 14 (.call g0 [t 12,t 13]) 11,p 15 (.un .not (t 14)) 11,o 16 (P 11 15),M 17 16,p 18 (f 3 1) 17,p 19 (l 18) 17,p 20 (m 0) 17,p 21 (.call g0 [t 19,t 20]) 17,p 22 (m 21) 17,q 23 (l 4) 22,q 24 (m 0) 22,q 25 (.call g0 [t 23,t 24]) 22,p 26 (Q 22 25) 17,p 27 (m 26) 17,q 28 (f 6 10) 27,q 29 (l 28) 27,q 30 (bb .eql 29 (i 3)) 27,p 31 (Q 27 30) 17,o 32 (P 17 31),M 7 32] y)⟩
def sM(g0:Nat):bM:=⟨27,[.tmp 4],r [o 2 (w 0),V 4 (i 0)] (r [V 5 (i 0)] (j (r [o 8 (f 2 0),o 9 (L 8 104),V 10 (i 0)] (u 0 (.loop (r [o 11 (bb .lss 10 (i 8))] (j (c 11 z (.exit 0)) (j (u 1 (r [M 12 10,o 13 (.DU (t 9) (t 10) 8 13 (some 13)),o 7 (.alloc cn),M 6 12,n (s 7 13 13)] (r [o 14 (f 7 0),o 15 (l 14),M 16 15,p 17 (m 1) 16,p 18 (m 6) 16,p 19 (L 7 13) 16,p 20 (.eP (t 17) [t 18,t 19]) 16,o 21 (P 16 20)] (c 21 (R [M 22 5,M 23 6,o 24 (.call g0 [t 22,t 23]),M 5 24]) z)))) (R [o 25 (bb .add 10 (i 1)),M 10 25]))))))) (r [M 26 5,M 4 26] y)))⟩
def qS(g0:Nat):bM:=⟨27,[.tmp 6],r [o 5 (w 1),V 6 (F)] (r [o 7 (f 2 0),o 8 (l 7),M 9 0,o 10 (.call g0 [t 8,t 9]),M 11 10,q 12 (l 3) 11,q 13 (m 0) 11,q 14 (.call g0 [t 12,t 13]) 11,o 15 (Q 11 14),M 16 15,q 17 (f 2 1) 16,q 18 (l 17) 16,q 19 (m 0) 16,q 20 (.call g0 [t 18,t 19]) 16,q 21 (m 20) 16,p 22 (f 5 8) 21,p 23 (l 22) 21,p 24 (bb .gtr 23 (i 0)) 21,q 25 (P 21 24) 16,o 26 (Q 16 25),M 6 26] y)⟩
def qT(g0:Nat):bM:=⟨14,[.tmp 5],r [o 4 (w 1),V 5 (F)] (r [o 6 (l 2),M 7 0,o 8 (.call g0 [t 6,t 7]),M 9 8,q 10 (f 4 10) 9,q 11 (l 10) 9,q 12 (bb .eql 11 (i 2)) 9,o 13 (Q 9 12),M 5 13] y)⟩
def sN(g0:Nat):bM:=⟨28,[.cell 4 (some 4),.tmp 5],r [o 2 (w 0),o 4 (.alloc [i 0,i 0,i 0,i 0]),V 5 (F)] (r [o 8 (L 2 131),o 9 (.call g0 [t 8]),M 6 9] (j (r [V 7 (i 0)] (u 0 (.loop (j (r [M 10 7,M 11 6,o 12 (h 11),o 13 (b .lss 10 12)] (c 13 z (.exit 0))) (j (u 1 (r [M 16 6,M 17 7,o 18 (a 16 17 4),o 19 (f 18 3),o 20 (l 19),M 21 1,o 22 (b .eql 20 21)] (c 22 (r [M 23 6,M 24 7,o 25 (a 23 24 4),o 26 (L 25 4),n (s 4 26 4),V 5 (T)] y) z))) (R [M 14 7,o 15 (bb .add 14 (i 1)),M 7 15])))))) (r [o 27 (.build [i 0,i 0,i 0,i 0] []),n (s 4 27 4),V 5 (F)] y)))⟩
def zM:bM:=⟨17,[.tmp 4],r [V 4 (i 0)] (j (r [M 5 1,o 6 (bb .lss 5 (i 0)),M 7 6,q 8 (m 1) 7,q 9 (m 0) 7,q 10 (h 9) 7,q 11 (b .geq 8 10) 7,o 12 (Q 7 11)] (c 12 (r [V 4 (i 0)] y) z)) (r [M 13 0,M 14 1,o 15 (a 13 14 1),o 16 (l 15),M 4 16] y))⟩
def vg(g0 g1:Nat):bM:=⟨17,[.tmp 2],r [V 2 .aL] (r [V 3 .aL] (j (r [V 4 (i 0)] (u 0 (.loop (j (r [M 5 4,o 6 (bb .lss 5 (i 8))] (c 6 z (.exit 0))) (j (u 1 (r [M 9 0,M 10 4,o 11 (.call g0 [t 9,t 10])] (c 11 (R [M 12 3,M 13 4,o 14 (.mz g1 1 [t 13]),o 15 (.app g1 1 8 (t 12) (t 14)),M 3 15]) z))) (R [M 7 4,o 8 (bb .add 7 (i 1)),M 4 8])))))) (r [M 16 3,M 2 16] y)))⟩
def ov(g0 g1 g2 g3:Nat):bM:=⟨19,[.tmp 6],r [o 3 (w 0),V 6 (i 0)] (r [M 8 1,o 9 (.mz g0 1 [t 8]),o 10 (.call g1 [t 9]),M 7 10] (j (r [o 11 (L 3 131),M 12 1,M 13 2,o 14 (.call g2 [t 11,t 12,t 13])] (c 14 (R [M 15 7,M 16 2,o 17 (.call g3 [t 15,t 16]),M 7 17]) z)) (r [M 18 7,M 6 18] y)))⟩
def ox(g0 g1 g2 g3 g4 g5:Nat):bM:=⟨44,[.tmp 4],r [o 2 (w 0),V 4 (i 0)] (r [o 10 (L 2 131),M 11 1,o 12 (.call g0 [t 10,t 11]),M 9 12,o 13 (e 9 0),o 14 (e 9 1),o 5 (.alloc [i 0,i 0,i 0,i 0]),n (s 5 13 4),M 6 14] (j (r [M 15 6,o 16 (.un .not (t 15)),M 17 16,q 18 (L 2 131) 17,q 19 (.call g1 [t 18]) 17,q 20 (m 1) 17,q 21 (.call g2 [t 19,t 20]) 17,q 22 (.un .not (t 21)) 17,o 23 (Q 17 22)] (c 23 (r [V 4 (i 0)] y) z)) (r [o 24 (L 2 131),o 25 (f 5 0),o 26 (l 25),o 27 (.call g3 [t 24,t 26]),o 28 (.mz g4 1 [t 27]),M 7 28] (j (r [V 8 (i 0)] (u 0 (.loop (j (r [M 29 8,o 30 (f 2 104),o 31 (l 30),o 32 (h 31),o 33 (b .lss 29 32)] (c 33 z (.exit 0))) (j (u 1 (R [M 36 7,o 37 (L 2 131),M 38 8,o 39 (.call g3 [t 37,t 38]),o 40 (.mz g4 1 [t 39]),o 41 (.app g4 1 8 (t 36) (t 40)),M 7 41])) (R [M 34 8,o 35 (bb .add 34 (i 1)),M 8 35])))))) (r [M 42 7,o 43 (.call g5 [t 42]),M 4 43] y)))))⟩
def xh(g0:Nat):bM:=⟨5,[.tmp 2],r [V 2 (i 0)] (r [M 3 0,o 4 (.call g0 [t 3]),M 2 4] y)⟩
def xj(g0:Nat):bM:=⟨11,[.tmp 4],r [V 4 (i 0)] (r [M 5 0,o 6 (.call g0 [t 5]),M 7 1,o 8 (.call g0 [t 7]),o 9 (b .mul 6 8),o 10 (.call g0 [t 9]),M 4 10] y)⟩
def vh(g0 g1 g2 g3 g4 g5 g6 g7:Nat):bM:=⟨73,[.tmp 2],r [o 1 (w 0),V 2 (i 0)] (j (r [o 8 (f 1 114),o 9 (l 8),o 10 (h 9),o 11 (bb .eql 10 (i 0))] (c 11 (r [V 2 (i 0)] y) z)) (r [V 3 .aL,V 4 .aL] (j (r [V 5 (i 0)] (u 0 (.loop (j (r [M 12 5,o 13 (f 1 114),o 14 (l 13),o 15 (h 14),o 16 (b .lss 12 15)] (c 16 z (.exit 0))) (j (u 1 (R [M 19 3,o 20 (L 1 131),M 21 5,o 22 (.call g0 [t 20,t 21]),o 23 (f 1 114),o 24 (l 23),M 25 5,o 26 (a 24 25 11),o 27 (f 26 8),o 28 (l 27),o 29 (.mz g1 1 [t 22,t 28]),o 30 (.call g2 [t 29]),o 31 (.mz g1 1 [t 30]),o 32 (.app g1 1 8 (t 19) (t 31)),M 3 32])) (R [M 17 5,o 18 (bb .add 17 (i 1)),M 5 18])))))) (j (r [o 33 (L 1 131),o 34 (.call g3 [t 33]),o 35 (.call g4 [t 34]),o 36 (h 35),V 37 (i 0)] (u 2 (.loop (r [o 38 (b .lss 37 36)] (j (c 38 z (.exit 2)) (j (u 3 (r [o 39 (a 35 37 1),o 40 (l 39),M 7 40] (R [M 41 4,M 42 7,o 43 (f 1 0),o 44 (A 43 42 8 13),o 45 (f 44 1),o 46 (l 45),o 47 (.call g5 [t 46]),M 48 7,o 49 (f 1 0),o 50 (A 49 48 8 13),o 51 (f 50 8),o 52 (l 51),M 53 7,o 54 (f 1 0),o 55 (A 54 53 8 13),o 56 (f 55 9),o 57 (l 56),o 58 (.mz g1 1 [t 52,t 57]),o 59 (.call g2 [t 58]),o 60 (.mz g1 1 [t 47,t 59]),o 61 (.app g1 1 8 (t 41) (t 60)),M 4 61]))) (R [o 62 (bb .add 37 (i 1)),M 37 62]))))))) (r [M 63 3,o 64 (.call g6 [t 63]),M 65 4,o 66 (.call g6 [t 65]),o 67 (L 1 131),o 68 (.call g7 [t 67]),o 69 (f 1 119),o 70 (l 69),o 71 (.mz g1 1 [t 64,t 66,t 68,t 70,k (i 30)]),o 72 (.call g2 [t 71]),M 2 72] y)))))⟩
def BP:bM:=⟨11,[.tmp 2],r [V 2 (i 0)] (j (r [M 3 0,o 4 (bb .lss 3 (i 0)),M 5 4,q 6 (m 0) 5,q 7 (bb .geq 6 (i 8)) 5,o 8 (Q 5 7)] (c 8 (r [V 2 (i 0)] y) z)) (r [M 9 0,o 10 (.bin .shl (k (i 1)) (t 9)),M 2 10] y))⟩
def zN(g0:Nat):bM:=⟨10,[.tmp 4],r [V 4 (i 0)] (r [M 5 0,o 6 (bb .and 5 (i 255)),M 7 1,o 8 (.call g0 [t 7]),o 9 (b .or 6 8),M 4 9] y)⟩
def sO(g0:Nat):bM:=⟨56,[.tmp 2],r [o 1 (w 0),V 2 .aL] (r [V 3 .aL] (j (r [V 4 (i 0)] (u 0 (.loop (j (r [M 8 4,o 9 (f 1 104),o 10 (l 9),o 11 (h 10),o 12 (b .lss 8 11)] (c 12 z (.exit 0))) (j (u 1 (r [V 5 (i 0)] (u 2 (.loop (j (r [M 15 5,o 16 (bb .lss 15 (i 2))] (c 16 z (.exit 2))) (j (u 3 (r [V 6 (i 0)] (u 4 (.loop (j (r [M 19 6,o 20 (f 1 104),o 21 (l 20),M 22 4,M 23 5,o 24 (a 21 22 2),o 25 (A 24 23 2 1),o 26 (l 25),o 27 (h 26),o 28 (b .lss 19 27)] (c 28 z (.exit 4))) (j (u 5 (r [o 31 (f 1 104),o 32 (l 31),M 33 4,M 34 5,o 35 (a 32 33 2),o 36 (A 35 34 2 1),o 37 (l 36),M 38 6,o 39 (a 37 38 1),o 40 (l 39),M 7 40] (r [M 41 7,o 42 (bb .geq 41 (i 0)),M 43 42,p 44 (m 7) 43,p 45 (bb .lss 44 (i 8)) 43,o 46 (P 43 45)] (c 46 (R [M 47 3,M 48 4,M 49 5,M 50 6,M 51 7,o 52 (.build [i 0,i 0,i 0,i 0] [(0,1,t 48),(1,1,t 49),(2,1,t 50),(3,1,t 51)]),o 53 (.mz g0 4 [t 52]),o 54 (.app g0 4 32 (t 47) (t 53)),M 3 54]) z)))) (R [M 29 6,o 30 (bb .add 29 (i 1)),M 6 30]))))))) (R [M 17 5,o 18 (bb .add 17 (i 1)),M 5 18]))))))) (R [M 13 4,o 14 (bb .add 13 (i 1)),M 4 14])))))) (r [M 55 3,M 2 55] y)))⟩
def oy(g0 g1 g2 g3:Nat):bM:=⟨39,[.tmp 4],r [o 2 (w 0),V 4 (i 0)] (j (r [M 8 1,o 9 (bb .lss 8 (i 0)),M 10 9,q 11 (m 1) 10,q 12 (f 2 104) 10,q 13 (l 12) 10,q 14 (h 13) 10,q 15 (b .geq 11 14) 10,o 16 (Q 10 15)] (c 16 (r [V 4 (i 0)] y) z)) (r [o 17 (.mz g0 1 [k (i 8)]),M 5 17] (j (r [o 18 (L 2 131),o 19 (.call g1 [t 18]),o 20 (h 19),V 21 (i 0)] (u 0 (.loop (r [o 22 (b .lss 21 20)] (j (c 22 z (.exit 0)) (j (u 1 (r [o 23 (a 19 21 4),o 24 (L 23 4),o 7 (.alloc [i 0,i 0,i 0,i 0]),n (s 7 24 4)] (r [o 25 (f 7 0),o 26 (l 25),M 27 1,o 28 (b .eql 26 27)] (c 28 (R [M 29 5,o 30 (L 2 131),o 31 (f 7 3),o 32 (l 31),o 33 (.call g2 [t 30,t 32]),o 34 (.mz g0 1 [t 33]),o 35 (.app g0 1 8 (t 29) (t 34)),M 5 35]) z)))) (R [o 36 (bb .add 21 (i 1)),M 21 36]))))))) (r [M 37 5,o 38 (.call g3 [t 37]),M 4 38] y))))⟩
def xk(g0:Nat):bM:=⟨18,[.tmp 2],r [V 2 (i 0)] (r [V 3 (i 0)] (j (r [V 4 (i 0)] (u 0 (.loop (j (r [M 5 4,M 6 0,o 7 (h 6),o 8 (b .lss 5 7)] (c 8 z (.exit 0))) (j (u 1 (R [M 11 3,M 12 0,M 13 4,o 14 (a 12 13 1),o 15 (l 14),o 16 (.call g0 [t 11,t 15]),M 3 16])) (R [M 9 4,o 10 (bb .add 9 (i 1)),M 4 10])))))) (r [M 17 3,M 2 17] y)))⟩
def xl(g0:Nat):bM:=⟨5,[.tmp 2],r [V 2 (i 0)] (r [M 3 0,o 4 (.call g0 [t 3,k (i 0),k (i 2147483647)]),M 2 4] y)⟩
def mV(g0 g1 g2:Nat):bM:=⟨50,[.tmp 4],r [o 2 (w 0),V 4 (i 0)] (j (r [M 7 1,o 8 (bb .lss 7 (i 0)),M 9 8,q 10 (m 1) 9,q 11 (f 2 114) 9,q 12 (l 11) 9,q 13 (h 12) 9,q 14 (b .geq 10 13) 9,o 15 (Q 9 14)] (c 15 (r [V 4 (i 0)] y) z)) (r [o 16 (f 2 114),o 17 (l 16),M 18 1,o 19 (a 17 18 11),o 20 (L 19 11),o 5 (.alloc bz),n (s 5 20 11)] (r [o 21 (L 2 131),o 22 (.call g0 [t 21]),M 6 22] (r [o 23 (f 5 4),o 24 (l 23),o 25 (f 5 7),o 26 (l 25),o 27 (f 5 5),o 28 (l 27),o 29 (f 5 5),o 30 (l 29),o 31 (f 5 6),o 32 (l 31),o 33 (f 5 6),o 34 (l 33),o 35 (f 5 6),o 36 (l 35),M 37 6,M 38 6,M 39 6,M 40 6,M 41 6,o 42 (f 2 119),o 43 (l 42),o 44 (f 2 119),o 45 (l 44),o 46 (f 2 119),o 47 (l 46),o 48 (.mz g1 1 [t 24,t 26,t 28,t 30,t 32,t 34,t 36,t 37,t 38,t 39,t 40,t 41,t 43,t 45,t 47,k (i 60)]),o 49 (.call g2 [t 48]),M 4 49] y))))⟩
def vk:bM:=⟨18,[.tmp 2],r [V 2 (i 0)] (r [V 3 (i 0)] (j (r [V 4 (i 0)] (u 0 (.loop (j (r [M 5 4,M 6 0,o 7 (h 6),o 8 (b .lss 5 7)] (c 8 z (.exit 0))) (j (u 1 (R [M 11 3,M 12 0,M 13 4,o 14 (a 12 13 1),o 15 (l 14),o 16 (.mm true [t 11,t 15]),M 3 16])) (R [M 9 4,o 10 (bb .add 9 (i 1)),M 4 10])))))) (r [M 17 3,M 2 17] y)))⟩
def sP(g0 g1 g2 g3 g4:Nat):bM:=⟨32,[.tmp 2],r [o 1 (w 0),V 2 (i 0)] (r [V 3 .aL] (j (r [o 6 (L 1 131),o 7 (.call g0 [t 6]),o 8 (.call g1 [t 7]),o 9 (h 8),V 10 (i 0)] (u 0 (.loop (r [o 11 (b .lss 10 9)] (j (c 11 z (.exit 0)) (j (u 1 (r [o 12 (a 8 10 1),o 13 (l 12),M 5 13] (R [M 14 3,M 15 5,o 16 (f 1 0),o 17 (A 16 15 8 13),o 18 (f 17 6),o 19 (l 18),M 20 5,o 21 (f 1 0),o 22 (A 21 20 8 13),o 23 (f 22 7),o 24 (l 23),o 25 (.mz g2 1 [t 19,t 24]),o 26 (.call g3 [t 25]),o 27 (.mz g2 1 [t 26]),o 28 (.app g2 1 8 (t 14) (t 27)),M 3 28]))) (R [o 29 (bb .add 10 (i 1)),M 10 29]))))))) (r [M 30 3,o 31 (.call g4 [t 30]),M 2 31] y)))⟩
def mW(g0 g1 g2 g3 g4 g5:Nat):bM:=⟨39,[.tmp 4],r [o 2 (w 0),V 4 (i 0)] (j (r [o 6 (L 2 131),o 7 (.call g0 [t 6]),M 8 1,o 9 (.call g1 [t 7,t 8]),o 10 (.un .not (t 9))] (c 10 (r [V 4 (i 0)] y) z)) (r [M 11 1,o 12 (f 2 0),o 13 (A 12 11 8 13),o 14 (L 13 13),o 5 (.alloc cn),n (s 5 14 13)] (r [o 15 (f 5 1),o 16 (l 15),o 17 (.call g2 [t 16]),o 18 (f 5 8),o 19 (l 18),o 20 (f 5 9),o 21 (l 20),o 22 (.mz g3 1 [t 19,t 21]),o 23 (.call g4 [t 22]),o 24 (f 5 4),o 25 (l 24),o 26 (.call g2 [t 25]),o 27 (.mz g3 1 [t 17,t 23,t 26]),o 28 (.call g5 [t 27]),o 29 (f 2 116),o 30 (l 29),o 31 (f 5 6),o 32 (l 31),o 33 (f 5 7),o 34 (l 33),o 35 (f 2 119),o 36 (l 35),o 37 (.mz g3 1 [t 28,t 30,t 32,t 34,t 36,k (i 8)]),o 38 (.call g4 [t 37]),M 4 38] y)))⟩
def xm(g0:Nat):bM:=⟨11,[.tmp 4],r [V 4 (i 0)] (r [M 5 0,o 6 (.call g0 [t 5]),M 7 1,o 8 (.call g0 [t 7]),o 9 (b .add 6 8),o 10 (.call g0 [t 9]),M 4 10] y)⟩
def xp:bM:=⟨16,[.tmp 6],r [V 6 (i 0)] (j (r [M 7 0,M 8 1,o 9 (b .lss 7 8)] (c 9 (r [M 10 1,M 6 10] y) z)) (j (r [M 11 0,M 12 2,o 13 (b .gtr 11 12)] (c 13 (r [M 14 2,M 6 14] y) z)) (r [M 15 0,M 6 15] y)))⟩
end
def place(v n:Int):Int:=if v.tmod n<0 then dS (v.tmod n+n)else v.tmod n
def UM(l:Option (List Int)) (i:Int):Int:=if i<0 then 0 else((l.getD []).getD i.toNat 0)
def dA(l:Option (List Int)) (i n:Int):Int:=place (UM l i) n
def Place.Spec(C:aS) (f:Nat):Prop:=∀v n:Int,0<n->C.c f [I v,I n] (I (place v n)) none
def At.Spec(C:aS) (f:Nat):Prop:=∀(l:Option (List Int)) (i:Int),C.c f [aH aD l,I i] (I (UM l i)) none
def from.Spec(C:aS) (f:Nat):Prop:=∀(l:Option (List Int)) (i n:Int),0<n->C.c f [aH aD l,I i,I n] (I (dA l i n)) none
theorem Fp{α:Type} (f:α->List AV) (l:Option (List α)):iz (aH f l)=.dat (aH f l) none:=by cases l<;>rfl
theorem Nx{α:Type} (f:α->List AV) (l:Option (List α)):rowsOf (aH f l)=some ((l.getD []).map f):=by cases l<;>rfl
theorem SE{α:Type} (f:α->List AV) (l:Option (List α)):Ay (aH f l)=some (.int .i64 (l.getD []).length):=by cases l<;>simp[Ay,aH]
section
variable{P:Program} (hm:P.follows .mixedOrders=true) {f:Nat}
include hm
theorem Place.ok(hc:bF P f=some sK):Place.Spec (Pure P) f:=by
 intro v n hn
 refine ak hm hc (by show 2<=15;decide) (aj (keep:=[]) (i:=0) ?_)
 have hn0:¬n=0:=by omega
 simp only[sK,Z.H,I,EW,cond_true,cond_false,List.length_cons,List.length_nil,↓dP,↓BN,EV,flat,List.contains_nil,Bool.false_eq_true,if_false,Nat.reduceBEq,Nat.reduceAdd]
 refine⟨hn0,ax (fun h=>?_) (fun h=>?_)⟩<;>try simp only[EW,cond_true,cond_false,List.length_cons,List.length_nil,↓dP,EV,Nat.reduceBEq,Nat.reduceAdd,h]
 ·simp only[decide_eq_true_eq]at h
  simp only[place,h,if_true,dS]
 ·simp only[decide_eq_false_iff_not]at h
  simp only[place,h,if_false]
theorem from.ok{fA fP:Nat} (hc:bF P f=some (vc fA fP)) (hA:At.Spec (Pure P) fA) (hP:Place.Spec (Pure P) fP):from.Spec (Pure P) f:=by
 intro l i n hn
 refine ak hm hc (by show 3<=12;decide) (aj (keep:=[]) (i:=0) ?_)
 simp only[vc,Z.H,Fp,I,EW,cond_true,cond_false,List.length_cons,List.length_nil,↓dP,↓kT,EV,flat,Nat.reduceBEq,Nat.reduceAdd];refine af (hA _ _) ?_;simp only[I,cond_true,cond_false,↓dP,↓kT,EV,Nat.reduceBEq,Nat.reduceAdd];refine af (hP _ _ hn) ?_
 simp only[I,EW,cond_true,cond_false,↓dP,EV,Nat.reduceBEq,Nat.reduceAdd];rfl
theorem At.ok(hc:bF P f=some zM):At.Spec (Pure P) f:=by
 intro l i
 refine ak hm hc (by show 2<=17;decide) (aj (keep:=[]) (i:=0) ?_)
 simp only[zM,Z.H,Fp,I,EW,cond_true,cond_false,List.length_cons,List.length_nil,↓dP,↓oq,EV,flat,List.contains_nil,Bool.false_eq_true,if_false,Nat.reduceBEq,Nat.reduceAdd]
 repeat' (first|(refine aV (fun h=>?_) (fun h=>?_)<;>try simp only[SE,EW,cond_true,cond_false,List.length_cons,List.length_nil,↓dP,↓oq,↓BN,↓xd,EV,Nat.reduceBEq,Nat.reduceAdd,h])|(refine ax (fun h=>?_) (fun h=>?_)<;>try simp only[Nx,EW,cond_true,cond_false,List.length_cons,List.length_nil,↓dP,EV,Nat.reduceBEq,Nat.reduceAdd,h]))
 ·simp only[decide_eq_true_eq]at h
  simp[UM,h]
 ·rename_i h'
  simp only[decide_eq_true_eq,decide_eq_false_iff_not]at h h'
  have:(l.getD []).length<=i.toNat:=by omega
  simp[UM,this]
 ·rename_i h'
  simp only[decide_eq_false_iff_not]at h h'
  have hlt:i.toNat<(l.getD []).length:=by omega
  refine⟨⟨by omega,by simp;omega⟩,?_⟩
  refine W6 (aD ((l.getD []).getD i.toNat 0)) (by simp[hlt]) ?_
  simp only[aD,I,EW,cond_true,cond_false,List.length_cons,List.length_nil,↓dP,EV,true_and,List.getElem?_cons_zero,Nat.reduceBEq,Nat.reduceAdd];simp[UM,h']
end
def nO (l:Option (List Int)) (i:Int):Ph :=
  let min:=dS (1 + dA l i 12)
  let max:=dS (min + dA l (dS (i + 5)) 25)
  let top:=dS (max + dA l (dS (i + 6)) 15)
  let w:=dA l (dS (i + 7)) 2=1
  let walk:=if w then dS (1 + dA l (dS (i + 8)) 10) else 0
  let f7:=if w then dS (1 + dS ((dA l (dS (i + 8)) 97).tdiv 10)) else 0
  let r:=dA l (dS (i + 9)) 7
  { on:=true,min:=min,Pb:=dA l (dS (i + 1)) 9,max:=max,top:=top,step:=dS (1 + dA l (dS (i + 2)) 6),ei:=dS (10 + dA l (dS (i + 3)) 4),red:=dA l (dS (i + 4)) 5,
    walk:=walk,f7:=f7,kj:=if r > 3∨r=3∧walk=0 then 0 else r,lock:=decide (dA l (dS (i + 10)) 3 > 0),rest:=dA l (dS (i + 11)) 4 == 1 }
def phase.Spec(C:aS) (f:Nat):Prop:=∀(l:Option (List Int)) (i:Int),C.c f [aH aD l,I i] (.agg (nO l i).cells) none
section
variable{P:Program} (hm:P.follows .mixedOrders=true) {f:Nat}
include hm
theorem phase.ok{fF:Nat} (hc:bF P f=some (sL fF)) (hF:from.Spec (Pure P) fF):phase.Spec (Pure P) f:=by
 intro l i
 refine ak hm hc (by show 2<=95;decide) (aj (keep:=[]) (i:=0) ?_)
 simp only[sL,Z.H,cn,Fp,I,EW,cond_true,cond_false,List.length_cons,List.length_nil,↓dP,↓kT,EV,flat,List.contains_nil,Bool.false_eq_true,if_false,Nat.reduceBEq,Nat.reduceAdd]
 repeat' (first|(refine af (hF _ _ _ (by decide)) ?_;simp only[I,EW,cond_true,cond_false,List.length_cons,List.length_nil,↓dP,↓kT,↓oq,↓BN,EV,Fk,nF,setCells,qj,List.take_succ_cons,List.take_zero,List.drop_succ_cons,List.drop_zero,List.nil_append,List.cons_append,List.append_nil,true_and,List.getElem?_cons_zero,List.getElem?_cons_succ,Nat.reduceBEq,Nat.reduceAdd,Nat.le_refl,Nat.reduceLeDiff,lG,List.filter_nil,Option.map_some,ne_eq,not_false_eq_true,Int.reduceEq])|(refine aV (fun h=>?_) (fun h=>?_)<;>try simp only[cond_true,cond_false,List.length_cons,List.length_nil,↓dP,↓kT,↓oq,↓BN,↓xd,EV,true_and,List.getElem?_cons_zero,List.getElem?_cons_succ,Nat.reduceBEq,Nat.reduceAdd,Nat.reduceLeDiff,Int.reduceBEq,h])|(refine ax (fun h=>?_) (fun h=>?_)<;>try simp only[cond_true,cond_false,List.length_cons,List.length_nil,↓dP,↓kT,EV,true_and,Nat.reduceBEq,Nat.reduceAdd,Nat.reduceLeDiff,h]))
 all_goals simp_all [nO,Ph.cells,dS]
 all_goals omega
end
def oR(p:Int):Int:=if p<0\/8<=p then 0 else 2^p.toNat
def ej(s p:Int):Bool:=dw .i64 s (oR p) !=0
def d9(s p:Int):Int:=yE .i64 (dw .i64 s 255) (oR p)
def bit.Spec(C:aS) (f:Nat):Prop:=∀p:Int,C.c f [I p] (I (oR p)) none
def kn.Spec(C:aS) (f:Nat):Prop:=∀s p:Int,C.c f [I s,I p] (B (ej s p)) none
def gO.Spec(C:aS) (f:Nat):Prop:=∀s p:Int,C.c f [I s,I p] (I (d9 s p)) none
theorem Ek{p:Int} (h0:0<=p) (h8:p<8):IntKind.i64.wrap (1*2^min p.toNat IntKind.i64.bits)=2^p.toNat:=by
 have:p=0\/p=1\/p=2\/p=3\/p=4\/p=5\/p=6\/p=7:=by omega
 rcases this with rfl|rfl|rfl|rfl|rfl|rfl|rfl|rfl<;>decide
section
variable{P:Program} (hm:P.follows .mixedOrders=true) {f:Nat}
include hm
theorem bit.ok(hc:bF P f=some BP):bit.Spec (Pure P) f:=by
 intro p
 refine ak hm hc (by show 1<=11;decide) (aj (keep:=[]) (i:=0) ?_)
 simp only[BP,Z.H,I,EW,cond_true,cond_false,List.length_cons,List.length_nil,↓dP,↓oq,EV,flat,List.contains_nil,Bool.false_eq_true,if_false,Nat.reduceBEq,Nat.reduceAdd]
 repeat' (first|(refine aV (fun h=>?_) (fun h=>?_)<;>try simp only[EW,cond_true,cond_false,List.length_cons,List.length_nil,↓dP,↓oq,↓BN,↓xd,EV,Nat.reduceBEq,Nat.reduceAdd,h])|(refine ax (fun h=>?_) (fun h=>?_)<;>try simp only[EW,cond_true,cond_false,List.length_cons,List.length_nil,↓dP,EV,Nat.reduceBEq,Nat.reduceAdd,h]))
 ·simp only[decide_eq_true_eq]at h
  simp[oR,h]
 ·rename_i h'
  simp only[decide_eq_true_eq,decide_eq_false_iff_not]at h h';simp[oR,h]
 ·rename_i h'
  simp only[decide_eq_false_iff_not]at h h'
  refine⟨by omega,?_⟩
  have hc:¬(p<0\/8<=p):=by omega
  rw[Ek (by omega) (by omega)]
  simp only[oR,hc,if_false]
theorem kn.ok{fB:Nat} (hc:bF P f=some (BO fB)) (hB:bit.Spec (Pure P) fB):kn.Spec (Pure P) f:=by
 intro s p
 refine ak hm hc (by show 2<=10;decide) (aj (keep:=[]) (i:=0) ?_)
 simp only[BO,Z.H,I,B,EW,cond_true,cond_false,List.length_cons,List.length_nil,↓dP,↓kT,EV,flat,Nat.reduceBEq,Nat.reduceAdd];refine af (hB _) ?_;simp only[I,EW,cond_true,cond_false,↓dP,EV,Nat.reduceBEq,Nat.reduceAdd];rfl
theorem gO.ok{fB:Nat} (hc:bF P f=some (zN fB)) (hB:bit.Spec (Pure P) fB):gO.Spec (Pure P) f:=by
 intro s p
 refine ak hm hc (by show 2<=10;decide) (aj (keep:=[]) (i:=0) ?_)
 simp only[zN,Z.H,I,EW,cond_true,cond_false,List.length_cons,List.length_nil,↓dP,↓kT,EV,flat,Nat.reduceBEq,Nat.reduceAdd];refine af (hB _) ?_;simp only[I,EW,cond_true,cond_false,↓dP,EV,Nat.reduceBEq,Nat.reduceAdd];rfl
end
theorem zO{sl sl':List (Nat×SV)} {bx bx':List (Nat×bV)} {lv lv':List (Nat×Nat)} {nx nx':Nat} (m:List (Nat×Nat)) (h:4<=nx') (h1:gu m nx' sl sl') (h2:ij m nx' bx bx') (h3:pW m nx' lv lv') (h4:cq m lv'):Le ⟨sl,bx,lv,nx⟩ ⟨sl',bx',lv',nx'⟩:=⟨h,m,h1,h2,h3,h4⟩
def gP(is:Int->Ph->Bool) (ps:List Ph):Nat->Int
 |0=>0
 |k+1=>if(ps.getD k default).on&&is k (ps.getD k default)then d9 (gP is ps k) k else gP is ps k
def BQ.Spec(C:aS) (f:Nat):Prop:=∀(t:Tb) (g:Nat) (caps:List AV) (is:Int->Ph->Bool),t.Ok->(∀(p:Int) (x:Ph),C.c g (I p:: .agg x.cells::caps) (B (is p x)) none)->C.c f [.agg t.cells,.fn (.func g) [] caps] (I (gP is t.phases 8)) none
section
variable{P:Program} (hm:P.follows .mixedOrders=true) {f:Nat}
include hm
theorem BQ.ok{fW:Nat} (hc:bF P f=some (sM fW)) (hW:gO.Spec (Pure P) fW):BQ.Spec (Pure P) f:=by
 intro t g caps is ht hg
 refine ak hm hc (by show 2<=27;decide) (aj (keep:=[]) (i:=0) ?_)
 have hph:ay t.cells 0 (some 104)=some (.agg (t.phases.flatMap Ph.cells)):=by
  unfold Tb.cells
  have:=eu (pre:=[]) (mid:=t.phases.flatMap Ph.cells) (post:=aH Gr.cells t.groups::(t.conflict.map I++(aH nL.cells t.aM::aH Rl.cells t.bQ::aH Bs.cells t.jC::
  I t.extend::I t.gx::I t.start::I t.revert::I t.least::(t.cB.map I++[I t.mS,I t.share])))) (off:=0) (z:=104) rfl (by rw[aJ Ph.len,ht.phases])
  simpa using this
 simp only[sM,Z.H,cn,I,EW,cond_true,cond_false,List.length_cons,List.length_nil,↓dP,EV,flat,List.contains_nil,Bool.false_eq_true,if_false,true_and,Nat.reduceBEq,Nat.reduceAdd,hph]
 refine Ka (hd:=fun k:Nat=>⟨[(10,.dat (.int .i64 k) none),(5,.dat (.int .i64 (gP is t.phases k)) none),(9,.dat (.agg (t.phases.flatMap Ph.cells)) none),(1,.dat (.fn (.func g) [] caps) none)],[],[],4⟩)
  (μ:=fun k=>8-k) (I:=fun k=>k<=8) ?_ (x:=0) (by omega) (.inl ?_)
 ·intro k hk
  simp only[cond_true,cond_false,List.length_cons,List.length_nil,↓dP,↓BN,EV,Nat.reduceBEq,Nat.reduceAdd]
  refine ax (fun h=>?_) (fun h=>?_)
  ·have h8:=of_decide_eq_true h
   have hk8:k<8:=by omega
   have hw:IntKind.i64.wrap ((k:Int)+1)=((k+1:Nat):Int):=by
    have:k=0\/k=1\/k=2\/k=3\/k=4\/k=5\/k=6\/k=7:=by omega
    rcases this with rfl|rfl|rfl|rfl|rfl|rfl|rfl|rfl<;>decide
   have hgo:gP is t.phases (k+1)=if(t.phases.getD k default).on&&is k (t.phases.getD k default)then d9 (gP is t.phases k) k else gP is t.phases k:=rfl
   have hget:t.phases[k]? =some (t.phases.getD k default):=by
    have:k<t.phases.length:=by rw[ht.phases];exact hk8
    simp[this]
   have hpt:ay (t.phases.flatMap Ph.cells) ((k:Int).toNat*13) (some 13)=some (.agg (t.phases.getD k default).cells):=by
    rw[ja hget,Int.toNat_natCast]
    exact eu (by rw[aJ Ph.len,jD hget]) rfl
   generalize t.phases.getD k default=x at*;simp only[cond_true,cond_false,List.length_cons,List.length_nil,↓dP,EV,Nat.reduceBEq,Nat.reduceAdd,h]
   refine⟨⟨by omega,by omega⟩,?_⟩
   obtain⟨on,x1,x2,x3,x4,x5,x6,x7,x8,x9,x10,x11,x12⟩:=x
   have done:∀(sl:List (Nat×SV)) (bx:List (Nat×bV)) (nx:Nat) (v:Int),v=gP is t.phases (k+1)->lk 10 sl=some (.dat (.int .i64 ((k+1:Nat):Int)) none)->lk 5 sl=some (.dat (.int .i64 v) none)->
     lk 9 sl=some (.dat (.agg (t.phases.flatMap Ph.cells)) none)->lk 1 sl=some (.dat (.fn (.func g) [] caps) none)->
     down (fun s=>∃y:Nat,s=(⟨[(10,.dat (.int .i64 y) none),(5,.dat (.int .i64 (gP is t.phases y)) none),(9,.dat (.agg (t.phases.flatMap Ph.cells)) none),(1,.dat (.fn (.func g) [] caps) none)],[],[],4⟩:S)/\y<=8/\8-y<8-k) ⟨sl,bx,[],nx⟩:=by
    intro sl bx nx v hv h10 h5 h9 h1;subst hv
    refine⟨⟨[(10,.dat (.int .i64 ((k+1:Nat):Int)) none),(5,.dat (.int .i64 (gP is t.phases (k+1))) none),(9,.dat (.agg (t.phases.flatMap Ph.cells)) none),(1,.dat (.fn (.func g) [] caps) none)],[],[],4⟩,.inl ⟨zO [] (by decide) ?_ trivial trivial (by simp[cq]),k+1,rfl,by omega,by omega⟩⟩
    simp only[gu,AA,h10,h5,h9,h1,aE,and_self]
   cases on
   ·simp only[I,B,cond_true,cond_false,List.length_cons,List.length_nil,↓dP,↓oq,↓BN,↓xd,EV,setCells,qj,List.take_zero,List.drop_succ_cons,List.drop_zero,List.nil_append,List.append_nil,true_and,List.getElem?_cons_zero,Nat.reduceBEq,Nat.reduceAdd,Nat.le_refl,List.filter_nil,hpt,Ph.cells]
    exact done _ _ _ _ (by rw[hgo];simp) (by rw[<-hw];rfl) rfl rfl rfl
   ·simp only[I,B,cond_true,cond_false,List.length_cons,List.length_nil,↓dP,↓kT,↓oq,↓xd,EV,setCells,qj,List.take_succ_cons,List.take_zero,List.drop_succ_cons,List.drop_zero,List.nil_append,List.cons_append,List.append_nil,true_and,List.getElem?_cons_zero,Nat.reduceBEq,Nat.reduceAdd,Nat.le_refl,lG,List.filter_nil,hpt,Ph.cells]
    refine af (hg k ⟨true,x1,x2,x3,x4,x5,x6,x7,x8,x9,x10,x11,x12⟩) ?_;simp only[B,↓BN,EV]
    refine ax (fun h=>?_) (fun h=>?_)<;>try simp only[B,cond_true,cond_false,List.length_cons,List.length_nil,↓dP,↓kT,EV,Nat.reduceBEq,Nat.reduceAdd,h]
    ·refine af (hW _ _) ?_
     simp only[I,cond_true,cond_false,List.length_cons,List.length_nil,↓dP,EV,Nat.reduceBEq,Nat.reduceAdd]
     exact done _ _ _ _ (by rw[hgo];simp[h]) (by rw[<-hw];rfl) rfl rfl rfl
    ·exact done _ _ _ _ (by rw[hgo];simp[h]) (by rw[<-hw];rfl) rfl rfl rfl
  ·have h8:=of_decide_eq_false h
   have:k=8:=by omega
   subst this;simp only[EW,cond_true,cond_false,List.length_cons,List.length_nil,↓dP,EV,Nat.reduceBEq,Nat.reduceAdd]
 ·refine zO [] (by decide) ?_ trivial trivial (by simp[cq])
  simp only[gu,AA,cond_true,cond_false,↓dP,EV,Nat.reduceBEq,and_self];exact⟨rfl,rfl,trivial⟩
end
def Fq(here:Int) (p:Int) (x:Ph):Bool:=ej here p||x.kj==2
def El(t:Tb) (here:Int):Int:=gP (Fq here) t.phases 8
def G0.Spec(C:aS) (f:Nat):Prop:=∀(here p:Int) (x:Ph),C.c f [I p,.agg x.cells,.ref [I here]] (B (Fq here p x)) none
def Lz.Spec(C:aS) (f:Nat):Prop:=∀(t:Tb) (here:Int),t.Ok->C.c f [.agg t.cells,I here] (I (El t here)) none
section
variable{P:Program} (hm:P.follows .mixedOrders=true) {f:Nat}
include hm
theorem G0.ok{fH:Nat} (hc:bF P f=some (qT fH)) (hH:kn.Spec (Pure P) fH):G0.Spec (Pure P) f:=by
 intro here p x
 refine ak hm hc (by show 3<=14;decide) (aj (keep:=[]) (i:=0) ?_)
 simp only[qT,Z.H,Ph.cells,I,B,EW,cond_true,cond_false,List.length_cons,List.length_nil,↓dP,↓kT,EV,flat,true_and,List.getElem?_cons_zero,Nat.reduceBEq,Nat.reduceAdd];refine af (hH _ _) ?_;simp only[B,cond_true,cond_false,↓dP,↓oq,EV,Nat.reduceBEq,Nat.reduceAdd]
 repeat' (first|(refine aV (fun h=>?_) (fun h=>?_)<;>try simp only[EW,cond_true,cond_false,↓dP,↓oq,↓xd,EV,List.getElem?_cons_zero,List.getElem?_cons_succ,Nat.reduceBEq,Nat.reduceAdd,h]))
 all_goals simp[Fq,h]
theorem Lz.ok{f1 fT:Nat} (hc:bF P f=some (uZ f1 fT)) (h1:G0.Spec (Pure P) f1) (hT:BQ.Spec (Pure P) fT):Lz.Spec (Pure P) f:=by
 intro t here ht
 refine ak hm hc (by show 2<=8;decide) (aj (keep:=[]) (i:=0) ?_)
 have hl:=Tb.len ht
 have hp:ay t.cells 0 (some 131)=some (.agg t.cells):=by
  rw[lG _ _ _ (by omega),List.drop_zero,<-hl,List.take_length]
 simp only[uZ,Z.H,I,EW,cond_true,cond_false,List.length_cons,List.length_nil,↓dP,↓kT,EV,List.drop_zero,flat,List.contains_nil,true_and,Nat.reduceBEq,Nat.reduceAdd,Nat.reduceLeDiff,hp]
 refine⟨by decide,af (hT t f1 [.ref [I here]] (Fq here) ht (fun p x=>h1 here p x)) ?_⟩
 simp only[I,EW,cond_true,cond_false,↓dP,EV,Nat.reduceBEq,Nat.reduceAdd];rfl
end
structure Cs where
 car:Int
 gV:Int
 deriving Inhabited,DecidableEq
def Cs.cells(c:Cs):List AV:=[I c.car,I c.gV]
def Kb(green:Int) (c:Cs) (here:Int) (p:Int) (x:Ph):Bool:=!ej green p&&(ej c.car p||x.lock&&ej here p||(x.kj==1||x.kj==2))
def G1.Spec(C:aS) (f:Nat):Prop:=∀(green here p:Int) (c:Cs) (x:Ph),C.c f [I p,.agg x.cells,.ref [I green],.ref c.cells,.ref [I here]] (B (Kb green c here p x)) none
def Fs(walk:Int) (c:Cs) (push:Int) (p:Int) (x:Ph):Bool:=decide (0<x.walk)&& !ej walk p&&(ej c.gV p||ej push p||x.kj==3)
def Ft(c:Cs) (held:Int) (p:Int) (x:Ph):Bool:=ej c.car p||ej held p||ej c.gV p&&decide (0<x.walk)
def Ny(t:Tb) (c:Cs) (here push green walk:Int):Cs:=⟨gP (Kb green c here) t.phases 8,gP (Fs walk c push) t.phases 8⟩
def Nz(t:Tb) (c:Cs) (here:Int):Int:=gP (Ft c (El t here)) t.phases 8
def G2.Spec(C:aS) (f:Nat):Prop:=∀(walk push p:Int) (c:Cs) (x:Ph),C.c f [I p,.agg x.cells,.ref [I walk],.ref c.cells,.ref [I push]] (B (Fs walk c push p x)) none
def G3.Spec(C:aS) (f:Nat):Prop:=∀(held p:Int) (c:Cs) (x:Ph),C.c f [I p,.agg x.cells,.ref c.cells,.ref [I held]] (B (Ft c held p x)) none
def Step.Spec(C:aS) (f:Nat):Prop:=∀(t:Tb) (c:Cs) (here push green walk:Int),t.Ok->C.c f [.agg t.cells,.agg c.cells,I here,I push,I green,I walk] (.agg (Ny t c here push green walk).cells) none
def Want.Spec(C:aS) (f:Nat):Prop:=∀(t:Tb) (c:Cs) (here:Int),t.Ok->C.c f [.agg t.cells,.agg c.cells,I here] (I (Nz t c here)) none
theorem Tb.whole{t:Tb} (ht:t.Ok):ay t.cells 0 (some 131)=some (.agg t.cells):=by
 have hl:=Tb.len ht
 rw[lG _ _ _ (by omega),List.drop_zero,<-hl,List.take_length]
section
variable{P:Program} (hm:P.follows .mixedOrders=true) {f:Nat}
include hm
theorem G1.ok{fH:Nat} (hc:bF P f=some (qQ fH)) (hH:kn.Spec (Pure P) fH):G1.Spec (Pure P) f:=by
 intro green here p c x
 refine ak hm hc (by show 5<=39;decide) (aj (keep:=[]) (i:=0) ?_)
 simp only[qQ,Z.H,Ph.cells,Cs.cells,I,B,EW,cond_true,cond_false,List.length_cons,List.length_nil,↓dP,↓oq,EV,flat,true_and,List.getElem?_cons_zero,List.getElem?_cons_succ,Nat.reduceBEq,Nat.reduceAdd]
 repeat' (first|(refine af (hH _ _) ?_;simp only[B,cond_true,cond_false,↓dP,↓oq,↓xd,EV,List.drop_zero,Nat.reduceBEq,Nat.reduceAdd])|(refine aV (fun h=>?_) (fun h=>?_)<;>try simp only[EW,cond_true,cond_false,List.length_cons,List.length_nil,↓dP,↓kT,↓oq,↓xd,EV,List.drop_zero,List.getElem?_cons_zero,List.getElem?_cons_succ,Nat.reduceBEq,Nat.reduceAdd,h]))
 all_goals simp_all [Kb]
theorem G2.ok{fH:Nat} (hc:bF P f=some (qR fH)) (hH:kn.Spec (Pure P) fH):G2.Spec (Pure P) f:=by
 intro walk push p c x
 refine ak hm hc (by show 5<=33;decide) (aj (keep:=[]) (i:=0) ?_)
 simp only[qR,Z.H,Ph.cells,Cs.cells,I,B,EW,cond_true,cond_false,List.length_cons,List.length_nil,↓dP,↓oq,EV,flat,true_and,List.getElem?_cons_zero,List.getElem?_cons_succ,Nat.reduceBEq,Nat.reduceAdd]
 repeat' (first|(refine af (hH _ _) ?_;simp only[B,cond_true,cond_false,↓dP,↓oq,↓xd,EV,List.drop_succ_cons,List.drop_zero,Nat.reduceBEq,Nat.reduceAdd])|(refine aV (fun h=>?_) (fun h=>?_)<;>try simp only[EW,cond_true,cond_false,↓dP,↓kT,↓oq,↓xd,EV,List.drop_succ_cons,List.drop_zero,List.getElem?_cons_zero,List.getElem?_cons_succ,Nat.reduceBEq,Nat.reduceAdd,h]))
 all_goals simp_all [Fs]
 all_goals(intro h';omega)
theorem G3.ok{fH:Nat} (hc:bF P f=some (qS fH)) (hH:kn.Spec (Pure P) fH):G3.Spec (Pure P) f:=by
 intro held p c x
 refine ak hm hc (by show 4<=27;decide) (aj (keep:=[]) (i:=0) ?_)
 simp only[qS,Z.H,Ph.cells,Cs.cells,I,B,EW,cond_true,cond_false,List.length_cons,List.length_nil,↓dP,↓kT,EV,List.drop_zero,flat,true_and,List.getElem?_cons_zero,Nat.reduceBEq,Nat.reduceAdd]
 repeat' (first|(refine af (hH _ _) ?_;simp only[B,cond_true,cond_false,↓dP,↓oq,↓xd,EV,List.drop_succ_cons,List.drop_zero,Nat.reduceBEq,Nat.reduceAdd])|(refine aV (fun h=>?_) (fun h=>?_)<;>try simp only[EW,cond_true,cond_false,↓dP,↓kT,↓oq,↓xd,EV,List.drop_succ_cons,List.drop_zero,List.getElem?_cons_zero,List.getElem?_cons_succ,Nat.reduceBEq,Nat.reduceAdd,h]))
 all_goals simp_all [Ft]
theorem Want.ok{fH f1 fT:Nat} (hc:bF P f=some (uY fH f1 fT)) (hH:Lz.Spec (Pure P) fH) (h1:G3.Spec (Pure P) f1) (hT:BQ.Spec (Pure P) fT):Want.Spec (Pure P) f:=by
 intro t c here ht
 refine ak hm hc (by show 3<=14;decide) (aj (keep:=[]) (i:=0) ?_)
 have hp:=Tb.whole ht
 simp only[uY,Z.H,I,EW,cond_true,cond_false,List.length_cons,List.length_nil,↓dP,↓kT,EV,flat,true_and,Nat.reduceBEq,Nat.reduceAdd,hp];refine af (hH t here ht) ?_
 simp only[I,cond_true,cond_false,List.length_cons,List.length_nil,↓dP,↓kT,EV,setCells,List.take_zero,List.drop_succ_cons,List.drop_zero,List.nil_append,List.append_nil,List.contains_nil,true_and,Nat.reduceBEq,Nat.reduceAdd,Nat.le_refl,Nat.reduceLeDiff,Bool.not_false,hp]
 refine⟨by decide,af (hT t f1 [.ref c.cells,.ref [I (El t here)]] (Ft c (El t here)) ht (fun p x=>h1 _ p c x)) ?_⟩
 simp only[I,EW,cond_true,cond_false,List.length_cons,List.length_nil,↓dP,EV,setCells,List.take_zero,List.drop_succ_cons,List.drop_zero,List.nil_append,List.append_nil,Nat.reduceBEq,Nat.reduceAdd];rfl
theorem Step.ok{f1 f2 fT:Nat} (hc:bF P f=some (uX f1 f2 fT)) (h1:G1.Spec (Pure P) f1) (h2:G2.Spec (Pure P) f2) (hT:BQ.Spec (Pure P) fT):Step.Spec (Pure P) f:=by
 intro t c here push green walk ht
 refine ak hm hc (by show 6<=24;decide) (aj (keep:=[]) (i:=0) ?_)
 have hp:=Tb.whole ht
 simp only[uX,Z.H,I,EW,cond_true,cond_false,List.length_cons,List.length_nil,↓dP,↓kT,EV,List.drop_zero,flat,List.contains_nil,true_and,Nat.reduceBEq,Nat.reduceAdd,Nat.reduceLeDiff,Bool.not_false,hp]
 refine⟨by decide,by decide,af (hT t f1 [.ref [I green],.ref c.cells,.ref [I here]] (Kb green c here) ht (fun p x=>h1 _ _ p c x)) ?_⟩
 simp only[I,cond_true,cond_false,↓dP,↓kT,EV,Nat.reduceBEq,Nat.reduceAdd,hp]
 refine af (hT t f2 [.ref [I walk],.ref c.cells,.ref [I push]] (Fs walk c push) ht (fun p x=>h2 _ _ p c x)) ?_
 simp only[I,EW,cond_true,cond_false,List.length_cons,List.length_nil,↓dP,EV,Fk,nF,setCells,List.take_succ_cons,List.take_zero,List.drop_succ_cons,List.drop_zero,List.nil_append,List.cons_append,List.append_nil,true_and,Nat.reduceBEq,Nat.reduceAdd,Nat.le_refl,lG,Option.map_some];rfl
end
def fj(n a b:Int):Int:=if n<a then a else if b<n then b else n
def iJ(n:Int):Int:=fj n 0 2147483647
def Fu(a b:Int):Int:=iJ (iJ a+iJ b)
def YM(a b:Int):Int:=iJ (iJ a*iJ b)
def uP(s p:Int):Bool:=decide (0<=p)&&decide (p<8)&&dw .i64 (s.fdiv (2^p.toNat)) 1==1
def Cut.Spec(C:aS) (f:Nat):Prop:=∀n a b:Int,C.c f [I n,I a,I b] (I (fj n a b)) none
def Cap.Spec(C:aS) (f:Nat):Prop:=∀n:Int,C.c f [I n] (I (iJ n)) none
def Add.Spec(C:aS) (f:Nat):Prop:=∀a b:Int,C.c f [I a,I b] (I (Fu a b)) none
def Mul.Spec(C:aS) (f:Nat):Prop:=∀a b:Int,C.c f [I a,I b] (I (YM a b)) none
def vO.Spec(C:aS) (f:Nat):Prop:=∀s p:Int,C.c f [I s,I p] (B (uP s p)) none
theorem eW(n:Int):0<=iJ n/\iJ n<=2147483647:=by
 unfold iJ fj;split
 ·omega
 ·split<;>omega
theorem aW{n:Int} (h1:-9223372036854775808<=n) (h2:n<=9223372036854775807):IntKind.i64.wrap n=n:=by
 simp only[IntKind.wrap,IntKind.bits,IntKind.signed];simp;omega
section
variable{P:Program} (hm:P.follows .mixedOrders=true) {f:Nat}
include hm
theorem Cut.ok(hc:bF P f=some xp):Cut.Spec (Pure P) f:=by
 intro n a b
 refine ak hm hc (by show 3<=16;decide) (aj (keep:=[]) (i:=0) ?_)
 simp only[xp,Z.H,I,EW,cond_true,cond_false,List.length_cons,List.length_nil,↓dP,↓BN,EV,flat,List.contains_nil,Bool.false_eq_true,if_false,Nat.reduceBEq,Nat.reduceAdd]
 repeat' (first|(refine ax (fun h=>?_) (fun h=>?_)<;>try simp only[EW,cond_true,cond_false,List.length_cons,List.length_nil,↓dP,↓BN,EV,Nat.reduceBEq,Nat.reduceAdd,h]))
 all_goals simp_all [fj]
 all_goals omega
theorem Cap.ok{fC:Nat} (hc:bF P f=some (xl fC)) (hC:Cut.Spec (Pure P) fC):Cap.Spec (Pure P) f:=by
 intro n
 refine ak hm hc (by show 1<=5;decide) (aj (keep:=[]) (i:=0) ?_)
 simp only[xl,Z.H,I,EW,cond_true,cond_false,List.length_cons,List.length_nil,↓dP,↓kT,EV,flat,Nat.reduceBEq,Nat.reduceAdd];refine af (hC _ _ _) ?_;simp only[I,EW,cond_true,cond_false,↓dP,EV,Nat.reduceBEq,Nat.reduceAdd];rfl
theorem Add.ok{fC:Nat} (hc:bF P f=some (xm fC)) (hC:Cap.Spec (Pure P) fC):Add.Spec (Pure P) f:=by
 intro a b
 refine ak hm hc (by show 2<=11;decide) (aj (keep:=[]) (i:=0) ?_)
 have ha:=eW a
 have hb:=eW b
 simp only[xm,Z.H,I,EW,cond_true,cond_false,List.length_cons,List.length_nil,↓dP,↓kT,EV,flat,Nat.reduceBEq,Nat.reduceAdd]
 repeat(refine af (hC _) ?_;simp only[I,EW,cond_true,cond_false,↓dP,↓kT,EV,Nat.reduceBEq,Nat.reduceAdd])
 rw[aW (by omega) (by omega)]
 rfl
theorem Mul.ok{fC:Nat} (hc:bF P f=some (xj fC)) (hC:Cap.Spec (Pure P) fC):Mul.Spec (Pure P) f:=by
 intro a b
 refine ak hm hc (by show 2<=11;decide) (aj (keep:=[]) (i:=0) ?_)
 have ha:=eW a
 have hb:=eW b
 have h1:0<=iJ a*iJ b:=Int.mul_nonneg ha.1 hb.1
 have h2:iJ a*iJ b<=2147483647*2147483647:=Int.mul_le_mul ha.2 hb.2 hb.1 (by omega)
 simp only[xj,Z.H,I,EW,cond_true,cond_false,List.length_cons,List.length_nil,↓dP,↓kT,EV,flat,Nat.reduceBEq,Nat.reduceAdd]
 repeat(refine af (hC _) ?_;simp only[I,EW,cond_true,cond_false,↓dP,↓kT,EV,Nat.reduceBEq,Nat.reduceAdd])
 rw[aW (by omega) (by omega)]
 rfl
theorem vO.ok(hc:bF P f=some xg):vO.Spec (Pure P) f:=by
 intro s p
 refine ak hm hc (by show 2<=19;decide) (aj (keep:=[]) (i:=0) ?_)
 simp only[xg,Z.H,I,B,EW,cond_true,cond_false,List.length_cons,List.length_nil,↓dP,↓oq,EV,flat,Nat.reduceBEq,Nat.reduceAdd]
 repeat' (first|(refine aV (fun h=>?_) (fun h=>?_)<;>try simp only[EW,cond_true,cond_false,↓dP,↓oq,↓xd,EV,Nat.reduceBEq,Nat.reduceAdd,h]))
 ·rename_i h0
  have h1:=of_decide_eq_true h
  have h2:=of_decide_eq_true h0
  have hw:IntKind.u64.wrap p=p:=by
   have:p=0\/p=1\/p=2\/p=3\/p=4\/p=5\/p=6\/p=7:=by omega
   rcases this with rfl|rfl|rfl|rfl|rfl|rfl|rfl|rfl<;>decide
  have hm:min p.toNat IntKind.i64.bits=p.toNat:=by
   have:IntKind.i64.bits=64:=rfl
   omega
  rw[hw,hm]
  exact⟨h2,by simp[uP,h1,h2]⟩
 ·simp[uP,h]
 ·simp[uP,h]
end
open Go.RowKit (Below)
theorem DV.LA{w w':World} {π π':Nat->Nat->Prop} {a:AV} {v:Value} (hf:Eng.kM a=true) (h:DV w π a v):DV w' π' a v:=by
 cases h<;>first|(simp[Eng.kM]at hf;done)|constructor
theorem DV.NA{w w':World} {π π':Nat->Nat->Prop} {a:AV} {v:Value} (hf:je a=true) (h:DV w π a v):DV w' π' a v:=by
 cases h with
 |agg as vs hl hs hd=>
  simp only[je,List.all_eq_true]at hf
  exact .agg as vs hl hs fun i a v ha hv=>(hd i a v ha hv).LA (hf a (List.mem_of_getElem? ha))
 |_=>first|(simp[je,Eng.kM]at hf;done)|constructor
theorem cw.block{w:World} {π:Nat->Nat->Prop}:∀{css:List (List AV)} {Bs:List Nat},cw w π css Bs->∀B∈Bs,B<w.heap.size
 |[],[],_,B,h=>by cases h
 |cs::css,B0::Bs,h,B,hB=>by
  rcases List.mem_cons.1 hB with rfl|hB
  ·obtain⟨cur,el,h1,_⟩:=h.1
   exact(Array.getElem?_eq_some_iff.1 h1).1
  ·exact h.2.block B hB
 |[],_::_,h,_,_=>h.elim
 |_::_,[],h,_,_=>h.elim
theorem cw.mono{w w':World} {π:Nat->Nat->Prop} (hb:Below w.heap.size w w') (hp:∀b o,π b o->b<w.heap.size):∀{css:List (List AV)} {Bs:List Nat},cw w π css Bs->cw w' π css Bs
 |[],[],_=>trivial
 |cs::css,B::Bs,h=>by
  obtain⟨cur,el,h1,h2,h3,h4,h5⟩:=h.1
  refine⟨⟨cur,el,?_,h2.mono (fun _ _ h=>h) (fun b o hbo=>Below.tZ hb (hp b o hbo)),h3,h4,h5⟩,h.2.mono hb hp⟩
  rw[hb.block B (Array.getElem?_eq_some_iff.1 h1).1,h1]
 |[],_::_,h=>h.elim
 |_::_,[],h=>h.elim
theorem p8.ref{w:World} {π π1:Nat->Nat->Prop} (hp:∀b o,π b o->π1 b o) {B:Nat} {cs:List AV} {τ:Nat->Value} (h:p8 τ w π B ⟨cs,[]⟩) (h1:∀o,π1 B o):DV w π1 (.ref cs) (.pointer (some ⟨B,0,none⟩)):=by
 obtain⟨cur,el,hh,hd,hs,_,_⟩:=h
 have hget:∀(j:Nat) (a:AV),cs[j]? =some a->∃v,cur[j]? =some v/\DV w π a v:=fun j a ha=>by
  obtain⟨v,hv,hv2⟩:=hd.get ha
  exact⟨v,by simpa using hv,hv2⟩
 refine .ref cs B 0 (fun j=>cur[j]!) (fun j a ha=>hs a (List.mem_of_getElem? ha)) (fun j a _=>h1 _) (fun j a ha=>?_) (fun j a ha=>?_)
 ·obtain⟨v,hv,_⟩:=hget j a ha
  rw[Nat.zero_add]
  have hj:cur[j]! =v:=by simp[Array.getElem!_eq_getD,Array.getD_eq_getD_getElem?,hv]
  simp only[hj];simp[World.cell?,hh,hv]
 ·obtain⟨v,hv,hv2⟩:=hget j a ha
  have hj:cur[j]! =v:=by simp[Array.getElem!_eq_getD,Array.getD_eq_getD_getElem?,hv]
  simp only[hj]
  exact hv2.mono hp fun _ _ _=>rfl
theorem LB{P:Program} {f:FuncId} {css:List (List AV)} {args:List (Option AV)} {r:AV} (h:DZ P f (jv args css) r none) (hr:je r=true) (hl:css.length<=4):wJ P f css args r none css:=by
 refine⟨h.1,rfl,hl,fun w π Bs vs hprot hnd hB hA=>?_⟩
 have hblk:=hB.block
 have hsub:∀b o,π b o->(π b o\/b∈Bs):=fun _ _ h=>.inl h
 have hget:=hB.get
 have hvs:jt w (fun b o=>π b o\/b∈Bs) (jv args css) vs:=ud hsub hA hget.1 fun k cs B h1 h2=>
  (hget.2 k cs B h1 h2).ref hsub fun o=>.inr (List.mem_of_getElem? h2)
 refine(h.2 w (fun b o=>π b o\/b∈Bs) vs (fun b o h=>h.elim (hprot b o) (hblk b)) hvs).mono fun e w' hh=>?_
 obtain⟨v,π2,he,hbl,_,_,_,hd,_⟩:=hh
 exact⟨v,π,he,.of hbl (Nat.le_refl _),fun _ _ h=>h,fun _ _ h=>.inl h,fun b o h=>Nat.lt_of_lt_of_le (hprot b o h) hbl.size,hB.mono hbl hprot,hd.NA hr,fun t ht=>by cases ht⟩
theorem bL{P:Program} {f:Nat} {css:List (List AV)} {args:List (Option AV)} {r:AV} (h:(Pure P).c f (jv args css) r none) (hr:je r=true) (hl:css.length<=4):(Pure P).p f css args r none css:=LB h hr hl
theorem UN{P:Program} {f:Nat} {as:List AV} {n:Nat} (hn:DJ n=true) (h:(Pure P).c f as (.float .f64 n) none):(Pure P).c f as .eM none:=by
 refine⟨h.1,fun w π vs hprot hd=>(h.2 w π vs hprot hd).mono fun e w' hh=>?_⟩
 obtain⟨v,π',he,h1,h2,h3,h4,h5,h6⟩:=hh
 refine⟨v,π',he,h1,h2,h3,h4,?_,fun t ht=>by cases ht⟩
 cases h5;exact .eM _ hn
theorem I6(n:Int):(aD n).length=1:=rfl
def RW:=
 And.intro @EV (And.intro @EW (And.intro @cond_true.{1} (And.intro @cond_false.{1} (And.intro @List.length_cons.{0} (And.intro @List.length_nil.{0} (And.intro @Fk (And.intro @TZ (And.intro @Un (And.intro @List.take_succ_cons.{0} (And.intro @List.take_zero.{0} (And.intro @List.drop_succ_cons.{0} (And.intro @List.drop_zero.{0} (And.intro @List.nil_append.{0} (And.intro @List.cons_append.{0} (And.intro @List.append_nil.{0} (And.intro @List.contains_nil.{0} (And.intro @Bool.false_eq_true (And.intro @if_false.{1} (And.intro @if_true.{1} (And.intro @true_and (And.intro @List.getElem?_cons_zero.{0} (And.intro @List.getElem?_cons_succ.{0} (And.intro @Nat.le_refl (And.intro @lG (And.intro @ge_iff_le.{0} (And.intro @List.filter_nil.{0} (And.intro @Option.map_some.{0,0} (And.intro @ne_eq.{1} (And.intro @not_false_eq_true (And.intro @Bool.not_true (And.intro @Bool.not_false (And.intro @List.mem_singleton.{0} (And.intro @forall_eq.{1} (And.intro @List.not_mem_nil.{0} (And.intro @false_implies (And.intro @implies_true.{0} (And.intro @implies_true.{1} (And.intro @List.forall_mem_map.{0,0} (And.intro @List.length_map.{0,0} (And.intro @and_true (And.intro @I6 (And.intro @Fp (And.intro @Nx (And.intro @SE (And.intro @Int.toNat_natCast (And.intro @List.getElem?_map.{0,0} (And.intro @Nat.zero_add (And.intro @Nat.add_zero (And.intro @List.mem_cons.{0} (And.intro @forall_eq_or_imp.{1} (And.intro @Nat.mul_one (And.intro @decide_true (And.intro @decide_false (And.intro @List.contains_cons.{0} (And.intro @Bool.or_false (And.intro @Bool.false_or (And.intro @Bool.or_true (@Bool.true_or))))))))))))))))))))))))))))))))))))))))))))))))))))))))))
def RY:=And.intro @RW (And.intro @nF.eq_1 (And.intro @nF.eq_2 (And.intro @qj.eq_1 (And.intro @qj.eq_2 (And.intro @flat.eq_1 (And.intro @flat.eq_2 (And.intro @flat.eq_3 (And.intro @flat.eq_4 (And.intro @flat.eq_5 (And.intro @flat.eq_6 (And.intro @flat.eq_7 @flat.eq_8)))))))))))
def RX:=And.intro @RY @setCells.eq_1
def KW:=
 And.intro @dP (And.intro @kT (And.intro @W7 (And.intro @W8 (And.intro @oq (And.intro @BN (And.intro @xd (@aaV)))))))
theorem aG{C:aS} {c:aT} {Q:Exit->S->Prop} {α:Type} (hd:α->S) (μ:α->Nat) (I:α->Prop)
  (round:∀x,I x->∀B:S->Prop,(∀y s,I y->μ y<μ x->Le s (hd y)->B s)->aw C c (jx B Q) (hd x)) (x:α) (hx:I x) {s:S} (h0:Le s (hd x)):aw C (.loop c) Q s:=
 Ka hd μ I (fun x hx=>round x hx _ fun y s hy hμ hle=>⟨hd y,.inl ⟨hle,y,rfl,hy,hμ⟩⟩) hx (.inl h0)
theorem vP(m:List (Nat×Nat)) (nx:Nat) (a a':AV) (q:Option Nat):AA m nx (.dat a q) (.dat a' none)=(a=a'):=by cases q<;>rfl
theorem UO(m:List (Nat×Nat)) (nx:Nat) (a a':AV) (q q':Nat):AA m nx (.dat a (some q)) (.dat a' (some q'))=(a=a'/\q=Gk m q'/\q'<nx):=rfl
theorem vQ(m:List (Nat×Nat)) (nx:Nat) (b o b' o':Nat):AA m nx (.ptr b o) (.ptr b' o')=(b=b'/\o=o'/\b'<nx):=rfl
theorem YN(m:List (Nat×Nat)) (nx:Nat) (a b:List AV):AA m nx (.rp a) (.rp b)=(a=b):=rfl
theorem NB(m:List (Nat×Nat)) (nx:Nat):AA m nx .undef .undef=True:=rfl
def DP(a:List (Nat×SV)):List (Nat×SV)->List (Nat×Nat)
 |[]=>[]
 |(t,.dat _ (some q))::r=>match lk t a with
  |some (.dat _ (some q'))=>(q,q')::DP a r
  |_=>DP a r
 |_::r=>DP a r
def NC(a:List (Nat×Nat)):List (Nat×Nat)->List (Nat×Nat)
 |[]=>[]
 |(o,q)::r=>match d7 o a with
  |some q'=>(q,q')::NC a r
  |none=>NC a r
def BK(a:List (Nat×bV)):List (Nat×bV)->List (Nat×Nat)
 |[]=>[]
 |(b,x)::r=>match b9 b a with
  |some y=>NC y.tags x.tags++BK a r
  |none=>BK a r
theorem ai{sl sl':List (Nat×SV)} {bx bx':List (Nat×bV)} {lv lv':List (Nat×Nat)} {nx nx':Nat} (h:4<=nx') (h1:gu (DP sl sl'++BK bx bx') nx' sl sl') (h2:ij (DP sl sl'++BK bx bx') nx' bx bx') (h3:pW (DP sl sl'++BK bx bx') nx' lv lv') (h4:cq (DP sl sl'++BK bx bx') lv'):Le ⟨sl,bx,lv,nx⟩ ⟨sl',bx',lv',nx'⟩:=⟨h,_,h1,h2,h3,h4⟩
def dH{α:Type} (l:List α):Option (List α):=if l=[]then none else some l
def bG{α:Type} (row:α->List AV) (l:List α) (t:Nat):SV:=if l=[]then .dat .aL none else .dat (.sl (l.map row)) (some t)
def bK{α:Type} (l:List α) (t e:Nat):List (Nat×Nat):=if l=[]then[]else[(t,e)]
def LX:=And.intro @aD.eq_1 (And.intro @bG.eq_1 (And.intro @bK.eq_1 (And.intro @gu.eq_1 (And.intro @gu.eq_2 (And.intro @vP (And.intro @UO (And.intro @vQ (And.intro @YN (And.intro @NB (And.intro @ij.eq_1 (And.intro @ij.eq_2 (And.intro @lE.eq_1 (And.intro @lE.eq_2 (And.intro @pW.eq_1 (And.intro @pW.eq_2 (And.intro @DP.eq_1 (And.intro @DP.eq_2 (And.intro @DP.eq_3 (And.intro @BK.eq_1 (And.intro @BK.eq_2 (And.intro @NC.eq_1 (And.intro @NC.eq_2 (And.intro @Gk.eq_1 (And.intro @cq.eq_1 (And.intro @GS (And.intro @xb (And.intro @zK (And.intro @sH (@aE)))))))))))))))))))))))))))))
theorem aB{k:Nat} (h:k<9223372036854775806):IntKind.i64.wrap ((k:Int)+1)=((k+1:Nat):Int):=by rw[aW (by omega) (by omega)];omega
def jE(s:Int):List Int:=((List.range 8).map fun(k:Nat)=>(k:Int)).filter (uP s)
def ko(s:Int) (k:Nat):List Int:=((List.range k).map fun(k:Nat)=>(k:Int)).filter (uP s)
theorem G4(s:Int) (k:Nat):ko s (k+1)=if uP s k then ko s k++[(k:Int)]else ko s k:=by
 simp only[ko,List.range_succ,List.map_append,List.filter_append,List.map_cons,List.map_nil,List.filter_cons,List.filter_nil]
 split<;>simp
def qm.Spec(C:aS) (f e:Nat):Prop:=∀(s:Int) (fr:Option Nat),(fr=none\/fr=some e/\jE s≠[])->C.c f [I s] (aH aD (dH (jE s))) fr
def vR(l:List Int):Nat->Int
 |0=>0
 |k+1=>if(k:Int)∈l then yE .i64 (vR l k) (2^k)else vR l k
def SF(l:List Int):Int:=vR l 8
def zP.Spec(C:aS) (f:Nat):Prop:=∀l:Option (List Int),(l.getD []).length<=140737488355328->C.c f [aH aD l] (I (SF (l.getD []))) none
def jF(s p:Int):Int:=SF (jE s++[p])
def uk.Spec(C:aS) (f:Nat):Prop:=∀s p:Int,C.c f [I s,I p] (I (jF s p)) none
theorem jj{α:Type} {l:List α} {i:Nat} {x:α} (h:l[i]? =some x):l.take (i+1)=l.take i++[x]:=by
 obtain⟨hi,rfl⟩:=List.getElem?_eq_some_iff.1 h
 rw[List.take_succ_eq_append_getElem hi]
theorem wrap_u64{k:Nat} (h:k<18446744073709551616):IntKind.u64.wrap (k:Int)=k:=by
 simp only[IntKind.wrap,IntKind.bits,IntKind.signed];simp;omega
section
variable{P:Program} (hm:P.follows .mixedOrders=true) {f:Nat}
include hm
theorem qm.ok{fH e:Nat} (hc:bF P f=some (vg fH e)) (hH:vO.Spec (Pure P) fH):qm.Spec (Pure P) f e:=by
 intro s fr hfr
 refine ak hm hc (by show 1<=17;decide) (aj (keep:=[]) (i:=0) ?_)
 try simp only[I,RX,↓KW,seval,vg,Z.H]
 refine aG (fun k:Nat=>(⟨[(4,.dat (I k) none),(0,.dat (I s) none),(3,bG aD (ko s k) 0)],[],bK (ko s k) 0 e,400⟩:S)) (fun k=>8-k) (fun k=>k<=8) ?_ 0 (by omega) ?_
 ·intro k hk A back
  have hw:=aB (k:=k) (by omega)
  have hn:=G4 s k
  have hlen:(ko s k).length<=k:=by
   have:=List.length_filter_le (uP s) ((List.range k).map fun(k:Nat)=>(k:Int))
   simpa[ko]using this
  by_cases hl:ko s k=[]
  ·try simp only[I,RX,↓KW,seval,bG,bK,hl]
   refine ax (fun h=>?_) (fun h=>?_)<;>try simp only[RX,↓KW,seval,h]
   ·have h8:=of_decide_eq_true h
    refine af (hH _ _) ?_;try simp only[B,RX,↓KW,seval]
    refine ax (fun h'=>?_) (fun h'=>?_)<;>try simp only[RX,↓KW,seval,h']
    ·refine back (k+1) _ (by omega) (by omega) (ai (by decide) ?_ ?_ ?_ ?_)<;>simp[LX,I,hn,hl,h',hw]
    ·refine back (k+1) _ (by omega) (by omega) (ai (by decide) ?_ ?_ ?_ ?_)<;>simp[LX,I,hn,hl,h',hw]
   ·have:k=8:=by have:=of_decide_eq_false h;omega
    subst this
    rcases hfr with rfl|⟨rfl,hne⟩
    ·try simp only[RX,↓KW,seval]
     simp[dH,show jE s=ko s 8 from rfl,hl,aH]
    ·exact absurd hl hne
  ·try simp only[I,RX,↓KW,seval,bG,bK,hl]
   refine ax (fun h=>?_) (fun h=>?_)<;>try simp only[RX,↓KW,seval,h]
   ·have h8:=of_decide_eq_true h
    refine af (hH _ _) ?_;try simp only[B,RX,↓KW,seval]
    refine ax (fun h'=>?_) (fun h'=>?_)<;>try simp only[RX,↓KW,seval,h']
    ·refine⟨by omega,?_⟩
     refine back (k+1) _ (by omega) (by omega) (ai (by decide) ?_ ?_ ?_ ?_)<;>simp[LX,I,hn,hl,h',hw]
    ·refine back (k+1) _ (by omega) (by omega) (ai (by decide) ?_ ?_ ?_ ?_)<;>simp[LX,I,hn,hl,h',hw]
   ·have:k=8:=by have:=of_decide_eq_false h;omega
    subst this
    rcases hfr with rfl|⟨rfl,hne⟩
    ·try simp only[RX,↓KW,seval]
     simp[dH,show jE s=ko s 8 from rfl,hl,aH]
    ·try simp only[RX,↓KW,seval]
     simp[dH,show jE s=ko s 8 from rfl,hl,aH]
 ·refine ai (by decide) ?_ ?_ ?_ ?_<;>simp[LX,I,ko]
theorem zP.ok(hc:bF P f=some zL):zP.Spec (Pure P) f:=by
 intro l hlen
 refine ak hm hc (by show 1<=28;decide) (aj (keep:=[]) (i:=0) ?_)
 try simp only[I,RX,↓KW,seval,zL,Z.H]
 refine aG (fun k:Nat=>(⟨[(4,.dat (I k) none),(0,.dat (aH aD l) none),(3,.dat (I (vR (l.getD []) k)) none)],[],[],400⟩:S)) (fun k=>8-k) (fun k=>k<=8) ?_ 0 (by omega) ?_
 ·intro k hk A back
  have hw:=aB (k:=k) (by omega)
  try simp only[I,RX,↓KW,seval]
  refine ax (fun h=>?_) (fun h=>?_)<;>try simp only[RX,↓KW,seval,h]
  ·have h8:=of_decide_eq_true h
   refine aG (fun j:Nat=>(⟨[(5,.dat (I j) none),(0,.dat (aH aD l) none),(4,.dat (I k) none),(3,.dat (I (vR (l.getD []) k)) none)],[],[],400⟩:S)) (fun j=>(l.getD []).length-j) (fun j=>j<=(l.getD []).length/\∀x∈(l.getD []).take j,x≠k) ?_ 0 (by simp) ?_
   ·intro j ⟨hj,hnot⟩ A' back'
    have hw':=aB (k:=j) (by omega)
    try simp only[I,RX,↓KW,seval]
    refine ax (fun h'=>?_) (fun h'=>?_)<;>try simp only[RX,↓KW,seval,h']
    ·have h9:=of_decide_eq_true h'
     have hjl:j<(l.getD []).length:=by omega
     obtain⟨x,hx⟩:∃x,(l.getD [])[j]? =some x:=⟨_,List.getElem?_eq_getElem hjl⟩
     have htk:=jj hx
     refine⟨by omega,?_⟩
     try simp only[I,RX,↓KW,seval,hx,aD]
     refine ax (fun h2=>?_) (fun h2=>?_)<;>try simp only[RX,↓KW,seval,h2]
     ·have hxk:x=k:=by simpa using h2
      have hm:(k:Int)∈l.getD []:=by
       rw[<-hxk];exact List.mem_of_getElem? hx
      rw[wrap_u64 (by omega)]
      refine⟨by omega,?_⟩
      rw[Ek (by omega) (by omega)]
      refine back (k+1) _ (by omega) (by omega) (ai (by decide) ?_ ?_ ?_ ?_)<;>simp[LX,I,hw,vR,hm]
     ·have hxk:x≠k:=by simpa using h2
      refine back' (j+1) _ ⟨by omega,?_⟩ (by omega) ?_
      ·rw[htk];simp only[List.mem_append,List.mem_singleton];rintro y (hy|rfl);exact hnot y hy;exact hxk
      ·refine ai (by decide) ?_ ?_ ?_ ?_<;>simp[LX,I,hw']
    ·have:j=(l.getD []).length:=by have:=of_decide_eq_false h';omega
     subst this
     have hm:¬(k:Int)∈l.getD []:=by
      intro hk
      exact hnot k (by simpa using hk) rfl
     refine back (k+1) _ (by omega) (by omega) (ai (by decide) ?_ ?_ ?_ ?_)<;>simp[LX,I,hw,vR,hm]
   ·refine ai (by decide) ?_ ?_ ?_ ?_<;>simp[LX,I]
  ·have:k=8:=by have:=of_decide_eq_false h;omega
   subst this;rfl
 ·refine ai (by decide) ?_ ?_ ?_ ?_<;>simp[LX,I,vR]
theorem uk.ok{fL e fO:Nat} (hc:bF P f=some (ve fL e fO)) (hL:qm.Spec (Pure P) fL e) (hO:zP.Spec (Pure P) fO):uk.Spec (Pure P) f:=by
 intro s p
 refine ak hm hc (by show 2<=11;decide) (aj (keep:=[]) (i:=0) ?_)
 try simp only[I,RX,↓KW,seval,ve,Z.H]
 by_cases h:jE s=[]
 ·refine af (hL s none (.inl rfl)) ?_
  try simp only[RX,↓KW,seval,h,dH,aH]
  refine af (hO (some [p]) (by simp)) ?_
  try simp only[I,RX,↓KW,seval]
  simp[jF,h]
 ·have hl:(jE s).length<=8:=by
   have:=List.length_filter_le (uP s) ((List.range 8).map fun(k:Nat)=>(k:Int))
   simpa[jE]using this
  refine MW (hL s (some e) (.inr ⟨rfl,h⟩)) ?_;try simp only[RX,↓KW,seval,h,dH,aH]
  refine⟨by omega,?_⟩
  have h2:=hO (some (jE s++[p])) (by simp;omega)
  simp only[aH,Option.getD_some,List.map_append,List.map_cons,List.map_nil,aD,I]at h2;refine af h2 ?_;try simp only[RX,↓KW,seval]
  simp[jF]
end
theorem kG{cs mid:List AV} {off z:Nat} (h:ay cs off (some z)=some (.agg mid)) {j:Nat} (hj:j<z):cs[off+j]? =mid[j]?:=by
 simp only[ay]at h;split at h
 ·simp only[Option.some.injEq,AV.agg.injEq]at h
  rw[<-h,List.getElem?_take_of_lt hj,List.getElem?_drop]
 ·cases h
section
variable{t:Tb} (h:t.Ok)
include h
theorem Tb.mD:t.cells[104]? =some (aH Gr.cells t.groups):=by
 simp[Tb.cells,aJ Ph.len,h.phases]
theorem Tb.xq:t.cells[114]? =some (aH Rl.cells t.bQ):=by
 simp[Tb.cells,aJ Ph.len,h.phases,h.conflict,h.cB]
theorem Tb.G5:t.cells[115]? =some (aH Bs.cells t.jC):=by
 simp[Tb.cells,aJ Ph.len,h.phases,h.conflict,h.cB]
theorem Tb.tail_at(j:Nat) (hj:j<5):t.cells[116+j]? =[I t.extend,I t.gx,I t.start,I t.revert,I t.least][j]?:=by
 have:j=0\/j=1\/j=2\/j=3\/j=4:=by omega
 rcases this with rfl|rfl|rfl|rfl|rfl<;>
 simp[Tb.cells,aJ Ph.len,h.phases,h.conflict,h.cB]
theorem Tb.ND:t.cells[130]? =some (I t.share):=by
 simp[Tb.cells,aJ Ph.len,h.phases,h.conflict,h.cB]
omit h in
theorem Tb.YO{i:Nat} {p:Ph} (hp:t.phases[i]? =some p) (j:Nat) (hj:j<13):t.cells[i*13+j]? =p.cells[j]?:=kG (Tb.mT hp) hj
omit h in
theorem Tb.yS{i:Nat} {p:Ph} (hp:t.phases[i]? =some p):t.cells[i*13]? =some (B p.on)/\t.cells[i*13+1]? =some (I p.min)/\t.cells[i*13+2]? =some (I p.Pb)/\t.cells[i*13+3]? =some (I p.max)/\t.cells[i*13+4]? =some (I p.top)/\t.cells[i*13+5]? =some (I p.step)/\t.cells[i*13+6]? =some (I p.ei)/\t.cells[i*13+7]? =some (I p.red)/\t.cells[i*13+8]? =some (I p.walk)/\t.cells[i*13+9]? =some (I p.f7)/\t.cells[i*13+10]? =some (I p.kj)/\t.cells[i*13+11]? =some (B p.lock)/\t.cells[i*13+12]? =some (B p.rest):=
 have hj:=fun j hj=>Tb.YO hp j hj
 ⟨hj 0 (by omega),hj 1 (by omega),hj 2 (by omega),hj 3 (by omega),hj 4 (by omega),hj 5 (by omega),hj 6 (by omega),hj 7 (by omega),hj 8 (by omega),hj 9 (by omega),hj 10 (by omega),hj 11 (by omega),hj 12 (by omega)⟩
theorem Tb.nP{i:Nat} {c:Int} (hc:t.conflict[i]? =some c):t.cells[105+i]? =some (I c):=by
 have hi:i<8:=by have:=(List.getElem?_eq_some_iff.1 hc).1;rw[h.conflict]at this;exact this
 have e:(t.phases.flatMap Ph.cells).length=104:=by rw[aJ Ph.len,h.phases]
 unfold Tb.cells
 rw[List.getElem?_append_right (by omega),e,show 105+i-104=i+1 by omega,List.getElem?_cons_succ,List.getElem?_append_left (by simp[h.conflict,hi]),List.getElem?_map,hc];rfl
end
structure Sp where
 group:Int
 ring:Int
 pos:Int
 p:Int
 deriving Inhabited,DecidableEq
def Sp.cells(s:Sp):List AV:=[I s.group,I s.ring,I s.pos,I s.p]
theorem Sp.len(s:Sp):s.cells.length=4:=rfl
theorem Gr.len(s:Gr):s.cells.length=2:=rfl
def Gr.row(g:Gr) (k:Nat):Option (List Int):=if k=0 then g.a else g.b
def bY(g k:Nat) (row:List Int):List Sp:=row.zipIdx.filterMap fun(p,i)=>if 0<=p/\p<8 then some ⟨g,k,i,p⟩else none
def dz(gr:Gr) (g k:Nat):List Sp:=(List.range k).flatMap fun k=>bY g k ((gr.row k).getD [])
def dm(l:List Gr) (n:Nat):List Sp:=(l.take n).zipIdx.flatMap fun(gr,g)=>dz gr g 2
def cU(t:Tb):List Sp:=dm (t.groups.getD []) (t.groups.getD []).length
theorem oS{α:Type} {row:α->List AV} {l:List α} {m:List (Nat×Nat)} {nx t t':Nat} (h:Gk m t'=t) (ht:t'<nx):AA m nx (bG row l t) (bG row l t'):=by
 unfold bG;split
 ·exact rfl
 ·exact⟨rfl,h.symm,ht⟩
theorem um{α:Type} {l:List α} {m:List (Nat×Nat)} {nx t t' e:Nat} (h:Gk m t'=t) (ht:t'<nx):pW m nx (bK l t e) (bK l t' e):=by
 unfold bK;split
 ·trivial
 ·simp[pW,h,ht,xb]
theorem oT{α:Type} {l:List α} {m:List (Nat×Nat)} {t e:Nat}:cq m (bK l t e):=by
 unfold bK;split<;>simp[cq]
theorem kH{g k:Nat} {row:List Int} {i:Nat} {x:Int} (h:row[i]? =some x):(0<=x/\x<8->bY g k (row.take (i+1))=bY g k (row.take i)++[⟨g,k,i,x⟩])/\(¬(0<=x/\x<8)->bY g k (row.take (i+1))=bY g k (row.take i)):=by
 have hl:(row.take i).length=i:=jD h
 unfold bY;rw[jj h,List.zipIdx_append,List.filterMap_append,hl]
 constructor<;>intro hx<;>simp[hx]
theorem qn(g k:Nat) (row:List Int):(bY g k row).length<=row.length:=by
 have:=List.length_filterMap_le (fun(p:Int×Nat)=>if 0<=p.1/\p.1<8 then some (⟨g,k,p.2,p.1⟩:Sp)else none) row.zipIdx
 simpa[bY]using this
theorem fy(gr:Gr) (g k:Nat):dz gr g (k+1)=dz gr g k++bY g k ((gr.row k).getD []):=by
 simp[dz,List.range_succ]
theorem jG{l:List Gr} {g:Nat} {gr:Gr} (h:l[g]? =some gr):dm l (g+1)=dm l g++dz gr g 2:=by
 have hl:(l.take g).length=g:=jD h
 unfold dm;rw[jj h,List.zipIdx_append,List.flatMap_append,hl];simp
theorem zQ{gr:Gr} (hr:(gr.a.getD []).length<=1048576/\(gr.b.getD []).length<=1048576) (g k:Nat) (hk:k<=2):(dz gr g k).length<=k*1048576:=by
 have h0:=qn g 0 (gr.a.getD [])
 have h1:=qn g 1 (gr.b.getD [])
 have:k=0\/k=1\/k=2:=by omega
 rcases this with rfl|rfl|rfl
 ·simp[dz]
 ·rw[fy,List.length_append]
  have:(dz gr g 0).length=0:=rfl
  have h0':(bY g 0 ((gr.row 0).getD [])).length<=(gr.a.getD []).length:=h0
  omega
 ·rw[fy,fy,List.length_append,List.length_append]
  have:(dz gr g 0).length=0:=rfl
  have h0':(bY g 0 ((gr.row 0).getD [])).length<=(gr.a.getD []).length:=h0
  have h1':(bY g 1 ((gr.row 1).getD [])).length<=(gr.b.getD []).length:=h1
  omega
theorem sQ{t:Tb} (ht:t.Ok):∀n,n<=(t.groups.getD []).length->(dm (t.groups.getD []) n).length<=n*2097152
 |0,_=>by simp[dm]
 |n+1,h=>by
  obtain⟨gr,hgr⟩:∃x,(t.groups.getD [])[n]? =some x:=⟨_,List.getElem?_eq_getElem (by omega)⟩
  have:=sQ ht n (by omega)
  have h2:=zQ (ht.rows gr (List.mem_of_getElem? hgr)) n 2 (by omega)
  rw[jG hgr,List.length_append];omega
theorem Em{t:Tb} (ht:t.Ok):(cU t).length<=2199023255552:=by
 have:=sQ ht _ (Nat.le_refl _)
 have:=ht.groups
 simp only[cU];omega
theorem I7{t:Tb} (ht:t.Ok) {g k i:Nat} {gr:Gr} (hg:(t.groups.getD [])[g]? =some gr) (hk:k<2) (hi:i<((gr.row k).getD []).length):((dm (t.groups.getD []) g++dz gr g k++bY g k (((gr.row k).getD []).take i)).length+1)*32<=140737488355328:=by
 have hlt:g<(t.groups.getD []).length:=(List.getElem?_eq_some_iff.1 hg).1
 have h1:=sQ ht g (by omega)
 have hr:=ht.rows gr (List.mem_of_getElem? hg)
 have h2:=zQ hr g k (by omega)
 have h3:=qn g k (((gr.row k).getD []).take i)
 have h4:(((gr.row k).getD []).take i).length<=1048576:=by
  have:k=0\/k=1:=by omega
  rcases this with rfl|rfl
  ·exact Nat.le_trans (List.length_take_le' _ _) hr.1
  ·exact Nat.le_trans (List.length_take_le' _ _) hr.2
 have:=ht.groups
 rw[List.length_append,List.length_append];omega
def cU.Spec(C:aS) (f e:Nat):Prop:=∀(t:Tb) (fr:Option Nat),t.Ok->(fr=none\/fr=some e/\cU t≠[])->C.c f [.agg t.cells] (aH Sp.cells (dH (cU t))) fr
section
variable{P:Program} (hm:P.follows .mixedOrders=true) {f:Nat}
include hm
theorem cU.ok {e:Nat} (hc:bF P f=some (sO e)):cU.Spec (Pure P) f e:=by
  intro t fr ht hfr
  have hg:=Tb.mD ht
  refine ak hm hc (by show 1≤56; decide) (aj (keep:=[]) (i:=0) ?_)
  try simp only [RX,↓ KW,seval,sO,Z.H]
  refine aG (fun g:Nat=>(⟨[(4,.dat (I g) none),(1,.ptr 4 0),(3,bG Sp.cells (dm (t.groups.getD []) g) 0)],[(4,⟨t.cells,[]⟩)],bK (dm (t.groups.getD []) g) 0 e,400⟩:S)) (fun g=>(t.groups.getD []).length - g) (fun g=>g≤(t.groups.getD []).length) ?_ 0 (by omega) ?_
  · intro g hg1 A back
    have hb:=ht.groups
    have hw:=aB (k:=g) (by omega)
    try simp only [I,RX,↓ KW,seval,hg]
    refine ax (fun h=>?_) (fun h=>?_)<;>try simp only [RX,↓ KW,seval,h]
    · have hlt:g < (t.groups.getD []).length:=by have:=of_decide_eq_true h; omega
      obtain ⟨gr,hgr⟩:∃ x,(t.groups.getD [])[g]? = some x:=⟨_,List.getElem?_eq_getElem hlt⟩
      have hrs:=ht.rows gr (List.mem_of_getElem? hgr)
      refine aG (fun k:Nat=>(⟨[(5,.dat (I k) none),(4,.dat (I g) none),(1,.ptr 4 0),(3,bG Sp.cells (dm (t.groups.getD []) g++dz gr g k) 0)],[(4,⟨t.cells,[]⟩)],bK (dm (t.groups.getD []) g++dz gr g k) 0 e,400⟩:S)) (fun k=>2 - k) (fun k=>k≤2) ?_ 0 (by omega) ?_
      · intro k hk A1 back1
        have hw1:=aB (k:=k) (by omega)
        try simp only [I,RX,↓ KW,seval]
        refine ax (fun h1=>?_) (fun h1=>?_)<;>try simp only [RX,↓ KW,seval,h1]
        · have hk2:k < 2:=by have:=of_decide_eq_true h1; omega
          have hrow:(List.drop k gr.cells)[0]? = some (aH aD (gr.row k)):=by
            have:k=0∨k=1:=by omega
            rcases this with rfl|rfl<;>rfl
          have hrl:((gr.row k).getD []).length≤1048576:=by
            have:k=0∨k=1:=by omega
            rcases this with rfl|rfl
            exact hrs.1
            exact hrs.2
          refine aG (fun i:Nat=>(⟨[(6,.dat (I i) none),(5,.dat (I k) none),(4,.dat (I g) none),(1,.ptr 4 0),(3,bG Sp.cells (dm (t.groups.getD []) g++dz gr g k++bY g k (((gr.row k).getD []).take i)) 0)],[(4,⟨t.cells,[]⟩)],bK (dm (t.groups.getD []) g++dz gr g k++bY g k (((gr.row k).getD []).take i)) 0 e,400⟩:S)) (fun i=>((gr.row k).getD []).length - i) (fun i=>i≤((gr.row k).getD []).length) ?_ 0 (by omega) ?_
          · intro i hi A2 back2
            have hw2:=aB (k:=i) (by omega)
            try simp only [I,RX,↓ KW,seval,hg,hgr,Gr.len]
            refine ⟨by omega,by omega,?_⟩
            try simp only [RX,↓ KW,seval,hrow]
            refine ax (fun h2=>?_) (fun h2=>?_)<;>try simp only [RX,↓ KW,seval,hg,hgr,Gr.len,h2]
            · have hil:i < ((gr.row k).getD []).length:=by have:=of_decide_eq_true h2; omega
              obtain ⟨x,hx⟩:∃ x,((gr.row k).getD [])[i]? = some x:=⟨_,List.getElem?_eq_getElem hil⟩
              have hnx:=kH (g:=g) (k:=k) hx
              refine ⟨by omega,by omega,?_⟩
              try simp only [RX,↓ KW,seval,hrow]
              refine ⟨by omega,?_⟩
              try simp only [I,RX,↓ KW,seval,hx,aD]
              repeat' (((first | refine aV ?_ ?_ | refine ax ?_ ?_ | refine bC ?_ ?_)<;>intro h)<;>try simp only [RX,↓ KW,seval,h])
              · rename_i ha
                have hx8:0≤x∧x < 8:=⟨of_decide_eq_true ha,of_decide_eq_true h⟩
                have hnx:=hnx.1 hx8
                have hsz:=I7 ht hgr hk2 hil
                generalize dm (t.groups.getD []) g++dz gr g k=L at *
                by_cases hl:L++bY g k (((gr.row k).getD []).take i)=[]
                · try simp only [RX,↓ KW,seval,bG,bK,hl]
                  refine back2 (i + 1) _ (by omega) (by omega) (ai (by decide) ?_ ?_ ?_ ?_)<;>simp [LX,I,hnx,hw2,Sp.cells,← List.append_assoc,hl]
                · try simp only [RX,↓ KW,seval,bG,bK,hl,Sp.len]
                  refine ⟨hsz,?_⟩
                  refine back2 (i + 1) _ (by omega) (by omega) (ai (by decide) ?_ ?_ ?_ ?_)<;>simp [LX,I,hnx,hw2,Sp.cells,← List.append_assoc,hl]
              · have hnx:=hnx.2 (by have:=of_decide_eq_false h; omega)
                refine back2 (i + 1) _ (by omega) (by omega) (zO [(0,0)] (by decide) ?_ ?_ ?_ oT)<;>simp [oS,um,gu,vP,vQ,ij,lE,Gk,GS,xb,zK,sH,I,aE,hnx,hw2]
              · have hnx:=hnx.2 (by have:=of_decide_eq_false h; omega)
                refine back2 (i + 1) _ (by omega) (by omega) (zO [(0,0)] (by decide) ?_ ?_ ?_ oT)<;>simp [oS,um,gu,vP,vQ,ij,lE,Gk,GS,xb,zK,sH,I,aE,hnx,hw2]
            · have:i=((gr.row k).getD []).length:=by have:=of_decide_eq_false h2; omega
              subst this
              have hk1:=fy gr g k
              rw [List.take_length,List.append_assoc,← hk1]
              refine back1 (k + 1) _ (by omega) (by omega) (zO [(0,0)] (by decide) ?_ ?_ ?_ oT)<;>simp [oS,um,gu,vP,vQ,ij,lE,Gk,GS,xb,zK,sH,I,aE,hw1]
          · simp [bY]
            refine zO [(0,0)] (by decide) ?_ ?_ ?_ oT<;>simp [oS,um,gu,vP,vQ,ij,lE,Gk,GS,xb,zK,sH,I,aE]
        · have:k=2:=by have:=of_decide_eq_false h1; omega
          subst this
          have hg1:=jG hgr
          rw [← hg1]
          refine back (g + 1) _ (by omega) (by omega) (zO [(0,0)] (by decide) ?_ ?_ ?_ oT)<;>simp [oS,um,gu,vP,vQ,ij,lE,Gk,GS,xb,zK,sH,I,aE,hw]
      · simp [dz]
        refine zO [(0,0)] (by decide) ?_ ?_ ?_ oT<;>simp [oS,um,gu,vP,vQ,ij,lE,Gk,GS,xb,zK,sH,I,aE]
    · have:g=(t.groups.getD []).length:=by have:=of_decide_eq_false h; omega
      subst this
      have hs:cU t=dm (t.groups.getD []) (t.groups.getD []).length:=rfl
      rw [hs] at hfr ⊢
      generalize dm (t.groups.getD []) (t.groups.getD []).length=L at *
      by_cases hl:L=[]
      · rcases hfr with rfl | ⟨rfl,hne⟩
        · try simp only [RX,↓ KW,seval,bG,bK,dH,aH,hl]
        · exact absurd hl hne
      · rcases hfr with rfl | ⟨rfl,hne⟩
        · try simp only [RX,↓ KW,seval,bG,bK,dH,aH,hl]
        · try simp only [RX,↓ KW,seval,bG,bK,dH,aH,hl]
  · simp [dm]
    refine ai (by decide) ?_ ?_ ?_ ?_<;>simp [LX,I]
end
end Go.Eng
