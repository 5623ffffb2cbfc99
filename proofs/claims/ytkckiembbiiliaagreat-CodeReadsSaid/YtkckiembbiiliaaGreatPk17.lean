/- The engine and the library,part 17 of 20: what the proofs of this seat need of them. -/
import Derived.Test.YtkckiembbiiliaaGreatPk16
set_option linter.unnecessarySimpa false
set_option linter.unusedSimpArgs false
set_option linter.unusedVariables false
set_option linter.defProp false
set_option maxRecDepth 10000
set_option maxHeartbeats 4000000
namespace Go.Eng
open Go
def aW(ph:List Ph) (gs:List Gr) (cf:List Int) (ds:List gu) (rs:List Rl) (bs:List Bs) (a b c d e:Int) (fl:List Int) (w s:Int):Tb:=⟨ph,bf gs,cf,bf ds,bf rs,bf bs,a,b,c,d,e,fl,w,s⟩
def pad{α:Type} (x:α) (L:List α):List α:=L++List.replicate (8-L.length) x
theorem sP{α:Type} {x:α} {L:List α} (h:L.length=8):pad x L=L:=by simp[pad,h]
theorem sQ{α:Type} {x:α} {L:List α} (h:L.length<=8):(pad x L).length=8:=by simp[pad];omega
theorem sR{α:Type} {x a:α} {L:List α} (h:L.length<8):(pad x L).set L.length a=pad x (L++[a]):=by
 unfold pad
 rw[show 8-L.length=(8-(L++[a]).length)+1 by simp;omega,List.replicate_succ,List.set_append]
 simp
theorem vF{α:Type} (c:Cd α):∀(n:Nat) (r:aU),((c.rep n).m r).1.length=n
 |0,_=>rfl
 |n+1,r=>by
  show(_::((c.rep n).m _).1).length=n+1
  rw[List.length_cons,vF c n]
theorem iY{α:Type} {c:Cd α} {n i:Nat} {q q' rF:aU} {tl:List α} {a:α} (h1:(c.rep (n-i)).m q=(tl,rF)) (e:c.m q=(a,q')) (h:i<n):∃tl',(c.rep (n-(i+1))).m q'=(tl',rF)/\tl=a::tl':=by
 rw[show n-i=(n-(i+1))+1 by omega]at h1
 simp only[Cd.rep,Cd.map,Cd.seq,e,Prod.mk.injEq]at h1;exact⟨_,Prod.ext rfl h1.2,h1.1.symm⟩
theorem kD{α:Type} {c:Cd α} {n i:Nat} {q rF:aU} {tl:List α} (h1:(c.rep (n-i)).m q=(tl,rF)) (h:i=n):tl=[]/\q=rF:=by
 subst h;rw[Nat.sub_self]at h1;simp only[Cd.rep,Cd.none,Prod.mk.injEq]at h1;exact⟨h1.1.symm,h1.2⟩
theorem cK{ph:List Ph} {gs:List Gr} {cf:List Int} {ds:List gu} {rs:List Rl} {bs:List Bs} {a b c d e:Int} {fl:List Int} {w s:Int} (h1:ph.length=8) (h2:cf.length=8) (h3:fl.length=8):(aW ph gs cf ds rs bs a b c d e fl w s).Ln:=⟨h1,h2,h3⟩
theorem aP{α:Type} (f:α->List AV) (o:Option (List α)):(aF f o).cells=[aF f o]:=by cases o<;>rfl
theorem bZ{α:Type} (f:α->List AV) (o:Option (List α)) (q:Option Nat):jD (aF f o) q=true:=by cases o<;>rfl
theorem Gr.len'(g:Gr):g.cells.length=2:=rfl
theorem Rl.len'(g:Rl):g.cells.length=11:=rfl
theorem Bs.len'(g:Bs):g.cells.length=2:=rfl
theorem gu.len'(g:gu):g.cells.length=7:=rfl
def zV.Spec(C:bz) (f:Nat):Prop:=nB jY (fun t=>.agg t.cells) C f
theorem EZ{α:Type} (c:Cd α) (n:Nat) {r:aU} (hr:r.Ok):∃l r',(c.rep n).m r=(l,r')/\r'.Ok/\l.length=n:=⟨_,_,rfl,(c.rep n).ok r hr,vF c n r⟩
theorem Tb.tQ{t:Tb} (h:t.phases.length=8) (g:Option (List Gr)):setCells t.cells 104 [aF Gr.cells g]=({t with groups:=g}:Tb).cells:=by
 rw[<-Tb.zG h g];simp[setCells]
section
variable{P:Program} (hm:P.follows .mixedOrders=true) {f:Nat}
include hm
theorem zV.ok {fP fN fW eG fD eD fR eR fT eB:Nat} (hc:cZ P f=some (ic fP fN fW eG fD eD fR eR fT eB)) (hP:J9.Spec (Pure P) fP) (hN:vt.Spec (Pure P) fN) (hW:DH.Spec (Pure P) fW) (hD:DI.Spec (Pure P) fD) (hR:Ka.Spec (Pure P) fR) (hT:rU.Spec (Pure P) fT):zV.Spec (Pure P) f:=by
  intro r hr
  obtain ⟨phs,r1,e1,k1,l1⟩:=EZ xO 8 hr
  obtain ⟨n1,r2,e2,k2,b1,c1⟩:=oo hN k1 1 4 (by decide) (by decide) (by decide)
  obtain ⟨N1,hN1,hN1'⟩:∃ N:Nat,n1=(N:Int)∧N≤4:=⟨n1.toNat,by omega,by omega⟩
  subst hN1
  obtain ⟨grs,r3,e3,k3,l3⟩:=EZ wK N1 k2
  obtain ⟨cf,r4,e4,k4,l4⟩:=EZ jN 8 k3
  obtain ⟨n2,r5,e5,k5,b2,c2⟩:=oo hN k4 1 16 (by decide) (by decide) (by decide)
  obtain ⟨N2,hN2,hN2'⟩:∃ N:Nat,n2=(N:Int)∧N≤16:=⟨n2.toNat,by omega,by omega⟩
  subst hN2
  obtain ⟨ds,r6,e6,k6,l6⟩:=EZ nF N2 k5
  obtain ⟨n3,r7,e7,k7,b3,c3⟩:=oo hN k6 1 4 (by decide) (by decide) (by decide)
  obtain ⟨N3,hN3,hN3'⟩:∃ N:Nat,n3=(N:Int)∧N≤4:=⟨n3.toNat,by omega,by omega⟩
  subst hN3
  obtain ⟨rs,r8,e8,k8,l8⟩:=EZ Ag N3 k7
  obtain ⟨n4,r9,e9,k9,b4,c4⟩:=oo hN k8 1 4 (by decide) (by decide) (by decide)
  obtain ⟨N4,hN4,hN4'⟩:∃ N:Nat,n4=(N:Int)∧N≤4:=⟨n4.toNat,by omega,by omega⟩
  subst hN4
  obtain ⟨bs,r10,e10,k10,l10⟩:=EZ zR N4 k9
  obtain ⟨a0,r11,e11,k11,ca0⟩:=nB.step hT k10
  obtain ⟨a1,r12,e12,k12,ca1⟩:=nB.step hT k11
  obtain ⟨a2,r13,e13,k13,ca2⟩:=nB.step hT k12
  obtain ⟨a3,r14,e14,k14,ca3⟩:=nB.step hT k13
  obtain ⟨a4,r15,e15,k15,ca4⟩:=nB.step hT k14
  obtain ⟨fl,r16,e16,k16,l16⟩:=EZ (cu 2 (by decide)) 8 k15
  obtain ⟨w,r17,e17,k17,_,cw⟩:=oo hN k16 4 2147483647 (by decide) (by decide) (by decide)
  obtain ⟨s,r18,e18,k18,_,cs⟩:=oo hN k17 4 2147483647 (by decide) (by decide) (by decide)
  have hm':jY.m r=(aW phs grs cf ds rs bs a0 a1 a2 a3 a4 fl w s,r18):=by
    have e2':(cu 4 (by decide)).m r1=((N1:Int),r2):=e2
    have e5':(cu 16 (by decide)).m r4=((N2:Int),r5):=e5
    have e7':(cu 4 (by decide)).m r6=((N3:Int),r7):=e7
    have e9':(cu 4 (by decide)).m r8=((N4:Int),r9):=e9
    have e17':dB.m r16=(w,r17):=e17
    have e18':dB.m r17=(s,r18):=e18
    simp only [jY,zS,nw,rR,pW,Cd.many,Cd.map,Cd.seq,Int.toNat_natCast,e1,e2',e3,e4,e5',e6,e7',e8,e9',e10,e11,e12,e13,e14,e15,e16,e17',e18',aW]
  rw [hm']
  clear hm'
  have z0:cv=aW (pad default []) [] (pad 0 []) [] [] [] 0 0 0 0 0 (pad 0 []) 0 0:=rfl
  have p0:(pad (0:Int) []).length=8:=rfl
  refine bK hm hc (by show 1≤130; decide) rfl (by simp) (ay (keep:=[0,3,6,9,12,15,18]) (i:=0) ?_)
  try simp only [I,B,D,RY,↓ KW,seval,ic,Z.H,B3]
  refine fe (.exit 0) (fun _:Unit=>(⟨[(3,.ptr 5 0),(2,.ptr 4 0),(0,.ptr 0 0)],[(5,⟨(aW phs [] (pad 0 []) [] [] [] 0 0 0 0 0 (pad 0 []) 0 0).cells,[]⟩),(4,⟨cv.cells,[]⟩),(0,⟨r1.cells,[]⟩)],[],400⟩:S)) (fun _=>True) (fun _=>rfl) ?_ ?_
  · refine aI (fun x:List Ph × aU=>(⟨[(4,.dat (I x.1.length) none),(3,.ptr 5 0),(2,.ptr 4 0),(0,.ptr 0 0)],[(5,⟨(aW (pad default x.1) [] (pad 0 []) [] [] [] 0 0 0 0 0 (pad 0 []) 0 0).cells,[]⟩),(4,⟨cv.cells,[]⟩),(0,⟨x.2.cells,[]⟩)],[],400⟩:S)) (fun x=>8 - x.1.length) (fun x=>x.1.length≤8∧x.2.Ok∧∃ tl,(xO.rep (8 - x.1.length)).m x.2=(tl,r1)∧x.1++tl=phs) ?_ ([],r) ⟨by simp,hr,_,e1,rfl⟩ ?_
    · intro x hx A back
      obtain ⟨L,q⟩:=x
      obtain ⟨hL,hq,tl,h1,h2⟩:=hx
      simp only at hL hq h1 h2
      have ln:(aW (pad default L) [] (pad 0 []) [] [] [] 0 0 0 0 0 (pad 0 []) 0 0).Ln:=cK (sQ hL) p0 p0
      have hln:=ln.len
      have hw:=aG (k:=L.length) (by omega)
      try simp only [I,B,D,RY,↓ KW,seval]
      refine aq (fun h=>?_) (fun h=>?_)<;>try simp only [I,B,D,RY,↓ KW,seval,h]
      · have h3:L.length < 8:=by have:=of_decide_eq_true h; omega
        obtain ⟨a,q',ea,ka,ca⟩:=nB.step hP hq
        obtain ⟨tl',e',h1'⟩:=iY h1 ea h3
        have hs:setCells (aW (pad default L) [] (pad 0 []) [] [] [] 0 0 0 0 0 (pad 0 []) 0 0).cells (L.length * 13) a.cells=(aW (pad default (L++[a])) [] (pad 0 []) [] [] [] 0 0 0 0 0 (pad 0 []) 0 0).cells:=by
          rw [ln.wD h3 a]; simp only [aW,sR h3]
        refine ⟨rfl,ax ca ?_⟩
        try simp only [I,B,D,RY,↓ KW,seval,hs,Ph.len]
        repeat (refine And.intro (by first | omega | (simp; omega)) ?_)
        try simp only [I,B,D,RY,↓ KW,seval,hs,Ph.len]
        refine back (L++[a],q') _ ⟨by show (L++[a]).length≤8; simp; omega,ka,tl',by rw [List.length_append]; exact e',by rw [← h2,h1']; simp⟩ (by show 8 - (L++[a]).length < 8 - L.length; simp; omega) ?_
        refine ah (by decide) ?_ ?_ ?_ ?_<;>simp [LX,I,B,D,hs,hw,List.length_append]
      · have h3:L.length=8:=by have:=of_decide_eq_false h; omega
        obtain ⟨h4,h5⟩:=kD h1 h3
        rw [h4,List.append_nil] at h2
        refine bP () trivial ?_
        refine ah (by decide) ?_ ?_ ?_ ?_<;>simp [LX,I,B,D,h5,← h2,sP h3]
    · refine ah (by decide) ?_ ?_ ?_ ?_<;>simp [LX,I,B,D,z0]
  · intro _ _
    try simp only [I,B,D,RY,↓ KW,seval]
    refine ⟨rfl,ax c1 ?_⟩
    try simp only [I,B,D,RY,↓ KW,seval]
    refine fe (.exit 2) (fun _:Unit=>(⟨[(3,.ptr 5 0),(2,.ptr 4 0),(0,.ptr 0 0)],[(5,⟨(aW phs grs (pad 0 []) [] [] [] 0 0 0 0 0 (pad 0 []) 0 0).cells,[]⟩),(4,⟨cv.cells,[]⟩),(0,⟨r3.cells,[]⟩)],[],400⟩:S)) (fun _=>True) (fun _=>rfl) ?_ ?_
    · refine aI (fun x:List Gr × aU=>(⟨[(6,.dat (I x.1.length) none),(5,.dat (I N1) none),(3,.ptr 5 0),(2,.ptr 4 0),(0,.ptr 0 0)],[(5,⟨(aW phs x.1 (pad 0 []) [] [] [] 0 0 0 0 0 (pad 0 []) 0 0).cells,if x.1=[] then [] else [(104,0)]⟩),(4,⟨cv.cells,[]⟩),(0,⟨x.2.cells,[]⟩)],bE x.1 0 eG,400⟩:S)) (fun x=>N1 - x.1.length) (fun x=>x.1.length≤N1∧x.2.Ok∧∃ tl,(wK.rep (N1 - x.1.length)).m x.2=(tl,r3)∧x.1++tl=grs) ?_ ([],r2) ⟨by simp,k2,_,e3,rfl⟩ ?_
      · intro x hx A back
        obtain ⟨L,q⟩:=x
        obtain ⟨hL,hq,tl,h1,h2⟩:=hx
        simp only at hL hq h1 h2
        have ln:(aW phs L (pad 0 []) [] [] [] 0 0 0 0 0 (pad 0 []) 0 0).Ln:=cK l1 p0 p0
        have hln:=ln.len
        have hat:=Tb.uu ln.phases
        have hw:=aG (k:=L.length) (by omega)
        have hset:∀ a:Gr,setCells (aW phs L (pad 0 []) [] [] [] 0 0 0 0 0 (pad 0 []) 0 0).cells 104 [aF Gr.cells (some (L++[a]))]=(aW phs (L++[a]) (pad 0 []) [] [] [] 0 0 0 0 0 (pad 0 []) 0 0).cells:=fun a=>by
          rw [Tb.tQ ln.phases (some (L++[a]))]; simp [aW,bf]
        have hatr:(aW phs L (pad 0 []) [] [] [] 0 0 0 0 0 (pad 0 []) 0 0).groups=bf L:=rfl
        rw [hatr] at hat
        simp only [aN,List.map_append,List.map_cons,List.map_nil] at hset
        cases L with
        | nil =>
          simp only [List.map_nil,List.nil_append,bf,if_true,aS] at hset hat
          have hw1:IntKind.i64.wrap 1=1:=by decide
          try simp only [I,B,D,RY,↓ KW,seval,bf,bE,List.length_nil]
          refine aq (fun h=>?_) (fun h=>?_)<;>try simp only [I,B,D,RY,↓ KW,seval,hat,h]
          · have h3:0 < N1:=by have:=of_decide_eq_true h; simpa using this
            obtain ⟨x1,q1,ea1,ka1,ca1⟩:=nB.step hW hq
            obtain ⟨x2,q',ea2,ka,ca2⟩:=nB.step hW ka1
            obtain ⟨a,ha⟩:∃ a:Gr,a=⟨bf x1,bf x2⟩:=⟨_,rfl⟩
            have ea:wK.m q=(a,q'):=by rw [ha]; simp only [wK,Cd.map,Cd.seq,ea1,ea2]
            have hset:=hset a
            have hac:a.cells=[aF aD (bf x1),aF aD (bf x2)]:=by rw [ha]; rfl
            rw [hac] at hset
            refine ⟨rfl,ax ca1 ?_⟩
            try simp only [I,B,D,RY,↓ KW,seval]
            refine ⟨rfl,ax ca2 ?_⟩
            skip
            obtain ⟨tl',e',h1'⟩:=iY h1 ea h3
            try simp only [I,B,D,RY,↓ KW,seval,hset,hat,hln,aP,bZ,Gr.len']
            repeat (refine And.intro (by first | omega | (simp at h3 ⊢; omega)) ?_)
            try simp only [I,B,D,RY,↓ KW,seval,hset,hat,hln,aP,bZ,Gr.len']
            refine back ([a],q') _ ⟨by simp at h3 ⊢; omega,ka,tl',by simpa using e',by rw [← h2,h1']; simp⟩ (by simp at h3 ⊢; omega) ?_
            refine ah (by decide) ?_ ?_ ?_ ?_<;>simp [LX,I,B,D,hset,hw1,bf,aP]
          · have h3:0=N1:=by have:=of_decide_eq_false h; omega
            obtain ⟨h4,h5⟩:=kD h1 h3
            rw [h4,List.append_nil] at h2
            refine bP () trivial ?_
            refine ah (by decide) ?_ ?_ ?_ ?_<;>simp [LX,I,B,D,h5,← h2,bf]
        | cons y ys =>
          simp only [bf,reduceCtorEq,if_false,aN] at hset hat
          have hw1:IntKind.i64.wrap ((ys.length:Int) + 1 + 1)=(ys.length:Int) + 1 + 1:=br (by omega) (by simp only [List.length_cons] at hL; omega)
          try simp only [I,B,D,RY,↓ KW,seval,bf,bE]
          refine aq (fun h=>?_) (fun h=>?_)<;>try simp only [I,B,D,RY,↓ KW,seval,hat,h]
          · have h3:(y :: ys).length < N1:=by have:=of_decide_eq_true h; simp only [List.length_cons] at this ⊢; omega
            obtain ⟨x1,q1,ea1,ka1,ca1⟩:=nB.step hW hq
            obtain ⟨x2,q',ea2,ka,ca2⟩:=nB.step hW ka1
            obtain ⟨a,ha⟩:∃ a:Gr,a=⟨bf x1,bf x2⟩:=⟨_,rfl⟩
            have ea:wK.m q=(a,q'):=by rw [ha]; simp only [wK,Cd.map,Cd.seq,ea1,ea2]
            have hset:=hset a
            have hac:a.cells=[aF aD (bf x1),aF aD (bf x2)]:=by rw [ha]; rfl
            rw [hac] at hset
            refine ⟨rfl,ax ca1 ?_⟩
            try simp only [I,B,D,RY,↓ KW,seval]
            refine ⟨rfl,ax ca2 ?_⟩
            skip
            obtain ⟨tl',e',h1'⟩:=iY h1 ea h3
            try simp only [I,B,D,RY,↓ KW,seval,hset,hat,hln,aP,bZ,Gr.len']
            repeat (refine And.intro (by first | omega | (simp at h3 ⊢; omega)) ?_)
            try simp only [I,B,D,RY,↓ KW,seval,hset,hat,hln,aP,bZ,Gr.len']
            refine back ((y :: ys)++[a],q') _ ⟨by simp at h3 ⊢; omega,ka,tl',by simpa using e',by rw [← h2,h1']; simp⟩ (by simp at h3 ⊢; omega) ?_
            refine ah (by decide) ?_ ?_ ?_ ?_<;>simp [LX,I,B,D,hset,hw1,bf,aP]
          · have h3:(y :: ys).length=N1:=by have:=of_decide_eq_false h; simp only [List.length_cons] at this hL ⊢; omega
            obtain ⟨h4,h5⟩:=kD h1 h3
            rw [h4,List.append_nil] at h2
            refine bP () trivial ?_
            refine ah (by decide) ?_ ?_ ?_ ?_<;>simp [LX,I,B,D,h5,← h2,bf]
      · refine ah (by decide) ?_ ?_ ?_ ?_<;>simp [LX,I,B,D,bf,bE,z0]
    · intro _ _
      try simp only [I,B,D,RY,↓ KW,seval]
      refine fe (.exit 4) (fun _:Unit=>(⟨[(3,.ptr 5 0),(2,.ptr 4 0),(0,.ptr 0 0)],[(5,⟨(aW phs grs cf [] [] [] 0 0 0 0 0 (pad 0 []) 0 0).cells,[]⟩),(4,⟨cv.cells,[]⟩),(0,⟨r4.cells,[]⟩)],[],400⟩:S)) (fun _=>True) (fun _=>rfl) ?_ ?_
      · refine aI (fun x:List Int × aU=>(⟨[(9,.dat (I x.1.length) none),(3,.ptr 5 0),(2,.ptr 4 0),(0,.ptr 0 0)],[(5,⟨(aW phs grs (pad 0 x.1) [] [] [] 0 0 0 0 0 (pad 0 []) 0 0).cells,[]⟩),(4,⟨cv.cells,[]⟩),(0,⟨x.2.cells,[]⟩)],[],400⟩:S)) (fun x=>8 - x.1.length) (fun x=>x.1.length≤8∧x.2.Ok∧∃ tl,(jN.rep (8 - x.1.length)).m x.2=(tl,r4)∧x.1++tl=cf) ?_ ([],r3) ⟨by simp,k3,_,e4,rfl⟩ ?_
        · intro x hx A back
          obtain ⟨L,q⟩:=x
          obtain ⟨hL,hq,tl,h1,h2⟩:=hx
          simp only at hL hq h1 h2
          have ln:(aW phs grs (pad 0 L) [] [] [] 0 0 0 0 0 (pad 0 []) 0 0).Ln:=cK l1 (sQ hL) p0
          have hln:=ln.len
          have hw:=aG (k:=L.length) (by omega)
          try simp only [I,B,D,RY,↓ KW,seval]
          refine aq (fun h=>?_) (fun h=>?_)<;>try simp only [I,B,D,RY,↓ KW,seval,h]
          · have h3:L.length < 8:=by have:=of_decide_eq_true h; omega
            obtain ⟨a,q',ea,ka,_,ca⟩:=oo hN hq 1 255 (by decide) (by decide) (by decide)
            obtain ⟨tl',e',h1'⟩:=iY h1 ea h3
            have hs:setCells (aW phs grs (pad 0 L) [] [] [] 0 0 0 0 0 (pad 0 []) 0 0).cells (105 + L.length) [I a]=(aW phs grs (pad 0 (L++[a])) [] [] [] 0 0 0 0 0 (pad 0 []) 0 0).cells:=by
              rw [ln.mG h3 a]; simp only [aW,sR h3]
            refine ⟨rfl,ax ca ?_⟩
            try simp only [I,B,D,RY,↓ KW,seval,hs,Ph.len]
            repeat (refine And.intro (by first | omega | (simp; omega)) ?_)
            try simp only [I,B,D,RY,↓ KW,seval,hs,Ph.len]
            refine back (L++[a],q') _ ⟨by show (L++[a]).length≤8; simp; omega,ka,tl',by rw [List.length_append]; exact e',by rw [← h2,h1']; simp⟩ (by show 8 - (L++[a]).length < 8 - L.length; simp; omega) ?_
            refine ah (by decide) ?_ ?_ ?_ ?_<;>simp [LX,I,B,D,hs,hw,List.length_append]
          · have h3:L.length=8:=by have:=of_decide_eq_false h; omega
            obtain ⟨h4,h5⟩:=kD h1 h3
            rw [h4,List.append_nil] at h2
            refine bP () trivial ?_
            refine ah (by decide) ?_ ?_ ?_ ?_<;>simp [LX,I,B,D,h5,← h2,sP h3]
        · refine ah (by decide) ?_ ?_ ?_ ?_<;>simp [LX,I,B,D,z0]
      · intro _ _
        try simp only [I,B,D,RY,↓ KW,seval]
        refine ⟨rfl,ax c2 ?_⟩
        try simp only [I,B,D,RY,↓ KW,seval]
        refine fe (.exit 6) (fun _:Unit=>(⟨[(3,.ptr 5 0),(2,.ptr 4 0),(0,.ptr 0 0)],[(5,⟨(aW phs grs cf ds [] [] 0 0 0 0 0 (pad 0 []) 0 0).cells,[]⟩),(4,⟨cv.cells,[]⟩),(0,⟨r6.cells,[]⟩)],[],400⟩:S)) (fun _=>True) (fun _=>rfl) ?_ ?_
        · refine aI (fun x:List gu × aU=>(⟨[(10,.dat (I x.1.length) none),(5,.dat (I N2) none),(3,.ptr 5 0),(2,.ptr 4 0),(0,.ptr 0 0)],[(5,⟨(aW phs grs cf x.1 [] [] 0 0 0 0 0 (pad 0 []) 0 0).cells,if x.1=[] then [] else [(113,0)]⟩),(4,⟨cv.cells,[]⟩),(0,⟨x.2.cells,[]⟩)],bE x.1 0 eD,400⟩:S)) (fun x=>N2 - x.1.length) (fun x=>x.1.length≤N2∧x.2.Ok∧∃ tl,(nF.rep (N2 - x.1.length)).m x.2=(tl,r6)∧x.1++tl=ds) ?_ ([],r5) ⟨by simp,k5,_,e6,rfl⟩ ?_
          · intro x hx A back
            obtain ⟨L,q⟩:=x
            obtain ⟨hL,hq,tl,h1,h2⟩:=hx
            simp only at hL hq h1 h2
            have ln:(aW phs grs cf L [] [] 0 0 0 0 0 (pad 0 []) 0 0).Ln:=cK l1 l4 p0
            have hln:=ln.len
            have hat:=ln.zE
            have hw:=aG (k:=L.length) (by omega)
            have hset:∀ a:gu,setCells (aW phs grs cf L [] [] 0 0 0 0 0 (pad 0 []) 0 0).cells 113 [aF gu.cells (some (L++[a]))]=(aW phs grs cf (L++[a]) [] [] 0 0 0 0 0 (pad 0 []) 0 0).cells:=fun a=>by
              rw [ln.vw (some (L++[a]))]; simp [aW,bf]
            have hatr:(aW phs grs cf L [] [] 0 0 0 0 0 (pad 0 []) 0 0).aA=bf L:=rfl
            rw [hatr] at hat
            simp only [aN,List.map_append,List.map_cons,List.map_nil] at hset
            cases L with
            | nil =>
              simp only [List.map_nil,List.nil_append,bf,if_true,aS] at hset hat
              have hw1:IntKind.i64.wrap 1=1:=by decide
              try simp only [I,B,D,RY,↓ KW,seval,bf,bE,List.length_nil]
              refine aq (fun h=>?_) (fun h=>?_)<;>try simp only [I,B,D,RY,↓ KW,seval,hat,h]
              · have h3:0 < N2:=by have:=of_decide_eq_true h; simpa using this
                obtain ⟨a,q',ea,ka,ca⟩:=nB.step hD hq
                have hset:=hset a
                refine qf rfl ?_
                try simp only [I,B,D,RY,↓ KW,seval,hset,hat,hln]
                refine ⟨rfl,ax ca ?_⟩
                obtain ⟨tl',e',h1'⟩:=iY h1 ea h3
                try simp only [I,B,D,RY,↓ KW,seval,hset,hat,hln,aP,bZ,gu.len']
                repeat (refine And.intro (by first | omega | (simp at h3 ⊢; omega)) ?_)
                try simp only [I,B,D,RY,↓ KW,seval,hset,hat,hln,aP,bZ,gu.len']
                refine back ([a],q') _ ⟨by simp at h3 ⊢; omega,ka,tl',by simpa using e',by rw [← h2,h1']; simp⟩ (by simp at h3 ⊢; omega) ?_
                refine ah (by decide) ?_ ?_ ?_ ?_<;>simp [LX,I,B,D,hset,hw1,bf,aP]
              · have h3:0=N2:=by have:=of_decide_eq_false h; omega
                obtain ⟨h4,h5⟩:=kD h1 h3
                rw [h4,List.append_nil] at h2
                refine bP () trivial ?_
                refine ah (by decide) ?_ ?_ ?_ ?_<;>simp [LX,I,B,D,h5,← h2,bf]
            | cons y ys =>
              simp only [bf,reduceCtorEq,if_false,aN] at hset hat
              have hw1:IntKind.i64.wrap ((ys.length:Int) + 1 + 1)=(ys.length:Int) + 1 + 1:=br (by omega) (by simp only [List.length_cons] at hL; omega)
              try simp only [I,B,D,RY,↓ KW,seval,bf,bE]
              refine aq (fun h=>?_) (fun h=>?_)<;>try simp only [I,B,D,RY,↓ KW,seval,hat,h]
              · have h3:(y :: ys).length < N2:=by have:=of_decide_eq_true h; simp only [List.length_cons] at this ⊢; omega
                obtain ⟨a,q',ea,ka,ca⟩:=nB.step hD hq
                have hset:=hset a
                refine qf rfl ?_
                try simp only [I,B,D,RY,↓ KW,seval,hset,hat,hln]
                refine ⟨rfl,ax ca ?_⟩
                obtain ⟨tl',e',h1'⟩:=iY h1 ea h3
                try simp only [I,B,D,RY,↓ KW,seval,hset,hat,hln,aP,bZ,gu.len']
                repeat (refine And.intro (by first | omega | (simp at h3 ⊢; omega)) ?_)
                try simp only [I,B,D,RY,↓ KW,seval,hset,hat,hln,aP,bZ,gu.len']
                refine back ((y :: ys)++[a],q') _ ⟨by simp at h3 ⊢; omega,ka,tl',by simpa using e',by rw [← h2,h1']; simp⟩ (by simp at h3 ⊢; omega) ?_
                refine ah (by decide) ?_ ?_ ?_ ?_<;>simp [LX,I,B,D,hset,hw1,bf,aP]
              · have h3:(y :: ys).length=N2:=by have:=of_decide_eq_false h; simp only [List.length_cons] at this hL ⊢; omega
                obtain ⟨h4,h5⟩:=kD h1 h3
                rw [h4,List.append_nil] at h2
                refine bP () trivial ?_
                refine ah (by decide) ?_ ?_ ?_ ?_<;>simp [LX,I,B,D,h5,← h2,bf]
          · refine ah (by decide) ?_ ?_ ?_ ?_<;>simp [LX,I,B,D,bf,bE,z0]
        · intro _ _
          try simp only [I,B,D,RY,↓ KW,seval]
          refine ⟨rfl,ax c3 ?_⟩
          try simp only [I,B,D,RY,↓ KW,seval]
          refine fe (.exit 8) (fun _:Unit=>(⟨[(3,.ptr 5 0),(2,.ptr 4 0),(0,.ptr 0 0)],[(5,⟨(aW phs grs cf ds rs [] 0 0 0 0 0 (pad 0 []) 0 0).cells,[]⟩),(4,⟨cv.cells,[]⟩),(0,⟨r8.cells,[]⟩)],[],400⟩:S)) (fun _=>True) (fun _=>rfl) ?_ ?_
          · refine aI (fun x:List Rl × aU=>(⟨[(11,.dat (I x.1.length) none),(5,.dat (I N3) none),(3,.ptr 5 0),(2,.ptr 4 0),(0,.ptr 0 0)],[(5,⟨(aW phs grs cf ds x.1 [] 0 0 0 0 0 (pad 0 []) 0 0).cells,if x.1=[] then [] else [(114,0)]⟩),(4,⟨cv.cells,[]⟩),(0,⟨x.2.cells,[]⟩)],bE x.1 0 eR,400⟩:S)) (fun x=>N3 - x.1.length) (fun x=>x.1.length≤N3∧x.2.Ok∧∃ tl,(Ag.rep (N3 - x.1.length)).m x.2=(tl,r8)∧x.1++tl=rs) ?_ ([],r7) ⟨by simp,k7,_,e8,rfl⟩ ?_
            · intro x hx A back
              obtain ⟨L,q⟩:=x
              obtain ⟨hL,hq,tl,h1,h2⟩:=hx
              simp only at hL hq h1 h2
              have ln:(aW phs grs cf ds L [] 0 0 0 0 0 (pad 0 []) 0 0).Ln:=cK l1 l4 p0
              have hln:=ln.len
              have hat:=ln.xB
              have hw:=aG (k:=L.length) (by omega)
              have hset:∀ a:Rl,setCells (aW phs grs cf ds L [] 0 0 0 0 0 (pad 0 []) 0 0).cells 114 [aF Rl.cells (some (L++[a]))]=(aW phs grs cf ds (L++[a]) [] 0 0 0 0 0 (pad 0 []) 0 0).cells:=fun a=>by
                rw [ln.wE (some (L++[a]))]; simp [aW,bf]
              have hatr:(aW phs grs cf ds L [] 0 0 0 0 0 (pad 0 []) 0 0).aV=bf L:=rfl
              rw [hatr] at hat
              simp only [aN,List.map_append,List.map_cons,List.map_nil] at hset
              cases L with
              | nil =>
                simp only [List.map_nil,List.nil_append,bf,if_true,aS] at hset hat
                have hw1:IntKind.i64.wrap 1=1:=by decide
                try simp only [I,B,D,RY,↓ KW,seval,bf,bE,List.length_nil]
                refine aq (fun h=>?_) (fun h=>?_)<;>try simp only [I,B,D,RY,↓ KW,seval,hat,h]
                · have h3:0 < N3:=by have:=of_decide_eq_true h; simpa using this
                  obtain ⟨a,q',ea,ka,ca⟩:=nB.step hR hq
                  have hset:=hset a
                  refine qf rfl ?_
                  try simp only [I,B,D,RY,↓ KW,seval,hset,hat,hln]
                  refine ⟨rfl,ax ca ?_⟩
                  obtain ⟨tl',e',h1'⟩:=iY h1 ea h3
                  try simp only [I,B,D,RY,↓ KW,seval,hset,hat,hln,aP,bZ,Rl.len']
                  repeat (refine And.intro (by first | omega | (simp at h3 ⊢; omega)) ?_)
                  try simp only [I,B,D,RY,↓ KW,seval,hset,hat,hln,aP,bZ,Rl.len']
                  refine back ([a],q') _ ⟨by simp at h3 ⊢; omega,ka,tl',by simpa using e',by rw [← h2,h1']; simp⟩ (by simp at h3 ⊢; omega) ?_
                  refine ah (by decide) ?_ ?_ ?_ ?_<;>simp [LX,I,B,D,hset,hw1,bf,aP]
                · have h3:0=N3:=by have:=of_decide_eq_false h; omega
                  obtain ⟨h4,h5⟩:=kD h1 h3
                  rw [h4,List.append_nil] at h2
                  refine bP () trivial ?_
                  refine ah (by decide) ?_ ?_ ?_ ?_<;>simp [LX,I,B,D,h5,← h2,bf]
              | cons y ys =>
                simp only [bf,reduceCtorEq,if_false,aN] at hset hat
                have hw1:IntKind.i64.wrap ((ys.length:Int) + 1 + 1)=(ys.length:Int) + 1 + 1:=br (by omega) (by simp only [List.length_cons] at hL; omega)
                try simp only [I,B,D,RY,↓ KW,seval,bf,bE]
                refine aq (fun h=>?_) (fun h=>?_)<;>try simp only [I,B,D,RY,↓ KW,seval,hat,h]
                · have h3:(y :: ys).length < N3:=by have:=of_decide_eq_true h; simp only [List.length_cons] at this ⊢; omega
                  obtain ⟨a,q',ea,ka,ca⟩:=nB.step hR hq
                  have hset:=hset a
                  refine qf rfl ?_
                  try simp only [I,B,D,RY,↓ KW,seval,hset,hat,hln]
                  refine ⟨rfl,ax ca ?_⟩
                  obtain ⟨tl',e',h1'⟩:=iY h1 ea h3
                  try simp only [I,B,D,RY,↓ KW,seval,hset,hat,hln,aP,bZ,Rl.len']
                  repeat (refine And.intro (by first | omega | (simp at h3 ⊢; omega)) ?_)
                  try simp only [I,B,D,RY,↓ KW,seval,hset,hat,hln,aP,bZ,Rl.len']
                  refine back ((y :: ys)++[a],q') _ ⟨by simp at h3 ⊢; omega,ka,tl',by simpa using e',by rw [← h2,h1']; simp⟩ (by simp at h3 ⊢; omega) ?_
                  refine ah (by decide) ?_ ?_ ?_ ?_<;>simp [LX,I,B,D,hset,hw1,bf,aP]
                · have h3:(y :: ys).length=N3:=by have:=of_decide_eq_false h; simp only [List.length_cons] at this hL ⊢; omega
                  obtain ⟨h4,h5⟩:=kD h1 h3
                  rw [h4,List.append_nil] at h2
                  refine bP () trivial ?_
                  refine ah (by decide) ?_ ?_ ?_ ?_<;>simp [LX,I,B,D,h5,← h2,bf]
            · refine ah (by decide) ?_ ?_ ?_ ?_<;>simp [LX,I,B,D,bf,bE,z0]
          · intro _ _
            try simp only [I,B,D,RY,↓ KW,seval]
            refine ⟨rfl,ax c4 ?_⟩
            try simp only [I,B,D,RY,↓ KW,seval]
            refine fe (.exit 10) (fun _:Unit=>(⟨[(3,.ptr 5 0),(2,.ptr 4 0),(0,.ptr 0 0)],[(5,⟨(aW phs grs cf ds rs bs 0 0 0 0 0 (pad 0 []) 0 0).cells,[]⟩),(4,⟨cv.cells,[]⟩),(0,⟨r10.cells,[]⟩)],[],400⟩:S)) (fun _=>True) (fun _=>rfl) ?_ ?_
            · refine aI (fun x:List Bs × aU=>(⟨[(12,.dat (I x.1.length) none),(5,.dat (I N4) none),(3,.ptr 5 0),(2,.ptr 4 0),(0,.ptr 0 0)],[(5,⟨(aW phs grs cf ds rs x.1 0 0 0 0 0 (pad 0 []) 0 0).cells,if x.1=[] then [] else [(115,0)]⟩),(4,⟨cv.cells,[]⟩),(0,⟨x.2.cells,[]⟩)],bE x.1 0 eB,400⟩:S)) (fun x=>N4 - x.1.length) (fun x=>x.1.length≤N4∧x.2.Ok∧∃ tl,(zR.rep (N4 - x.1.length)).m x.2=(tl,r10)∧x.1++tl=bs) ?_ ([],r9) ⟨by simp,k9,_,e10,rfl⟩ ?_
              · intro x hx A back
                obtain ⟨L,q⟩:=x
                obtain ⟨hL,hq,tl,h1,h2⟩:=hx
                simp only at hL hq h1 h2
                have ln:(aW phs grs cf ds rs L 0 0 0 0 0 (pad 0 []) 0 0).Ln:=cK l1 l4 p0
                have hln:=ln.len
                have hat:=ln.zF
                have hw:=aG (k:=L.length) (by omega)
                have hset:∀ a:Bs,setCells (aW phs grs cf ds rs L 0 0 0 0 0 (pad 0 []) 0 0).cells 115 [aF Bs.cells (some (L++[a]))]=(aW phs grs cf ds rs (L++[a]) 0 0 0 0 0 (pad 0 []) 0 0).cells:=fun a=>by
                  rw [ln.wF (some (L++[a]))]; simp [aW,bf]
                have hatr:(aW phs grs cf ds rs L 0 0 0 0 0 (pad 0 []) 0 0).bl=bf L:=rfl
                rw [hatr] at hat
                simp only [aN,List.map_append,List.map_cons,List.map_nil] at hset
                cases L with
                | nil =>
                  simp only [List.map_nil,List.nil_append,bf,if_true,aS] at hset hat
                  have hw1:IntKind.i64.wrap 1=1:=by decide
                  try simp only [I,B,D,RY,↓ KW,seval,bf,bE,List.length_nil]
                  refine aq (fun h=>?_) (fun h=>?_)<;>try simp only [I,B,D,RY,↓ KW,seval,hat,h]
                  · have h3:0 < N4:=by have:=of_decide_eq_true h; simpa using this
                    obtain ⟨x1,q1,ea1,ka1,_,ca1⟩:=oo hN hq 1 255 (by decide) (by decide) (by decide)
                    obtain ⟨x2,q',ea2,ka,ca2⟩:=nB.step hT ka1
                    obtain ⟨a,ha⟩:∃ a:Bs,a=⟨x1,x2⟩:=⟨_,rfl⟩
                    have ea:zR.m q=(a,q'):=by rw [ha]; simp only [zR,Cd.map,Cd.seq,jN,ea1,ea2]
                    have hset:=hset a
                    have hac:a.cells=[I x1,I x2]:=by rw [ha]; rfl
                    rw [hac] at hset
                    have hb1:setCells [.int .i64 0,.int .i64 0] 0 [AV.int .i64 x1]=[AV.int .i64 x1,.int .i64 0]:=rfl
                    have hb2:setCells [AV.int .i64 x1,.int .i64 0] 1 [AV.int .i64 x2]=[AV.int .i64 x1,AV.int .i64 x2]:=rfl
                    refine ⟨rfl,ax ca1 ?_⟩
                    try simp only [I,B,D,RY,↓ KW,seval,hb1]
                    refine ⟨rfl,ax ca2 ?_⟩
                    obtain ⟨tl',e',h1'⟩:=iY h1 ea h3
                    try simp only [I,B,D,RY,↓ KW,seval,hset,hat,hln,aP,bZ,Bs.len',hb1,hb2]
                    repeat (refine And.intro (by first | omega | (simp at h3 ⊢; omega)) ?_)
                    try simp only [I,B,D,RY,↓ KW,seval,hset,hat,hln,aP,bZ,Bs.len',hb1,hb2]
                    refine back ([a],q') _ ⟨by simp at h3 ⊢; omega,ka,tl',by simpa using e',by rw [← h2,h1']; simp⟩ (by simp at h3 ⊢; omega) ?_
                    refine ah (by decide) ?_ ?_ ?_ ?_<;>simp [LX,I,B,D,hset,hw1,bf,aP]
                  · have h3:0=N4:=by have:=of_decide_eq_false h; omega
                    obtain ⟨h4,h5⟩:=kD h1 h3
                    rw [h4,List.append_nil] at h2
                    refine bP () trivial ?_
                    refine ah (by decide) ?_ ?_ ?_ ?_<;>simp [LX,I,B,D,h5,← h2,bf]
                | cons y ys =>
                  simp only [bf,reduceCtorEq,if_false,aN] at hset hat
                  have hw1:IntKind.i64.wrap ((ys.length:Int) + 1 + 1)=(ys.length:Int) + 1 + 1:=br (by omega) (by simp only [List.length_cons] at hL; omega)
                  try simp only [I,B,D,RY,↓ KW,seval,bf,bE]
                  refine aq (fun h=>?_) (fun h=>?_)<;>try simp only [I,B,D,RY,↓ KW,seval,hat,h]
                  · have h3:(y :: ys).length < N4:=by have:=of_decide_eq_true h; simp only [List.length_cons] at this ⊢; omega
                    obtain ⟨x1,q1,ea1,ka1,_,ca1⟩:=oo hN hq 1 255 (by decide) (by decide) (by decide)
                    obtain ⟨x2,q',ea2,ka,ca2⟩:=nB.step hT ka1
                    obtain ⟨a,ha⟩:∃ a:Bs,a=⟨x1,x2⟩:=⟨_,rfl⟩
                    have ea:zR.m q=(a,q'):=by rw [ha]; simp only [zR,Cd.map,Cd.seq,jN,ea1,ea2]
                    have hset:=hset a
                    have hac:a.cells=[I x1,I x2]:=by rw [ha]; rfl
                    rw [hac] at hset
                    have hb1:setCells [.int .i64 0,.int .i64 0] 0 [AV.int .i64 x1]=[AV.int .i64 x1,.int .i64 0]:=rfl
                    have hb2:setCells [AV.int .i64 x1,.int .i64 0] 1 [AV.int .i64 x2]=[AV.int .i64 x1,AV.int .i64 x2]:=rfl
                    refine ⟨rfl,ax ca1 ?_⟩
                    try simp only [I,B,D,RY,↓ KW,seval,hb1]
                    refine ⟨rfl,ax ca2 ?_⟩
                    obtain ⟨tl',e',h1'⟩:=iY h1 ea h3
                    try simp only [I,B,D,RY,↓ KW,seval,hset,hat,hln,aP,bZ,Bs.len',hb1,hb2]
                    repeat (refine And.intro (by first | omega | (simp at h3 ⊢; omega)) ?_)
                    try simp only [I,B,D,RY,↓ KW,seval,hset,hat,hln,aP,bZ,Bs.len',hb1,hb2]
                    refine back ((y :: ys)++[a],q') _ ⟨by simp at h3 ⊢; omega,ka,tl',by simpa using e',by rw [← h2,h1']; simp⟩ (by simp at h3 ⊢; omega) ?_
                    refine ah (by decide) ?_ ?_ ?_ ?_<;>simp [LX,I,B,D,hset,hw1,bf,aP]
                  · have h3:(y :: ys).length=N4:=by have:=of_decide_eq_false h; simp only [List.length_cons] at this hL ⊢; omega
                    obtain ⟨h4,h5⟩:=kD h1 h3
                    rw [h4,List.append_nil] at h2
                    refine bP () trivial ?_
                    refine ah (by decide) ?_ ?_ ?_ ?_<;>simp [LX,I,B,D,h5,← h2,bf]
              · refine ah (by decide) ?_ ?_ ?_ ?_<;>simp [LX,I,B,D,bf,bE,z0]
            · intro _ _
              try simp only [I,B,D,RY,↓ KW,seval]
              have ln0:(aW phs grs cf ds rs bs 0 0 0 0 0 (pad 0 []) 0 0).Ln:=cK l1 l4 p0
              have hs0:setCells (aW phs grs cf ds rs bs 0 0 0 0 0 (pad 0 []) 0 0).cells 116 [I a0]=(aW phs grs cf ds rs bs a0 0 0 0 0 (pad 0 []) 0 0).cells:=(ln0.fy a0).1
              have hl0:=ln0.len
              refine ⟨rfl,ax ca0 ?_⟩
              try simp only [I,B,D,RY,↓ KW,seval,hs0,hl0]
              have ln1:(aW phs grs cf ds rs bs a0 0 0 0 0 (pad 0 []) 0 0).Ln:=cK l1 l4 p0
              have hs1:setCells (aW phs grs cf ds rs bs a0 0 0 0 0 (pad 0 []) 0 0).cells 117 [I a1]=(aW phs grs cf ds rs bs a0 a1 0 0 0 (pad 0 []) 0 0).cells:=(ln1.fy a1).2.1
              have hl1:=ln1.len
              refine ⟨rfl,ax ca1 ?_⟩
              try simp only [I,B,D,RY,↓ KW,seval,hs1,hl1]
              have ln2:(aW phs grs cf ds rs bs a0 a1 0 0 0 (pad 0 []) 0 0).Ln:=cK l1 l4 p0
              have hs2:setCells (aW phs grs cf ds rs bs a0 a1 0 0 0 (pad 0 []) 0 0).cells 118 [I a2]=(aW phs grs cf ds rs bs a0 a1 a2 0 0 (pad 0 []) 0 0).cells:=(ln2.fy a2).2.2.1
              have hl2:=ln2.len
              refine ⟨rfl,ax ca2 ?_⟩
              try simp only [I,B,D,RY,↓ KW,seval,hs2,hl2]
              have ln3:(aW phs grs cf ds rs bs a0 a1 a2 0 0 (pad 0 []) 0 0).Ln:=cK l1 l4 p0
              have hs3:setCells (aW phs grs cf ds rs bs a0 a1 a2 0 0 (pad 0 []) 0 0).cells 119 [I a3]=(aW phs grs cf ds rs bs a0 a1 a2 a3 0 (pad 0 []) 0 0).cells:=(ln3.fy a3).2.2.2.1
              have hl3:=ln3.len
              refine ⟨rfl,ax ca3 ?_⟩
              try simp only [I,B,D,RY,↓ KW,seval,hs3,hl3]
              have ln4:(aW phs grs cf ds rs bs a0 a1 a2 a3 0 (pad 0 []) 0 0).Ln:=cK l1 l4 p0
              have hs4:setCells (aW phs grs cf ds rs bs a0 a1 a2 a3 0 (pad 0 []) 0 0).cells 120 [I a4]=(aW phs grs cf ds rs bs a0 a1 a2 a3 a4 (pad 0 []) 0 0).cells:=(ln4.fy a4).2.2.2.2
              have hl4:=ln4.len
              refine ⟨rfl,ax ca4 ?_⟩
              try simp only [I,B,D,RY,↓ KW,seval,hs4,hl4]
              clear ln0 hs0 hl0 ln1 hs1 hl1 ln2 hs2 hl2 ln3 hs3 hl3 ln4 hs4 hl4
              refine fe (.exit 12) (fun _:Unit=>(⟨[(3,.ptr 5 0),(2,.ptr 4 0),(0,.ptr 0 0)],[(5,⟨(aW phs grs cf ds rs bs a0 a1 a2 a3 a4 fl 0 0).cells,[]⟩),(4,⟨cv.cells,[]⟩),(0,⟨r16.cells,[]⟩)],[],400⟩:S)) (fun _=>True) (fun _=>rfl) ?_ ?_
              · refine aI (fun x:List Int × aU=>(⟨[(14,.dat (I x.1.length) none),(3,.ptr 5 0),(2,.ptr 4 0),(0,.ptr 0 0)],[(5,⟨(aW phs grs cf ds rs bs a0 a1 a2 a3 a4 (pad 0 x.1) 0 0).cells,[]⟩),(4,⟨cv.cells,[]⟩),(0,⟨x.2.cells,[]⟩)],[],400⟩:S)) (fun x=>8 - x.1.length) (fun x=>x.1.length≤8∧x.2.Ok∧∃ tl,((cu 2 (by decide)).rep (8 - x.1.length)).m x.2=(tl,r16)∧x.1++tl=fl) ?_ ([],r15) ⟨by simp,k15,_,e16,rfl⟩ ?_
                · intro x hx A back
                  obtain ⟨L,q⟩:=x
                  obtain ⟨hL,hq,tl,h1,h2⟩:=hx
                  simp only at hL hq h1 h2
                  have ln:(aW phs grs cf ds rs bs a0 a1 a2 a3 a4 (pad 0 L) 0 0).Ln:=cK l1 l4 (sQ hL)
                  have hln:=ln.len
                  have hw:=aG (k:=L.length) (by omega)
                  try simp only [I,B,D,RY,↓ KW,seval]
                  refine aq (fun h=>?_) (fun h=>?_)<;>try simp only [I,B,D,RY,↓ KW,seval,h]
                  · have h3:L.length < 8:=by have:=of_decide_eq_true h; omega
                    obtain ⟨a,q',ea,ka,_,ca⟩:=oo hN hq 1 2 (by decide) (by decide) (by decide)
                    obtain ⟨tl',e',h1'⟩:=iY h1 ea h3
                    have hs:setCells (aW phs grs cf ds rs bs a0 a1 a2 a3 a4 (pad 0 L) 0 0).cells (121 + L.length) [I a]=(aW phs grs cf ds rs bs a0 a1 a2 a3 a4 (pad 0 (L++[a])) 0 0).cells:=by
                      rw [ln.sI h3 a]; simp only [aW,sR h3]
                    refine ⟨rfl,ax ca ?_⟩
                    try simp only [I,B,D,RY,↓ KW,seval,hs,Ph.len]
                    repeat (refine And.intro (by first | omega | (simp; omega)) ?_)
                    try simp only [I,B,D,RY,↓ KW,seval,hs,Ph.len]
                    refine back (L++[a],q') _ ⟨by show (L++[a]).length≤8; simp; omega,ka,tl',by rw [List.length_append]; exact e',by rw [← h2,h1']; simp⟩ (by show 8 - (L++[a]).length < 8 - L.length; simp; omega) ?_
                    refine ah (by decide) ?_ ?_ ?_ ?_<;>simp [LX,I,B,D,hs,hw,List.length_append]
                  · have h3:L.length=8:=by have:=of_decide_eq_false h; omega
                    obtain ⟨h4,h5⟩:=kD h1 h3
                    rw [h4,List.append_nil] at h2
                    refine bP () trivial ?_
                    refine ah (by decide) ?_ ?_ ?_ ?_<;>simp [LX,I,B,D,h5,← h2,sP h3]
                · refine ah (by decide) ?_ ?_ ?_ ?_<;>simp [LX,I,B,D,z0]
              · intro _ _
                have ln:(aW phs grs cf ds rs bs a0 a1 a2 a3 a4 fl 0 0).Ln:=cK l1 l4 l16
                have hs:setCells (aW phs grs cf ds rs bs a0 a1 a2 a3 a4 fl 0 0).cells 129 [I w]=(aW phs grs cf ds rs bs a0 a1 a2 a3 a4 fl w 0).cells:=(ln.oO w).1
                have hl:=ln.len
                have ln':(aW phs grs cf ds rs bs a0 a1 a2 a3 a4 fl w 0).Ln:=cK l1 l4 l16
                have hs':setCells (aW phs grs cf ds rs bs a0 a1 a2 a3 a4 fl w 0).cells 130 [I s]=(aW phs grs cf ds rs bs a0 a1 a2 a3 a4 fl w s).cells:=(ln'.oO s).2
                have hl':=ln'.len
                have ln2:(aW phs grs cf ds rs bs a0 a1 a2 a3 a4 fl w s).Ln:=cK l1 l4 l16
                have hl2:=ln2.len
                have hw2:=ln2.whole
                have hz:setCells cv.cells 0 (aW phs grs cf ds rs bs a0 a1 a2 a3 a4 fl w s).cells=(aW phs grs cf ds rs bs a0 a1 a2 a3 a4 fl w s).cells:=dW (by rw [hl2]; rfl)
                have hz0:cv.cells.length=131:=rfl
                try simp only [I,B,D,RY,↓ KW,seval]
                refine ⟨rfl,ax cw ?_⟩
                try simp only [I,B,D,RY,↓ KW,seval,hs,hl]
                refine ⟨rfl,ax cs ?_⟩
                try simp only [I,B,D,RY,↓ KW,seval,hs',hl',hw2,hl2,hz,hz0]
end
abbrev W:=BitVec 16
def ql:W:=0x1021#16
def DJ(c:W):W:=if c.msb then c<<<1^^^ql else c<<<1
def x9:Nat->W->W
 |0,c=>c
 |n+1,c=>x9 n (DJ c)
theorem F0(a b:W):DJ (a^^^b)=DJ a^^^DJ b:=by
 unfold DJ;rw[BitVec.msb_xor,BitVec.shiftLeft_xor_distrib]
 cases a.msb<;>cases b.msb<;>simp
 ·rw[BitVec.xor_assoc]
 ·rw[BitVec.xor_assoc,BitVec.xor_assoc,BitVec.xor_comm ql (b<<<1)]
 ·rw[BitVec.xor_assoc (a<<<1),BitVec.xor_comm ql (b<<<1^^^ql),BitVec.xor_assoc (b<<<1),BitVec.xor_self,BitVec.xor_zero]
theorem F1:∀(n:Nat) (a b:W),x9 n (a^^^b)=x9 n a^^^x9 n b
 |0,_,_=>rfl
 |n+1,a,b=>by rw[x9,F0,F1 n];rfl
theorem Cc:∀(n m:Nat) (c:W),x9 (n+m) c=x9 m (x9 n c)
 |0,m,c=>by rw[Nat.zero_add];rfl
 |n+1,m,c=>by rw[show n+1+m=(n+m)+1 by omega];exact Cc n m (DJ c)
theorem F2:∀(n:Nat) (c:W),c.toNat<2^(16-n)->n<=16->x9 n c=c<<<n
 |0,c,_,_=>by simp[x9]
 |n+1,c,h,hn=>by
  have h2:2^(16-n)=2*2^(16-(n+1)):=by rw[<-Nat.pow_succ'];congr 1;omega
  have h3:(2:Nat)^(16-n)<=2^16:=Nat.pow_le_pow_right (by omega) (by omega)
  have hm:c.msb=false:=by
   rw[BitVec.msb_eq_decide];simp only[decide_eq_false_iff_not];omega
  have e:DJ c=c<<<1:=by unfold DJ;rw[hm];rfl
  have ht:(c<<<1).toNat=2*c.toNat:=by rw[BitVec.toNat_shiftLeft,Nat.shiftLeft_eq,Nat.mod_eq_of_lt (by omega)];omega
  rw[x9,e,F2 n (c<<<1) (by rw[ht];omega) (by omega),<-BitVec.shiftLeft_add,Nat.add_comm]
def DK(i:Nat):W:=x9 4 (BitVec.ofNat 16 (i*4096))
theorem four(c:W):x9 4 c=c<<<4^^^DK (c>>>12).toNat:=by
 have e:c=(c&&&0x0fff#16)^^^BitVec.ofNat 16 ((c>>>12).toNat*4096):=by
  have h:BitVec.ofNat 16 ((c>>>12).toNat*4096)=(c>>>12)<<<12:=by
   apply BitVec.eq_of_toNat_eq
   rw[BitVec.toNat_ofNat,BitVec.toNat_shiftLeft,Nat.shiftLeft_eq]
  rw[h]
  ext i hi
  have hi16:i=0\/i=1\/i=2\/i=3\/i=4\/i=5\/i=6\/i=7\/i=8\/i=9\/i=10\/i=11\/i=12\/i=13\/i=14\/i=15:=by omega
  rcases hi16 with rfl|rfl|rfl|rfl|rfl|rfl|rfl|rfl|rfl|rfl|rfl|rfl|rfl|rfl|rfl|rfl<;>simp
 have h1:x9 4 (c&&&0x0fff#16)=(c&&&0x0fff#16)<<<4:=by
  refine F2 4 _ ?_ (by omega)
  have:(c&&&0x0fff#16).toNat<=4095:=by rw[BitVec.toNat_and];exact Nat.and_le_right
  omega
 have h2:(c&&&0x0fff#16)<<<4=c<<<4:=by
  ext i hi
  have hi16:i=0\/i=1\/i=2\/i=3\/i=4\/i=5\/i=6\/i=7\/i=8\/i=9\/i=10\/i=11\/i=12\/i=13\/i=14\/i=15:=by omega
  rcases hi16 with rfl|rfl|rfl|rfl|rfl|rfl|rfl|rfl|rfl|rfl|rfl|rfl|rfl|rfl|rfl|rfl<;>simp
 conv=>lhs;rw[e]
 rw[F1,h1,h2];rfl
def Hj(c:W) (x:Nat):W:=x9 8 (c^^^BitVec.ofNat 16 x<<<8)
theorem Hl(c:W) (x:Nat):Hj c x=(let d:=c^^^BitVec.ofNat 16 x<<<8;let e:=d<<<4^^^DK (d>>>12).toNat;e<<<4^^^DK (e>>>12).toNat):=by
 simp only[Hj]
 rw[show 8=4+4 from rfl,Cc,four,four]
def rW(c:W) (b:Bool):W:=if c.msb !=b then c<<<1^^^ql else c<<<1
def DL:Nat->W->Nat->W
 |0,c,_=>c
 |n+1,c,x=>DL n (rW c (x.testBit n)) x
theorem Ho(c:W) (b:Bool):rW c b=DJ (c^^^(if b then 0x8000#16 else 0)):=by
 unfold rW DJ
 cases b with
 |false=>simp
 |true=>
  have:((c^^^0x8000#16)<<<1:W)=c<<<1:=by
   rw[BitVec.shiftLeft_xor_distrib];simp
  simp only[if_true,BitVec.msb_xor,this]
  have:(0x8000#16:W).msb=true:=by decide
  rw[this]
def mh(n x:Nat):W:=BitVec.ofNat 16 (x%2^n)<<<(16-n)
theorem Nv(x:Nat):mh 0 x=0:=by simp[mh,Nat.mod_one]
theorem wN(n x i:Nat) (hn:n<=8) (hi:i<16):(mh n x)[i]=(decide (16-n<=i)&&x.testBit (i-(16-n))):=by
 unfold mh
 have h8:2^n<=2^8:=Nat.pow_le_pow_right (by omega) hn
 have hx:x%2^n<2^n:=Nat.mod_lt _ (Nat.two_pow_pos n)
 rw[BitVec.getElem_shiftLeft,BitVec.getElem_eq_testBit_toNat,BitVec.toNat_ofNat,Nat.mod_eq_of_lt (show x%2^n<2^16 by omega),Nat.testBit_mod_two_pow]
 by_cases h:i<16-n
 ·simp[h];omega
 ·have h2:i-(16-n)<n:=by omega
  simp[h,h2];omega
theorem E0(n x:Nat) (hn:n<8):mh (n+1) x=(if x.testBit n then 0x8000#16 else 0)^^^mh n x>>>1:=by
 ext i hi
 rw[wN (n+1) x i (by omega) hi,BitVec.getElem_xor,BitVec.getElem_ushiftRight]
 by_cases h15:i=15
 ·subst h15
  have e1:(mh n x).getLsbD (1+15)=false:=BitVec.getLsbD_of_ge _ _ (by omega)
  rw[e1,show 15-(16-(n+1))=n by omega]
  cases x.testBit n<;>simp<;>omega
 ·have e1:(mh n x).getLsbD (1+i)=(mh n x)[1+i]'(by omega):=BitVec.getLsbD_eq_getElem (by omega)
  have e2:((if x.testBit n then 0x8000#16 else 0):W)[i]=false:=by
   cases x.testBit n
   ·simp
   ·show(0x8000#16:W)[i]=false
    have hi16:i=0\/i=1\/i=2\/i=3\/i=4\/i=5\/i=6\/i=7\/i=8\/i=9\/i=10\/i=11\/i=12\/i=13\/i=14:=by omega
    rcases hi16 with rfl|rfl|rfl|rfl|rfl|rfl|rfl|rfl|rfl|rfl|rfl|rfl|rfl|rfl|rfl<;>simp
  rw[e1,e2,wN n x (1+i) (by omega) (by omega),Bool.false_xor]
  rw[show i-(16-(n+1))=1+i-(16-n)by omega]
  congr 1
  simp;omega
theorem E1(n x:Nat) (hn:n<8):DJ (mh n x>>>1)=mh n x:=by
 have hm:(mh n x>>>1).msb=false:=by
  rw[BitVec.msb_eq_getLsbD_last];simp
 unfold DJ;rw[hm]
 show(mh n x>>>1)<<<1=_
 ext i hi
 rw[BitVec.getElem_shiftLeft]
 by_cases h0:i<1
 ·have:i=0:=by omega
  subst this
  rw[wN n x 0 (by omega) (by omega)]
  simp;omega
 ·simp only[h0,decide_false,Bool.not_false,Bool.true_and]
  rw[BitVec.getElem_ushiftRight,show 1+(i-1)=i by omega,BitVec.getLsbD_eq_getElem (by omega)]
theorem Kb:∀(n:Nat) (c:W) (x:Nat),n<=8->DL n c x=x9 n (c^^^mh n x)
 |0,c,x,_=>by rw[Nv];simp[DL,x9]
 |n+1,c,x,h=>by
  rw[DL,Kb n _ x (by omega),E0 n x (by omega),x9,Ho,<-BitVec.xor_assoc,F0 _ (mh n x>>>1),E1 n x (by omega)]
theorem Nw(c:W) (x:Nat) (hx:x<256):DL 8 c x=Hj c x:=by
 rw[Kb 8 c x (by omega)]
 unfold Hj mh
 rw[Nat.mod_eq_of_lt (show x<2^8 by omega)]
def iw(c:W) (l:List Int):W:=l.foldl (fun c x=>Hj c x.toNat) c
def U(w:W):AV:=.int .u16 (w.toNat:Int)
theorem rX(n:Int):IntKind.u16.wrap n=n%65536:=rfl
theorem ya(w:W):BitVec.ofInt 16 (w.toNat:Int)=w:=by
 apply BitVec.eq_of_toNat_eq
 rw[BitVec.toNat_ofInt]
 have:=w.isLt
 omega
theorem Kc(w:W):IntKind.u16.wrap (w.toNat:Int)=w.toNat:=by rw[rX];have:=w.isLt;omega
theorem F3(a b:W):IX .u16 (a.toNat:Int) (b.toNat:Int)=((a^^^b).toNat:Int):=by
 show IntKind.u16.wrap ((BitVec.ofInt 16 (a.toNat:Int)^^^BitVec.ofInt 16 (b.toNat:Int)).toNat:Int)=_
 rw[ya,ya,Kc]
theorem VA(a b:W):oa .u16 (a.toNat:Int) (b.toNat:Int)=((a&&&b).toNat:Int):=by
 show IntKind.u16.wrap ((BitVec.ofInt 16 (a.toNat:Int)&&&BitVec.ofInt 16 (b.toNat:Int)).toNat:Int)=_
 rw[ya,ya,Kc]
theorem F4(w:W) (k:Nat):IntKind.u16.wrap ((w.toNat:Int)*2^k)=((w<<<k).toNat:Int):=by
 rw[rX,BitVec.toNat_shiftLeft,Nat.shiftLeft_eq];simp
theorem VB(n:Nat) (h:n<65536):((BitVec.ofNat 16 n:W).toNat:Int)=n:=by rw[BitVec.toNat_ofNat];omega
def jc:List AV:=(List.range 16).map fun i=>U (DK i)
def jc.Spec(C:bz) (f:Nat):Prop:=C.c f [] (.agg Go.Eng.jc) none
def wO.Spec(C:bz) (f:Nat):Prop:=∀(c:W) (b:Option (List Int)),(b.getD []).length<=1000000->sM (b.getD [])->C.c f [U c,aF gk b] (U (iw c (b.getD []))) none
def Bc.Spec(C:bz) (f:Nat):Prop:=∀b:Option (List Int),(b.getD []).length<=1000000->sM (b.getD [])->C.c f [aF gk b] (U (iw 0xffff#16 (b.getD []))) none
def Hp.Spec(C:bz) (f:Nat):Prop:=wO.Spec C f
theorem Rm(w:W):(((w&&&0x8000#16).toNat:Int) !=0)=w.msb:=by
 have e:w&&&0x8000#16=if w.msb then 0x8000#16 else 0#16:=by
  rw[BitVec.msb_eq_getLsbD_last]
  ext i hi
  rw[BitVec.getElem_and]
  by_cases h:i=15
  ·subst h
   have:w[15]=w.getLsbD (16-1):=(BitVec.getLsbD_eq_getElem (by omega)).symm
   rw[this]
   cases w.getLsbD (16-1)<;>simp
  ·have e2:(0x8000#16:W)[i]=false:=by
    have hi16:i=0\/i=1\/i=2\/i=3\/i=4\/i=5\/i=6\/i=7\/i=8\/i=9\/i=10\/i=11\/i=12\/i=13\/i=14:=by omega
    rcases hi16 with rfl|rfl|rfl|rfl|rfl|rfl|rfl|rfl|rfl|rfl|rfl|rfl|rfl|rfl|rfl<;>simp
   rw[e2]
   cases w.getLsbD (16-1)<;>simp[e2]
 rw[e]
 cases w.msb<;>rfl
theorem Ke(n:Nat) (c:W):x9 (n+1) c=DJ (x9 n c):=Cc n 1 c
def dM(k:Nat):List AV:=(List.range k).map (fun i=>U (DK i))++List.replicate (16-k) (.int .u16 0)
theorem Ce{k:Nat} (h:k<=16):(dM k).length=16:=by simp[dM];omega
theorem Cf{k:Nat} (h:k<16):setCells (dM k) k [U (DK k)]=dM (k+1):=by
 have e:List.replicate (16-k) (AV.int .u16 0)=.int .u16 0::List.replicate (16-(k+1)) (.int .u16 0):=by rw[show 16-k=(16-(k+1))+1 by omega];rfl
 unfold dM setCells;rw[e]
 have hl:((List.range k).map fun i=>U (DK i)).length=k:=by simp
 rw[List.take_left' hl];rw[List.range_succ,List.map_append];simp[List.drop_append,hl]
theorem Kf(c:W):(c.toNat:Int).fdiv 32768=if c.msb then 1 else 0:=by
 have h:=c.isLt
 rw[Int.fdiv_eq_ediv_of_nonneg _ (by decide),BitVec.msb_eq_decide]
 by_cases h2:2^(16-1)<=c.toNat
 ·simp only[h2,decide_true,if_true];simp at h2;omega
 ·simp only[h2,decide_false,Bool.false_eq_true,if_false];simp at h2;omega
theorem W9{y:Int} (h0:0<=y) (h:y<256):oa .u8 y 1=y%2:=by
 obtain⟨n,rfl⟩:∃n:Nat,y=n:=⟨y.toNat,by omega⟩
 show IntKind.u8.wrap ((BitVec.ofInt 8 (n:Int)&&&BitVec.ofInt 8 1).toNat:Int)=_
 have e:(BitVec.ofInt 8 (n:Int)&&&BitVec.ofInt 8 1).toNat=n%2:=by
  rw[BitVec.toNat_and,BitVec.toNat_ofInt]
  have e1:(BitVec.ofInt 8 1).toNat=1:=rfl
  rw[e1,Nat.and_one_is_mod];omega
 rw[e,FP];omega
theorem Rp(c:W) {x:Int} (h0:0<=x) (h:x<256) (k:Nat) (hk:k<8):((c.toNat:Int).fdiv (2^min 15 IntKind.u16.bits) !=IntKind.u16.wrap (oa .u8 (x.fdiv (2^min k IntKind.u8.bits)) 1))=(c.msb !=x.toNat.testBit k):=by
 obtain⟨n,rfl⟩:∃n:Nat,x=n:=⟨x.toNat,by omega⟩
 have e0:min k IntKind.u8.bits=k:=by show min k 8=k;omega
 have e1:(2:Int)^min 15 IntKind.u16.bits=32768:=rfl
 have e2:(n:Int).fdiv (2^k)=((n/2^k:Nat):Int):=by
  rw[Int.fdiv_eq_ediv_of_nonneg _ (Int.le_of_lt (Int.pow_pos (by decide)))];simp
 have e3:n/2^k<=n:=Nat.div_le_self _ _
 rw[e0,e1,Kf,e2,Int.toNat_natCast,Nat.testBit_eq_decide_div_mod_eq];generalize n/2^k=q at*
 rw[W9 (by omega) (by omega)]
 have e4:q%2=0\/q%2=1:=by omega
 have e5:((q:Int)%2)=((q%2:Nat):Int):=by omega
 rw[e5]
 rcases e4 with e|e<;>rw[e]<;>cases c.msb<;>rfl
theorem Bd{c:W} {l:List Int} {i:Nat} {x:Int} (h:l[i]? =some x):iw c (l.take (i+1))=Hj (iw c (l.take i)) x.toNat:=by
 rw[List.take_add_one,h];simp[iw]
section
variable{P:Program} (hm:P.follows .mixedOrders=true) {f:Nat}
include hm
theorem jc.ok(hc:cZ P f=some xD):jc.Spec (Pure P) f:=by
 show(Pure P).c f _ _ none
 have z0:mL=dM 0:=rfl
 refine aC hm hc (by show 0<=26;decide) (ay (keep:=[]) (i:=0) ?_)
 try simp only[I,B,D,RY,↓KW,seval,xD,Z.H,z0]
 refine aI (fun k:Nat=>(⟨[(4,.dat (I k) none),(1,.ptr 5 0),(0,.ptr 4 0)],[(5,⟨dM k,[]⟩),(4,⟨dM 0,[]⟩)],[],400⟩:S)) (fun k=>16-k) (fun k=>k<=16) ?_ 0 (by omega) ?_
 ·intro k hk A back
  have hw:=aG (k:=k) (by omega)
  try simp only[I,B,D,RY,↓KW,seval]
  refine aq (fun h=>?_) (fun h=>?_)<;>try simp only[I,B,D,RY,↓KW,seval,h]
  ·have h3:k<16:=by have:=of_decide_eq_true h;omega
   have hl:=Ce hk
   have e1:IntKind.u16.wrap (k:Int)=k:=by rw[rX];omega
   have e2:IntKind.u16.wrap ((k:Int)*2^min 12 IntKind.u16.bits)=((x9 0 (BitVec.ofNat 16 (k*4096))).toNat:Int):=by
    show IntKind.u16.wrap ((k:Int)*4096)=((BitVec.ofNat 16 (k*4096):W).toNat:Int)
    rw[rX,VB _ (by omega)];omega
   try simp only[I,B,D,RY,↓KW,seval,e1,e2]
   refine aI (fun j:Nat=>(⟨[(10,.dat (I j) none),(3,.dat (U (x9 j (BitVec.ofNat 16 (k*4096)))) none),(2,.dat (I k) none),(4,.dat (I k) none),(1,.ptr 5 0),(0,.ptr 4 0)],[(5,⟨dM k,[]⟩),(4,⟨dM 0,[]⟩)],[],400⟩:S)) (fun j=>4-j) (fun j=>j<=4) ?_ 0 (by omega) ?_
   ·intro j hj A2 back2
    have hw2:=aG (k:=j) (by omega)
    try simp only[I,B,D,RY,↓KW,seval,U]
    refine aq (fun h2=>?_) (fun h2=>?_)<;>try simp only[I,B,D,RY,↓KW,seval,h2]
    ·have h4:j<4:=by have:=of_decide_eq_true h2;omega
     have hn:=Ke j (BitVec.ofNat 16 (k*4096))
     generalize x9 j (BitVec.ofNat 16 (k*4096))=w at*
     have f1:oa .u16 (w.toNat:Int) 32768=((w&&&0x8000#16).toNat:Int):=VA w 0x8000#16
     have f2:=Rm w
     have f3:IntKind.u16.wrap ((w.toNat:Int)*2^min 1 IntKind.u16.bits)=((w<<<1).toNat:Int):=F4 w 1
     have f4:IX .u16 ((w<<<1).toNat:Int) 4129=((w<<<1^^^ql).toNat:Int):=F3 (w<<<1) ql
     try simp only[I,B,D,RY,↓KW,seval,f1,f2,U]
     refine aq (fun h5=>?_) (fun h5=>?_)<;>try simp only[I,B,D,RY,↓KW,seval,h5]
     ·have f5:DJ w=w<<<1^^^ql:=by unfold DJ;rw[h5];rfl
      try simp only[I,B,D,RY,↓KW,seval,f3,f4]
      refine back2 (j+1) _ (by omega) (by omega) (ah (by decide) ?_ ?_ ?_ ?_)<;>simp[LX,I,B,D,hw2,hn,f5,U]
     ·have f5:DJ w=w<<<1:=by unfold DJ;rw[h5];rfl
      try simp only[I,B,D,RY,↓KW,seval,f3,f4]
      refine back2 (j+1) _ (by omega) (by omega) (ah (by decide) ?_ ?_ ?_ ?_)<;>simp[LX,I,B,D,hw2,hn,f5,U]
    ·have h4:j=4:=by have:=of_decide_eq_false h2;omega
     subst h4
     have hs:setCells (dM k) k [AV.int .u16 ((x9 4 (BitVec.ofNat 16 (k*4096))).toNat:Int)]=dM (k+1):=Cf h3
     try simp only[I,B,D,RY,↓KW,seval,hl]
     repeat(refine And.intro (by omega) ?_)
     try simp only[I,B,D,RY,↓KW,seval,hl,hs]
     refine back (k+1) _ (by omega) (by omega) (ah (by decide) ?_ ?_ ?_ ?_)<;>simp[LX,I,B,D,hw,hs]
   ·refine ah (by decide) ?_ ?_ ?_ ?_<;>simp[LX,I,B,D,U]
  ·have h3:k=16:=by have:=of_decide_eq_false h;omega
   subst h3
   have w1:bG (dM 16) 0 (some 16)=some (.agg (dM 16)):=rfl
   have w2:(dM 16).length=16:=rfl
   have w3:setCells (dM 0) 0 (dM 16)=dM 16:=dW rfl
   have w4:(dM 0).length=16:=rfl
   show _
   try simp only[I,B,D,RY,↓KW,seval,w1,w2,w3,w4]
   rfl
 ·refine ah (by decide) ?_ ?_ ?_ ?_<;>simp[LX,I,B,D]
theorem Hp.ok (hc:cZ P f=some vE):Hp.Spec (Pure P) f:=by
  intro c b hb hB
  obtain ⟨l,hl⟩:∃ l,l=b.getD []:=⟨_,rfl⟩
  rw [← hl] at hb hB ⊢
  refine aC hm hc (by show 2≤36; decide) (ay (keep:=[]) (i:=0) ?_)
  try simp only [I,B,D,RX,↓ KW,seval,vE,Z.H,U]
  refine aI (fun i:Nat=>(⟨[(5,.dat (I i) none),(0,.dat (U (iw c (l.take i))) none),(1,.dat (aF gk b) none)],[],[],400⟩:S)) (fun i=>l.length - i) (fun i=>i≤l.length) ?_ 0 (by omega) ?_
  · intro i hi A back
    have hw:=aG (k:=i) (by omega)
    try simp only [I,B,D,RX,↓ KW,seval,← hl,U]
    refine aq (fun h=>?_) (fun h=>?_)<;>try simp only [I,B,D,RX,↓ KW,seval,h]
    · have h3:i < l.length:=by have:=of_decide_eq_true h; omega
      obtain ⟨x,hx⟩:∃ x,l[i]? = some x:=⟨l[i],by simp [h3]⟩
      have hxb:=hB x (List.mem_of_getElem? hx)
      have hn:=Bd (c:=c) hx
      have hi1:(0:Int)≤(i:Int):=by omega
      have hi2:(i:Int) < (l.length:Int):=by omega
      try simp only [I,B,D,RX,↓ KW,seval]
      refine aI (fun y:Nat × W=>(⟨[(6,.dat (I ((y.1:Int) - 1)) none),(0,.dat (U y.2) none),(5,.dat (I i) none),(1,.dat (aF gk b) none)],[],[],400⟩:S)) (fun y=>y.1) (fun y=>y.1≤8∧DL y.1 y.2 x.toNat=iw c (l.take (i + 1))) ?_ (8,iw c (l.take i)) ⟨by omega,by rw [Nw _ _ (by omega),hn]⟩ ?_
      · intro y hy A2 back2
        obtain ⟨n,w⟩:=y
        obtain ⟨hn8,hv⟩:=hy
        simp only at hn8 hv
        try simp only [I,B,D,RX,↓ KW,seval,U]
        refine aq (fun h2=>?_) (fun h2=>?_)<;>try simp only [I,B,D,RX,↓ KW,seval,h2]
        · obtain ⟨m,rfl⟩:∃ m,n=m + 1:=⟨n - 1,by have:=of_decide_eq_true h2; omega⟩
          have e1:((m + 1:Nat):Int) - 1=(m:Int):=by omega
          have e2:IntKind.u64.wrap (m:Int)=(m:Int):=Dq (by omega) (by omega)
          have e3:IntKind.i64.wrap ((m:Int) - 1)=(m:Int) - 1:=gm (by omega) (by omega)
          have hbit:=Rp w hxb.1 hxb.2 m (by omega)
          have f3:IntKind.u16.wrap ((w.toNat:Int) * 2 ^ min 1 IntKind.u16.bits)=((w <<< 1).toNat:Int):=F4 w 1
          have f4:IX .u16 ((w <<< 1).toNat:Int) 4129=((w <<< 1 ^^^ ql).toNat:Int):=F3 (w <<< 1) ql
          have hrn:DL (m + 1) w x.toNat=DL m (rW w (x.toNat.testBit m)) x.toNat:=rfl
          rw [hrn] at hv
          try simp only [I,B,D,RX,↓ KW,seval,e1,e2,← hl,hi1,hi2,hx,gk]
          repeat (refine And.intro (by omega) ?_)
          try simp only [I,B,D,RX,↓ KW,seval,e1,e2,← hl,hx,gk,hbit,f3,Int.toNat_natCast]
          repeat (refine And.intro (by omega) ?_)
          try simp only [I,B,D,RX,↓ KW,seval,hbit,f3]
          refine aq (fun h5=>?_) (fun h5=>?_)<;>try simp only [I,B,D,RX,↓ KW,seval,h5]
          · have f5:rW w (x.toNat.testBit m)=w <<< 1 ^^^ ql:=by unfold rW; rw [h5]; rfl
            rw [f5] at hv
            try simp only [I,B,D,RX,↓ KW,seval,f3,f4]
            generalize w <<< 1 ^^^ ql=w2 at *
            refine back2 (m,w2) _ ⟨by show m≤8; omega,hv⟩ (by show m < m + 1; omega) ?_
            refine ah (by decide) ?_ ?_ ?_ ?_<;>simp [LX,I,B,D,e3,U]
          · have f5:rW w (x.toNat.testBit m)=w <<< 1:=by unfold rW; rw [h5]; rfl
            rw [f5] at hv
            try simp only [I,B,D,RX,↓ KW,seval,f3]
            generalize w <<< 1=w2 at *
            refine back2 (m,w2) _ ⟨by show m≤8; omega,hv⟩ (by show m < m + 1; omega) ?_
            refine ah (by decide) ?_ ?_ ?_ ?_<;>simp [LX,I,B,D,e3,U]
        · have:n=0:=by have:=of_decide_eq_false h2; omega
          subst this
          have hv:w=iw c (l.take (i + 1)):=hv
          try simp only [I,B,D,RX,↓ KW,seval]
          refine back (i + 1) _ (by omega) (by omega) (ah (by decide) ?_ ?_ ?_ ?_)<;>simp [LX,I,B,D,hw,← hv,U]
      · refine ah (by decide) ?_ ?_ ?_ ?_<;>simp [LX,I,B,D,U]
    · have h3:i=l.length:=by have:=of_decide_eq_false h; omega
      subst h3
      try simp only [I,B,D,RX,↓ KW,seval,List.take_length]
  · refine ah (by decide) ?_ ?_ ?_ ?_<;>simp [LX,I,B,D,U,iw]
theorem wO.ok{fR:Nat} (hc:cZ P f=some (zU fR)) (hR:jc.Spec (Pure P) fR):wO.Spec (Pure P) f:=by
 intro c b hb hB
 obtain⟨l,hl⟩:∃l,l=b.getD []:=⟨_,rfl⟩
 rw[<-hl]at hb hB⊢
 have z0:mL.length=16:=rfl
 have z1:Go.Eng.jc.length=16:=rfl
 have z2:setCells mL 0 Go.Eng.jc=Go.Eng.jc:=dW rfl
 have dD:∀w:W,Go.Eng.jc[(w>>>12).toNat]? =some (U (DK (w>>>12).toNat)):=by
  intro w
  have:(w>>>12).toNat<16:=by rw[BitVec.toNat_ushiftRight,Nat.shiftRight_eq_div_pow];have:=w.isLt;omega
  rw[Go.Eng.jc,List.getElem?_map,List.getElem?_range this];rfl
 have shr:∀w:W,(w.toNat:Int).fdiv (2^min 12 IntKind.u16.bits)=((w>>>12).toNat:Int):=by
  intro w
  show(w.toNat:Int).fdiv 4096=_
  rw[Int.fdiv_eq_ediv_of_nonneg _ (by decide),BitVec.toNat_ushiftRight,Nat.shiftRight_eq_div_pow];rfl
 have lt16:∀w:W,((w>>>12).toNat:Int)<16:=by
  intro w
  rw[BitVec.toNat_ushiftRight,Nat.shiftRight_eq_div_pow];have:=w.isLt;omega
 have ge0:∀w:W,(0:Int)<=((w>>>12).toNat:Int):=fun w=>by omega
 have s4:∀w:W,IntKind.u16.wrap ((w.toNat:Int)*2^min 4 IntKind.u16.bits)=((w<<<4).toNat:Int):=fun w=>F4 w 4
 refine aC hm hc (by show 2<=36;decide) (ay (keep:=[]) (i:=0) ?_)
 try simp only[I,B,D,RY,↓KW,seval,zU,Z.H,U,z0]
 refine ai hR ?_;try simp only[I,B,D,RY,↓KW,seval,z0,z1,z2,<-hl,U]
 refine aI (fun i:Nat=>(⟨[(11,.dat (I i) none),(10,.dat (I l.length) none),(9,.dat (aF gk b) none),(5,.ptr 6 0),(0,.dat (U (iw c (l.take i))) none)],[(6,⟨Go.Eng.jc,[]⟩)],[],400⟩:S)) (fun i=>l.length-i) (fun i=>i<=l.length) ?_ 0 (by omega) ?_
 ·intro i hi A back
  have hw:=aG (k:=i) (by omega)
  try simp only[I,B,D,RY,↓KW,seval,<-hl,U]
  refine aq (fun h=>?_) (fun h=>?_)<;>try simp only[I,B,D,RY,↓KW,seval,h]
  ·have h3:i<l.length:=by have:=of_decide_eq_true h;omega
   obtain⟨x,hx⟩:∃x,l[i]? =some x:=⟨l[i],by simp[h3]⟩
   have hxb:=hB x (List.mem_of_getElem? hx)
   have hn:=Bd (c:=c) hx
   rw[Hl]at hn;generalize iw c (l.take i)=w at*
   have e1:IntKind.u16.wrap x=x:=by rw[rX];omega
   have e2:IntKind.u16.wrap (x*2^min 8 IntKind.u16.bits)=((BitVec.ofNat 16 x.toNat<<<8:W).toNat:Int):=by
    have:=F4 (BitVec.ofNat 16 x.toNat) 8
    rw[VB _ (by omega),show((x.toNat:Nat):Int)=x by omega]at this
    exact this
   refine⟨⟨by omega,by first|omega|(rw[<-hl];omega)⟩,?_⟩
   try simp only[I,B,D,RY,↓KW,seval,<-hl,hx,gk,e1,e2,F3]
   generalize w^^^BitVec.ofNat 16 x.toNat<<<8=d at*;try simp only[I,B,D,RY,↓KW,seval,s4,shr,lt16,ge0,z1,Int.toNat_natCast,dD,U,F3]
   simp only at hn
   refine back (i+1) _ (by omega) (by omega) (ah (by decide) ?_ ?_ ?_ ?_)<;>simp[LX,I,B,D,hw,hn,U]
  ·have h3:i=l.length:=by have:=of_decide_eq_false h;omega
   subst h3;try simp only[I,B,D,RY,↓KW,seval,List.take_length]
 ·refine ah (by decide) ?_ ?_ ?_ ?_<;>simp[LX,I,B,D,U,iw]
theorem Bc.ok{fA:Nat} (hc:cZ P f=some (Bb fA)) (hA:wO.Spec (Pure P) fA):Bc.Spec (Pure P) f:=by
 intro b hb hB
 refine aC hm hc (by show 1<=5;decide) (ay (keep:=[]) (i:=0) ?_)
 try simp only[I,B,D,RX,↓KW,seval,Bb,Z.H]
 refine ai (hA 0xffff#16 b hb hB) ?_;try simp only[I,B,D,RX,↓KW,seval]
end
def lX:Cd Int:=oV 2 65535 (by decide) (by decide)
def iy(l:List Int):Tb×Int×Int:=
 if l.length>2048 then(cv,1,0)else
 if l.length<3 then(cv,2,l.length)else
 if l.take 3≠[88,66,1]then(cv,3,0)else
 let p:=jY.m ⟨some l,3,0,0⟩
 let q:=lX.m p.2
 if q.2.code≠0 then(cv,q.2.code,q.2.Eb)else
 if q.1≠((iw 0xffff#16 (l.take p.2.dD.toNat)).toNat:Int)then(cv,5,p.2.dD)else
 if q.2.dD<l.length then(cv,6,q.2.dD)else(p.1,0,0)
def lN(x:Tb×Int×Int):AV:=.qb [.agg x.1.cells,.agg [I x.2.1,I x.2.2]]
def sS.Spec(C:bz) (f:Nat):Prop:=∀b:Option (List Int),(b.getD []).length<=1000000->sM (b.getD [])->C.c f [aF gk b] (lN (iy (b.getD []))) none
theorem Kg(r:aU):(jY.m r).1.Ln:=⟨vF xO 8 _,vF jN 8 _,vF (cu 2 (by decide)) 8 _⟩
section
variable{P:Program} (hm:P.follows .mixedOrders=true) {f:Nat}
include hm
theorem sS.ok {fP fN fO fC:Nat} (hc:cZ P f=some (gZ fP fN fO fC)) (hP:zV.Spec (Pure P) fP) (hN:vt.Spec (Pure P) fN) (hO:N8.Spec (Pure P) fO) (hC:Hp.Spec (Pure P) fC):sS.Spec (Pure P) f:=by
  intro b hb hB
  obtain ⟨l,hl⟩:∃ l,l=b.getD []:=⟨_,rfl⟩
  rw [← hl] at hb hB ⊢
  have z3:aY=cv.cells:=rfl
  have z0:cv.cells.length=131:=rfl
  have z1:bG cv.cells 0 (some 131)=some (.agg cv.cells):=rfl
  have z2:setCells cv.cells 0 cv.cells=cv.cells:=dW rfl
  have z4:∀ x y:AV,setCells [.int .i64 0,.int .i64 0] 0 [x,y]=[x,y]:=fun _ _=>rfl
  by_cases h1:l.length > 2048
  · have e:iy l=(cv,1,0):=by unfold iy; rw [if_pos h1]
    rw [e]
    refine aC hm hc (by show 1≤82; decide) (ay (keep:=[]) (i:=0) ?_)
    try simp only [I,B,D,RY,↓ KW,seval,gZ,Z.H,← hl,z3,z0,z1,z2]
    refine aq (fun h=>?_) (fun h=>?_)<;>try simp only [I,B,D,RY,↓ KW,seval,h]
    · try simp only [I,B,D,RY,↓ KW,seval,z0,z1,z2,z4,lN]
    · exfalso; have:=of_decide_eq_false h; omega
  have s1:decide (2048 < (l.length:Int))=false:=by simp; omega
  by_cases h2:l.length < 3
  · have e:iy l=(cv,2,(l.length:Int)):=by unfold iy; rw [if_neg h1,if_pos h2]
    rw [e]
    refine aC hm hc (by show 1≤82; decide) (ay (keep:=[]) (i:=0) ?_)
    try simp only [I,B,D,RY,↓ KW,seval,gZ,Z.H,← hl,z3,z0,z1,z2,s1]
    refine aq (fun h=>?_) (fun h=>?_)<;>try simp only [I,B,D,RY,↓ KW,seval,h]
    · try simp only [I,B,D,RY,↓ KW,seval,z0,z1,z2,z4,lN,← hl]
    · exfalso; have:=of_decide_eq_false h; omega
  have s2:decide ((l.length:Int) < 3)=false:=by simp; omega
  obtain ⟨x0,x1,x2,L,hL⟩:∃ x0 x1 x2 L,l=x0 :: x1 :: x2 :: L:=by
    match l,h2 with
    | [],h=>exact absurd (by simp) h
    | [_],h=>exact absurd (by simp) h
    | [_,_],h=>exact absurd (by simp) h
    | x0 :: x1 :: x2 :: L,_=>exact ⟨x0,x1,x2,L,rfl⟩
  have g0:l[0]? = some x0:=by rw [hL]; rfl
  have g1:l[1]? = some x1:=by rw [hL]; rfl
  have g2:l[2]? = some x2:=by rw [hL]; rfl
  have hl3:3≤l.length:=by omega
  have b0:(0:Int) < (l.length:Int):=by omega
  have b1:(1:Int) < (l.length:Int):=by omega
  have b2:(2:Int) < (l.length:Int):=by omega
  by_cases h3:l.take 3≠[88,66,1]
  · have e:iy l=(cv,3,0):=by unfold iy; rw [if_neg h1,if_neg h2,if_pos h3]
    rw [e]
    refine aC hm hc (by show 1≤82; decide) (ay (keep:=[]) (i:=0) ?_)
    try simp only [I,B,D,RY,↓ KW,seval,gZ,Z.H,← hl,z3,z0,z1,z2,s1,s2,g0,gk,b0]
    refine bB (fun a0=>?_) (fun a0=>?_)<;>try simp only [I,B,D,RY,↓ KW,seval,a0]
    · try simp only [I,B,D,RY,↓ KW,seval,← hl,a0,g1,b1,gk]
      try simp only [I,B,D,RY,↓ KW,seval,z0,z1,z2,z4,lN]
    · try simp only [I,B,D,RY,↓ KW,seval,← hl,a0,g1,b1,gk]
      refine bB (fun a1=>?_) (fun a1=>?_)<;>try simp only [I,B,D,RY,↓ KW,seval,a1]
      · try simp only [I,B,D,RY,↓ KW,seval,← hl,a1,g2,b2,gk]
        try simp only [I,B,D,RY,↓ KW,seval,z0,z1,z2,z4,lN]
      · try simp only [I,B,D,RY,↓ KW,seval,← hl,a1,g2,b2,gk]
        refine aq (fun a2=>?_) (fun a2=>?_)<;>try simp only [I,B,D,RY,↓ KW,seval,a2]
        · try simp only [I,B,D,RY,↓ KW,seval,z0,z1,z2,z4,lN]
        · exfalso
          simp only [bne_eq_false_iff_eq] at a0 a1 a2
          exact h3 (by rw [hL,a0,a1,a2]; rfl)
  · have h3':l.take 3=[88,66,1]:=Classical.not_not.1 h3
    have e0:x0=88∧x1=66∧x2=1:=by rw [hL] at h3'; simpa using h3'
    obtain ⟨rfl,rfl,rfl⟩:=e0
    have hbl:b=some l:=by
      cases b with
      | none=>exfalso; rw [hl] at hl3; simp at hl3
      | some y=>rw [show l=y from hl]
    have hok:(aU.mk (some l) 3 0 0).Ok:=⟨by show (0:Int)≤3; omega,by show (3:Int)≤(l.length:Int); omega,by show (l.length:Int)≤1000000; omega⟩
    obtain ⟨t,r1,e1,k1,c1⟩:=nB.step hP hok
    have hln:t.Ln:=by have:=Kg ⟨some l,3,0,0⟩; rw [e1] at this; exact this
    have hr1:r1.b=some l:=by have:=jY.keep ⟨some l,3,0,0⟩; rw [e1] at this; exact this
    obtain ⟨s,r2,e2,k2,_,c2⟩:=oo hN k1 2 65535 (by decide) (by decide) (by decide)
    have hr2:r2.b=some l:=by have:=lX.keep r1; rw [show lX.m r1=(s,r2) from e2] at this; rw [← hr1]; exact this
    have e2':lX.m r1=(s,r2):=e2
    have hlen:=hln.len
    have hwh:=hln.whole
    have o2:=hO r2
    have y1:setCells cv.cells 0 t.cells=t.cells:=dW (by rw [hlen]; rfl)
    have y2:setCells t.cells 0 t.cells=t.cells:=dW rfl
    have y3:∀ x y:AV,bG [x,y] 0 (some 2)=some (.agg [x,y]):=fun _ _=>rfl
    have hat:0≤r1.dD∧r1.dD≤(l.length:Int):=⟨k1.1,by have:=k1.2.1; rw [aU.len,hr1] at this; exact this⟩
    have hd:iy l=if r2.code≠0 then (cv,r2.code,r2.Eb) else if s≠((iw 0xffff#16 (l.take r1.dD.toNat)).toNat:Int) then (cv,5,r1.dD) else if r2.dD < l.length then (cv,6,r2.dD) else (t,0,0):=by
      unfold iy; rw [if_neg h1,if_neg h2,if_neg h3]; simp only [e1,e2']
    refine aC hm hc (by show 1≤82; decide) (ay (keep:=[]) (i:=0) ?_)
    try simp only [I,B,D,RY,↓ KW,seval,gZ,Z.H,← hl,z3,z0,z1,z2,s1,s2,g0,gk,b0,bne_self_eq_false]
    try simp only [I,B,D,RY,↓ KW,seval,← hl,g1,gk,b1,bne_self_eq_false]
    try simp only [I,B,D,RY,↓ KW,seval,← hl,g2,gk,b2,bne_self_eq_false]
    try simp only [I,B,D,RY,↓ KW,seval,aP,bZ]
    rw [hbl]
    refine ⟨rfl,ax c1 ?_⟩
    try simp only [I,B,D,RY,↓ KW,seval,aU.cells,hlen,y1,z0]
    refine ⟨rfl,ax c2 ?_⟩
    try simp only [I,B,D,RY,↓ KW,seval,aU.cells,hlen,y1,z0]
    refine ⟨rfl,ax o2 ?_⟩
    by_cases q1:r2.code=0
    · have q1':(r2.code == 0)=true:=by simp [q1]
      rw [hd,if_neg (by simp [q1])]
      try simp only [I,B,D,RY,↓ KW,seval,q1']
      have cC:=hC 0xffff#16 (some (l.take r1.dD.toNat)) (by simp; omega) (fun x hx=>hB x (List.mem_of_mem_take hx))
      rw [Option.getD_some] at cC
      have hcut:yo (aF gk (some l)) (List.map gk l) 0 r1.dD=aF gk (some (l.take r1.dD.toNat)):=by simp [yo,aF,List.map_take]
      obtain ⟨w,hw⟩:∃ w,w=iw 0xffff#16 (l.take r1.dD.toNat):=⟨_,rfl⟩
      rw [← hw] at cC ⊢
      have hwr:IntKind.i64.wrap (w.toNat:Int)=w.toNat:=gm (by omega) (by have:=w.isLt; omega)
      rw [Option.getD_some]
      refine ⟨hat,fun _ _=>rfl,?_⟩
      rw [hcut]
      refine ai cC ?_
      try simp only [I,B,D,RY,↓ KW,seval,U,hwr]
      by_cases q2:s=(w.toNat:Int)
      · have q2':(s != (w.toNat:Int))=false:=by simp [q2]
        rw [if_neg (by simp [q2])]
        try simp only [I,B,D,RY,↓ KW,seval,q2',aU.cells]
        by_cases q3:r2.dD < l.length
        · have q3':decide (r2.dD < (l.length:Int))=true:=by simpa using q3
          rw [if_pos q3]
          try simp only [I,B,D,RY,↓ KW,seval,aU.cells,q3',Option.getD_some]
          refine qf rfl ?_
          try simp only [I,B,D,RY,↓ KW,seval,aU.cells,z0,z1,z2,z4,y3,lN]
        · have q3':decide (r2.dD < (l.length:Int))=false:=by simpa using q3
          rw [if_neg q3]
          try simp only [I,B,D,RY,↓ KW,seval,aU.cells,q3',Option.getD_some]
          try simp only [I,B,D,RY,↓ KW,seval,hwh,hlen,y1,y2,z0,z1,z2,z4,y3,lN]
      · have q2':(s != (w.toNat:Int))=true:=by simp [q2]
        rw [if_pos q2]
        try simp only [I,B,D,RY,↓ KW,seval,q2']
        try simp only [I,B,D,RY,↓ KW,seval,aU.cells,z0,z1,z2,z4,y3,lN]
    · have q1':(r2.code == 0)=false:=by simp [q1]
      rw [hd,if_pos q1]
      try simp only [I,B,D,RY,↓ KW,seval,q1']
      refine qf rfl ?_
      try simp only [I,B,D,RY,↓ KW,seval,aU.cells,z0,z1,z2,z4,y3,lN]
end
def ij{α:Type} (e:Nat) (res:List gb) (enc:α->AV) (x:α×aU):Exit->S->Prop
 | .panic c,s=>x.2.code≠0/\c=dS (up e x.2)/\∃cs,gi s.boxes 0 [cs]
 |ex,s=>x.2.code=0/\BI res (enc x.1) none [x.2.cells] ex s
def qw{α:Type} (c:Cd α) (enc:α->AV) (args:List (Option AV)) (C:bz) (e f:Nat):Prop:=∀r:aU,r.Ok->r.code=0->
 ((c.m r).2.code=0->C.p f [r.cells] (some .hole::args) (enc (c.m r).1) none [(c.m r).2.cells])/\((c.m r).2.code≠0->∃cs,C.q f [r.cells] (some .hole::args) (up e (c.m r).2) [cs])
theorem qw.step{α:Type} {c:Cd α} {enc:α->AV} {args:List (Option AV)} {C:bz} {e f:Nat} (h:qw c enc args C e f) {r r':aU} {v:α} (hr:r.Ok) (z:r.code=0) (e1:c.m r=(v,r')):
  (r'.code=0->C.p f [r.cells] (some .hole::args) (enc v) none [r'.cells])/\(r'.code≠0->∃cs,C.q f [r.cells] (some .hole::args) (up e r') [cs]):=by
 have:=h r hr z
 rw[e1]at this;exact this
section
variable{α β:Type} {e:Nat} {res:List gb} {Q:Exit->S->Prop}
theorem aZ{a:Cd α} {b:α->Cd β} {enc:α×β->AV} {r:aU} (hQ:Q=ij e res enc ((a.seq b).m r)) (hr:r.Ok):
  ∃v r',a.m r=(v,r')/\r'.Ok/\(r'.code≠0->∀s cs,gi s.boxes 0 [cs]->Q (.panic (dS (up e r'))) s)/\Q=ij e res (fun y=>enc (v,y)) ((b v).m r'):=by
 refine⟨(a.m r).1,(a.m r).2,rfl,a.ok r hr,fun h s cs hh=>?_,?_⟩
 ·have hs:((b (a.m r).1).m (a.m r).2).2=(a.m r).2:=(b (a.m r).1).stay _ h
  rw[hQ];refine⟨?_,?_,cs,hh⟩
  ·show((b (a.m r).1).m (a.m r).2).2.code≠0;rw[hs];exact h
  ·show _=dS (up e ((b (a.m r).1).m (a.m r).2).2);rw[hs]
 ·rw[hQ];funext ex s;cases ex<;>rfl
theorem jW{a:Cd α} {enc:α->AV} {r:aU} (hQ:Q=ij e res enc (a.m r)) (hr:r.Ok):
  ∃v r',a.m r=(v,r')/\r'.Ok/\(r'.code≠0->∀s cs,gi s.boxes 0 [cs]->Q (.panic (dS (up e r'))) s)/\Q=ij e res enc (v,r'):=by
 refine⟨(a.m r).1,(a.m r).2,rfl,a.ok r hr,fun h s cs hh=>?_,hQ⟩
 rw[hQ];exact⟨h,rfl,cs,hh⟩
theorem iZ{enc:α->AV} {x:α×aU} (hQ:Q=ij e res enc x) (h:x.2.code=0) {s:S} (hs:BI res (enc x.1) none [x.2.cells] .ret s):Q .ret s:=by rw[hQ];exact⟨h,hs⟩
end
theorem oq{P:Program} (hm:P.follows .mixedOrders=true) {f:FuncId} {cf:cR} {mo:Bool} (hcf:iC mo P f=some cf) {α:Type} {c:Cd α} {enc:α->AV} {args:List (Option AV)} {e:Nat} (hn:args.length+1<=cf.nt)
  (h:∀r:aU,r.Ok->r.code=0->∀Q,Q=ij e cf.res enc (c.m r)->aw (Pure P) cf.code Q (oC [r.cells] (some .hole::args))):qw c enc args (Pure P) e f:=by
 intro r hr hz
 obtain⟨ex,s',h1,h2⟩:=Oa (h r hr hz _ rfl)
 refine⟨fun h0=>?_,fun h0=>?_⟩
 ·refine bK hm hcf (by simpa using hn) rfl (by simp) (h2 _ ?_)
  cases ex<;>first|exact h1.2|exact absurd h0 h1.1
 ·cases ex
  case panic p=>
   obtain⟨_,rfl,cs,hh⟩:=h1
   exact⟨cs,rD hm hcf (by simpa using hn) rfl (by simp) (h2 _ ⟨rfl,hh⟩)⟩
  all_goals exact absurd h1.1 h0
def uz.Spec(C:bz) (e f:Nat):Prop:=∀r:aU,(r.code=0->C.p f [r.cells] [some .hole] (.qb []) none [r.cells])/\(r.code≠0->C.q f [r.cells] [some .hole] (up e r) [r.cells])
def xP.Spec(C:bz) (e f:Nat):Prop:=∀(k:Nat) (hi:Int) (hk:k<=7) (hh:hi<256^k),qw (oV k hi hk hh) I [some (I k),some (I 0),some (I hi)] C e f
def xE.Spec(C:bz) (e f:Nat):Prop:=qw aT I [] C e f
def Hq.Spec(C:bz) (e f:Nat):Prop:=qw jN I [] C e f
def Kh.Spec(C:bz) (e f:Nat):Prop:=qw Cb B [] C e f
section
variable{P:Program} (hm:P.follows .mixedOrders=true) {f:Nat}
include hm
theorem uz.ok{fF e:Nat} (hc:iC true P f=some (ie fF e)) (hF:uo.Spec (Pure P) fF):uz.Spec (Pure P) e f:=by
 intro r
 refine⟨fun h=>?_,fun h=>?_⟩
 ·have h2:(r.code !=0)=false:=by simp[h]
  refine bK hm hc (by show 1<=11;decide) rfl (by simp) (ay (keep:=[]) (i:=0) ?_)
  try simp only[I,B,D,RX,aJ,aK,aM,↓KW,↓aL,seval,ie,Z.H,bt,aU.cells]
  refine⟨rfl,az (hF r) ?_⟩;try simp only[I,B,D,RX,aJ,aK,aM,↓KW,↓aL,seval,bt,aU.fault,h2]
  rfl
 ·have h2:(r.code !=0)=true:=by simp[h]
  refine rD hm hc (by show 1<=11;decide) rfl (by simp) (ay (keep:=[]) (i:=0) ?_)
  try simp only[I,B,D,RX,aJ,aK,aM,↓KW,↓aL,seval,ie,Z.H,bt,aU.cells]
  refine⟨rfl,az (hF r) ?_⟩;try simp only[I,B,D,RX,aJ,aK,aM,↓KW,↓aL,seval,bt,aU.fault,h2]
  exact⟨rfl,rfl,trivial⟩
theorem xP.ok{fN fR e:Nat} (hc:iC true P f=some (ji fN fR)) (hN:BY.Spec (Pure P) fN) (hR:uz.Spec (Pure P) e fR):xP.Spec (Pure P) e f:=by
 intro k hi hk hh
 refine oq hm hc (by show 4<=19;decide) fun r hr hz Q hQ=>ay (keep:=[]) (i:=0) ?_
 obtain⟨v,r',e1,k1,u1,hQ⟩:=jW hQ hr
 have c1:(Pure P).p fN [r.cells] [none,some (I k),some (I 0),some (I hi)] (I v) none [r'.cells]:=by have:=hN r k 0 hi hr;rw[show eP r k 0 hi=(v,r')from e1]at this;exact this
 try simp only[I,B,D,RX,aJ,aK,aM,↓KW,↓aL,seval,ji,Z.H,bt]
 refine⟨rfl,az c1 ?_⟩;try simp only[I,B,D,RX,aJ,aK,aM,↓KW,↓aL,seval,bt]
 by_cases z:r'.code=0
 ·refine⟨rfl,az ((hR r').1 z) ?_⟩
  try simp only[I,B,D,RX,aJ,aK,aM,↓KW,↓aL,seval,bt]
  refine iZ hQ z ?_;try simp only[I,B,D,RX,aJ,aK,aM,↓KW,↓aL,seval,ji]
 ·refine⟨rfl,aH ((hR r').2 z) ?_⟩
  try simp only[I,B,D,RX,aJ,aK,aM,↓KW,↓aL,seval,bt]
  exact u1 z _ _ ⟨rfl,trivial⟩
theorem xE.ok{fN e:Nat} (hc:iC true P f=some (iT fN)) (hN:xP.Spec (Pure P) e fN):xE.Spec (Pure P) e f:=by
 refine oq hm hc (by show 1<=5;decide) fun r hr hz Q hQ=>ay (keep:=[]) (i:=0) ?_
 obtain⟨v,r',e1,k1,u1,hQ⟩:=jW hQ hr
 have hp:=(hN 2 9999 (by decide) (by decide)).step hr hz e1
 try simp only[I,B,D,RX,aJ,aK,aM,↓KW,↓aL,seval,iT,Z.H,bt]
 by_cases z:r'.code=0
 ·refine⟨rfl,az (hp.1 z) ?_⟩
  try simp only[I,B,D,RX,aJ,aK,aM,↓KW,↓aL,seval,bt]
  refine iZ hQ z ?_;try simp only[I,B,D,RX,aJ,aK,aM,↓KW,↓aL,seval,iT]
 ·obtain⟨cs,hq⟩:=hp.2 z
  refine⟨rfl,aH hq ?_⟩;try simp only[I,B,D,RX,aJ,aK,aM,↓KW,↓aL,seval,bt]
  exact u1 z _ _ ⟨rfl,trivial⟩
theorem Hq.ok{fN e:Nat} (hc:iC true P f=some (jj fN)) (hN:xP.Spec (Pure P) e fN):Hq.Spec (Pure P) e f:=by
 refine oq hm hc (by show 1<=5;decide) fun r hr hz Q hQ=>ay (keep:=[]) (i:=0) ?_
 obtain⟨v,r',e1,k1,u1,hQ⟩:=jW hQ hr
 have hp:=(hN 1 255 (by decide) (by decide)).step hr hz e1
 try simp only[I,B,D,RX,aJ,aK,aM,↓KW,↓aL,seval,jj,Z.H,bt]
 by_cases z:r'.code=0
 ·refine⟨rfl,az (hp.1 z) ?_⟩
  try simp only[I,B,D,RX,aJ,aK,aM,↓KW,↓aL,seval,bt]
  refine iZ hQ z ?_;try simp only[I,B,D,RX,aJ,aK,aM,↓KW,↓aL,seval,jj]
 ·obtain⟨cs,hq⟩:=hp.2 z
  refine⟨rfl,aH hq ?_⟩;try simp only[I,B,D,RX,aJ,aK,aM,↓KW,↓aL,seval,bt]
  exact u1 z _ _ ⟨rfl,trivial⟩
theorem Kh.ok{fB fR e:Nat} (hc:iC true P f=some (jl fB fR)) (hB:zx.Spec (Pure P) fB) (hR:uz.Spec (Pure P) e fR):Kh.Spec (Pure P) e f:=by
 refine oq hm hc (by show 1<=10;decide) fun r hr hz Q hQ=>ay (keep:=[]) (i:=0) ?_
 obtain⟨v,r',e1,k1,u1,hQ⟩:=jW hQ hr
 have c1:(Pure P).p fB [r.cells] [none] (B v) none [r'.cells]:=by have:=hB r hr;rw[show Au r=(v,r')from e1]at this;exact this
 try simp only[I,B,D,RX,aJ,aK,aM,↓KW,↓aL,seval,jl,Z.H,bt]
 refine⟨rfl,az c1 ?_⟩;try simp only[I,B,D,RX,aJ,aK,aM,↓KW,↓aL,seval,bt]
 by_cases z:r'.code=0
 ·refine⟨rfl,az ((hR r').1 z) ?_⟩
  try simp only[I,B,D,RX,aJ,aK,aM,↓KW,↓aL,seval,bt]
  refine iZ hQ z ?_;try simp only[I,B,D,RX,aJ,aK,aM,↓KW,↓aL,seval,jl]
 ·refine⟨rfl,aH ((hR r').2 z) ?_⟩
  try simp only[I,B,D,RX,aJ,aK,aM,↓KW,↓aL,seval,bt]
  exact u1 z _ _ ⟨rfl,trivial⟩
end
theorem rY{α β:Type} {e:Nat} {res:List gb} {enc:β->AV} {a:Cd α} {f:α->β} {g:β->α} {h:∀x,a.v x->g (f x)=x} {r:aU}:ij e res enc ((a.map f g h).m r)=ij e res (fun x=>enc (f x)) (a.m r):=by
 funext ex s;cases ex<;>rfl
def vG:Nat:=4607182418800017408
def dF(i v:Nat):gu:=match i with
 |1=>⟨0,v,vG,0,0,0,0⟩
 |2=>⟨0,vG,v,0,0,0,0⟩
 |3=>⟨0,vG,vG,v,0,0,0⟩
 |_=>⟨0,vG,vG,0,v,0,0⟩
theorem Nx:lvl vG=true:=by decide+kernel
theorem F5:eo 0=true:=by decide+kernel
def tF(d:gu):Tb:={cv with aA:=some [d]}
theorem Ki(d:gu):mH (tF d)=gI d:=by
 have h:mH (tF d)=((((((((true&&(true&&true))&&true)&&(true&&(gI d&&true)))&&(true&&true))&&(true&&true))&&true)&&true)&&true):=rfl
 rw[h];simp
theorem Xa(v:Nat):gI (dF 1 v)=lvl v:=by
 have h:gI (dF 1 v)=(((((true&&lvl v)&&lvl vG)&&eo 0)&&eo 0)&&true):=rfl
 rw[h,Nx,F5];simp
theorem Xb(v:Nat):gI (dF 2 v)=lvl v:=by
 have h:gI (dF 2 v)=(((((true&&lvl vG)&&lvl v)&&eo 0)&&eo 0)&&true):=rfl
 rw[h,Nx,F5];simp
theorem Xc(v:Nat):gI (dF 3 v)=eo v:=by
 have h:gI (dF 3 v)=(((((true&&lvl vG)&&lvl vG)&&eo v)&&eo 0)&&true):=rfl
 rw[h,Nx,F5];simp
theorem Xd(v:Nat):gI (dF 4 v)=eo v:=by
 have h:gI (dF 4 v)=(((((true&&lvl vG)&&lvl vG)&&eo 0)&&eo v)&&true):=rfl
 rw[h,Nx,F5];simp
def VC(i:Nat) (lv:Bool):Prop:=(i=1/\lv=true)\/(i=2/\lv=true)\/(i=3/\lv=false)\/(i=4/\lv=false)
theorem Rq{i:Nat} {lv:Bool} (h:VC i lv) (v:Nat):mH (tF (dF i v))=Nu lv v:=by
 rw[Ki]
 rcases h with⟨rfl,rfl⟩|⟨rfl,rfl⟩|⟨rfl,rfl⟩|⟨rfl,rfl⟩
 ·exact Xa v
 ·exact Xb v
 ·exact Xc v
 ·exact Xd v
def VD.Spec(i:Nat) (C:bz) (f:Nat):Prop:=∀cs:List AV,cs.length=7->C.r f [cs] [none] 0 i
def Rr.Spec(C:bz) (f:Nat):Prop:=VD.Spec 1 C f
def Rs.Spec(C:bz) (f:Nat):Prop:=VD.Spec 2 C f
def Rt.Spec(C:bz) (f:Nat):Prop:=VD.Spec 3 C f
def Ru.Spec(C:bz) (f:Nat):Prop:=VD.Spec 4 C f
def Kj.Spec(C:bz) (e f:Nat):Prop:=∀(g i:Nat) (lv:Bool),VC i lv->VD.Spec i C g->qw (vC lv) Fl [some (.fn (.func g) [] [])] C e f
def Kk.Spec(C:bz) (e f:Nat):Prop:=qw lJ (fun l=>aF aD (bf l)) [] C e f
def VE.Spec(C:bz) (e f:Nat):Prop:=qw xO (fun p=>.agg p.cells) [] C e f
def Kl.Spec(C:bz) (e f:Nat):Prop:=qw nF (fun p=>.agg p.cells) [] C e f
def VF.Spec(C:bz) (e f:Nat):Prop:=qw Ag (fun p=>.agg p.cells) [] C e f
section
variable{P:Program} (hm:P.follows .mixedOrders=true) {f:Nat}
include hm
theorem Xe.ok(hc:iC true P f=some iU):Rr.Spec (Pure P) f:=by
 intro cs hl
 refine vr hm hc (by show 1<=6;decide) (by simp) (by simp) (ay (keep:=[]) (i:=0) ?_)
 try simp only[I,B,D,RX,aJ,aK,aM,↓KW,↓aL,seval,iU,Z.H,bt]
 exact⟨rfl,rfl,trivial⟩
theorem Xf.ok(hc:iC true P f=some iV):Rs.Spec (Pure P) f:=by
 intro cs hl
 refine vr hm hc (by show 1<=6;decide) (by simp) (by simp) (ay (keep:=[]) (i:=0) ?_)
 try simp only[I,B,D,RX,aJ,aK,aM,↓KW,↓aL,seval,iV,Z.H,bt]
 exact⟨rfl,rfl,trivial⟩
theorem Xg.ok(hc:iC true P f=some iW):Rt.Spec (Pure P) f:=by
 intro cs hl
 refine vr hm hc (by show 1<=6;decide) (by simp) (by simp) (ay (keep:=[]) (i:=0) ?_)
 try simp only[I,B,D,RX,aJ,aK,aM,↓KW,↓aL,seval,iW,Z.H,bt]
 exact⟨rfl,rfl,trivial⟩
theorem Xh.ok(hc:iC true P f=some iX):Ru.Spec (Pure P) f:=by
 intro cs hl
 refine vr hm hc (by show 1<=6;decide) (by simp) (by simp) (ay (keep:=[]) (i:=0) ?_)
 try simp only[I,B,D,RX,aJ,aK,aM,↓KW,↓aL,seval,iX,Z.H,bt]
 exact⟨rfl,rfl,trivial⟩
theorem Kj.ok{fA fF fR eD fM e:Nat} (hc:iC true P f=some (fZ fA fF fR eD fM e)) (hA:No.Spec (Pure P) fA) (hF:uq.Spec (Pure P) fF) (hR:uz.Spec (Pure P) e fR) (hM:Hh.Spec (Pure P) fM):Kj.Spec (Pure P) e f:=by
 intro g i lv hi hg
 refine oq hm hc (by show 2<=30;decide) fun r hr hz Q hQ=>ay (keep:=[]) (i:=0) ?_
 have c1:=hF r hr
 have k1:=(sH hr).1
 have hx:=FY r
 obtain⟨x,q,e1⟩:∃x q,gl r=(x,q):=⟨_,_,rfl⟩
 rw[e1]at c1 k1 hx;simp only at c1 k1 hx;try simp only[I,B,D,RY,aJ,aK,aM,↓KW,↓aL,seval,fZ,Z.H,bt]
 refine⟨rfl,az (hA r) ?_⟩;try simp only[I,B,D,RY,aJ,aK,aM,↓KW,↓aL,seval,bt]
 refine⟨rfl,az c1 ?_⟩;try simp only[I,B,D,RY,aJ,aK,aM,↓KW,↓aL,seval,bt]
 by_cases z:q.code=0
 ·refine⟨rfl,az ((hR q).1 z) ?_⟩
  try simp only[I,B,D,RY,aJ,aK,aM,↓KW,↓aL,seval,bt]
  refine⟨rfl,Ju (hg _ rfl) rfl ?_⟩
  have i6:i<=6:=by rcases hi with⟨rfl,_⟩|⟨rfl,_⟩|⟨rfl,_⟩|⟨rfl,_⟩<;>decide
  have hset:setCells [.int .i64 0,.float .f64 4607182418800017408,.float .f64 4607182418800017408,.float .f64 0,.float .f64 0,.int .i64 0,.int .i64 0] i [.float .f64 x]=(dF i x).cells:=by
   rcases hi with⟨rfl,_⟩|⟨rfl,_⟩|⟨rfl,_⟩|⟨rfl,_⟩<;>rfl
  have hpa:bG (dF i x).cells 0 (some 7)=some (.agg (dF i x).cells):=rfl
  have hl7:(dF i x).cells.length=7:=rfl
  have hln0:cv.Ln:=⟨rfl,rfl,rfl⟩
  have hln:(tF (dF i x)).Ln:=⟨rfl,rfl,rfl⟩
  have hfw:(tF (dF i x)).Fw:=by
   intro d hd
   have:d=dF i x:=by simpa[tF]using hd
   subst this
   have h1:vG<2^64:=by decide
   have h0:(0:Nat)<2^64:=by decide
   rcases hi with⟨rfl,_⟩|⟨rfl,_⟩|⟨rfl,_⟩|⟨rfl,_⟩
   ·exact⟨hx,h1,h0,h0⟩
   ·exact⟨h1,hx,h0,h0⟩
   ·exact⟨h1,h1,hx,h0⟩
   ·exact⟨h1,h1,h0,hx⟩
  have hset2:List.take 113 cv.cells++[AV.sl [(dF i x).cells]]++List.drop 114 cv.cells=(tF (dF i x)).cells:=hln0.vw (some [dF i x])
  have hz:aY=cv.cells:=rfl
  have hzl:cv.cells.length=131:=rfl
  have cM:=hM (tF (dF i x)) hln hfw
  rw[Rq hi]at cM
  have hset0:setCells [.int .i64 0,.float .f64 0,.float .f64 0,.float .f64 0,.float .f64 0,.int .i64 0,.int .i64 0] 0 [.int .i64 0,.float .f64 4607182418800017408,.float .f64 4607182418800017408,.float .f64 0,.float .f64 0,.int .i64 0,.int .i64 0]=[.int .i64 0,.float .f64 4607182418800017408,.float .f64 4607182418800017408,.float .f64 0,.float .f64 0,.int .i64 0,.int .i64 0]:=rfl
  try simp only[I,B,D,RY,aJ,aK,aM,↓KW,↓aL,seval,bt,hset0,hset,hpa,hl7,i6,hz,hzl,hset2]
  refine kq cM ?_
  by_cases h2:Nu lv x=true
  ·have hs:(vC lv).m r=(x,q):=by show gM lv r=_;unfold gM;rw[e1,if_pos z,if_pos h2]
   rw[hs]at hQ;try simp only[I,B,D,RY,aJ,aK,aM,↓KW,↓aL,seval,bt,h2]
   refine iZ hQ z ?_;try simp only[I,B,D,RY,aJ,aK,aM,↓KW,↓aL,seval,fZ]
  ·have h2:Nu lv x=false:=by simpa using h2
   have hs:(vC lv).m r=(0,{q with code:=4,Eb:=r.dD,dD:=r.dD}):=by show gM lv r=_;unfold gM;rw[e1,if_pos z,if_neg (by rw[h2];decide)]
   rw[hs]at hQ;try simp only[I,B,D,RY,aJ,aK,aM,↓KW,↓aL,seval,bt,h2]
   rw[hQ]
   exact⟨by show(4:Int)≠0;decide,rfl,_,rfl,trivial⟩
 ·have hs:gM lv r=(0,q):=by unfold gM;rw[e1,if_neg z]
  refine⟨rfl,aH ((hR q).2 z) ?_⟩;try simp only[I,B,D,RY,aJ,aK,aM,↓KW,↓aL,seval,bt]
  rw[hQ]
  exact⟨by show(gM lv r).2.code≠0;rw[hs];exact z,by show _=dS (up e (gM lv r).2);rw[hs],_,rfl,trivial⟩
end
end Go.Eng
