/- TopEnvelope. -/
import Derived.Test.YtjnbemnncjbmgaaGreatTiesTopEnvelope
import Derived.Test.YtjnbemnncjbmgaaGreatRows
namespace Go.Proofs.YtjnbemnncjbmgaaGreat.topEnvelopeDone
open Go.ChangeShapes Go.WideShapes Go.ChangeAt Go.RowKit Go.Eng
set_option linter.unusedVariables false
theorem own:ownKnob Tryz.prog.godebug = none :=kr
theorem laidOut:laidOutB Tryz.prog = true :=kr
set_option maxRecDepth 100000 in
theorem lifted (os:Os) (started:os.Started) (H:Type) (enc:TypeId × Value → H) :
    ReturnsInHanded {} Tryz.checked os 12 .any (Rows.topEnvelopeSpec.pre6 enc Tryz.prog Tryz.f12 Rows.topEnvelopeRow.domain false) (Rows.topEnvelopeSpec.post enc Tryz.prog Tryz.f12 false true false false):=by
  refine returnsInHanded_of_change (C:=Tryz.checked) own started kr Tryz.func12
    (ChangeSpec.witness6 (enc:=enc) (C:=Tryz.checked) false ⟨#[],#[.slice none 0 0,.slice none 0 0],[]⟩ 8 kr kr kr kr) ?_
  intro W base args ds gs before h0 hW hc _
  have hval:∀ (j:Nat) t v,Tryz.f12.params[j]? = some t → args[j]? = some v → Value.okWide Tryz.prog W .any base t v:=h0
  have hW':=hW
  obtain ⟨p,q,hA0,hV,rfl,hfz,hnd⟩:=hW
  have hA:DataW.TrodAll enc Tryz.prog W 0 (fun _ => true) true Tryz.f12.params.toList args.toList ds p:=hA0
  rw [Tryz.params12] at hA hval
  obtain ⟨rfl,rfl⟩:=trodVars_none hV
  clear hA0 h0
  obtain ⟨vs,rfl⟩:∃ vs:List Value,args = vs.toArray:=⟨args.toList,rfl⟩
  have al:=kZ hA (fun j t v h1 h2 => hval j t v (by simpa using h1) (by simpa using h2))
  obtain ⟨v0,r0,rfl,c0,al⟩:=al.cons_inv
  obtain ⟨a0,k0,d0⟩:=ij (n:=40) (k:=.sl [.sc (.int .i64)]) kr kr c0
  obtain ⟨l0,rfl,m0,w0⟩:=ig k0
  obtain ⟨v1,r1,rfl,c1,al⟩:=al.cons_inv
  obtain ⟨a1,k1,d1⟩:=ij (n:=40) (k:=.sl [.sc (.int .i64)]) kr kr c1
  obtain ⟨l1,rfl,m1,w1⟩:=ig k1
  cases al.oQ
  refine (qk (s12 l0 l1) (Al.c d0 (Al.c d1 Al.n))).mono fun e W' ⟨he,bel⟩ => ?_
  subst he
  have hcl:=jx laidOut kr hA bel
  have hlen:ds.length = 2 :=by have:=iq hA;simpa using this
  obtain ⟨y0,y1,rfl⟩:=IM hlen
  exact ⟨_,rfl,_,_,_,[],_,[],hW',trodAll_mk1 (shut_bool Tryz.underlying4 _),hcl,rfl,bel.frame _,fun h => by cases h⟩
set_option maxRecDepth 100000
theorem j9:(Rows.topEnvelopeRow.inPlace==Tryz.prog.inPlace 12)=true:=kr
theorem j10:(Rows.topEnvelopeRow.unfollowed==Tryz.prog.unfollowed 12)=true:=kr
theorem j11:(Rows.topEnvelopeRow.recurses==Tryz.prog.recurses 12)=true:=kr
theorem j12:(Rows.topEnvelopeRow.named==Tryz.prog.varsNamed 12)=true:=kr
theorem j22:(Rows.topEnvelopeRow.plainKeys==Tryz.prog.plainKeys)=true:=kr
theorem j26:(Rows.topEnvelopeRow.lifted==Tryz.prog.liftsFinal)=true:=kr
theorem j27:(Tryz.prog.make==some Rows.topEnvelopeRow.make)=true:=kr
theorem closed:joinedFacts Tryz.prog 12 Tryz.f12 Rows.topEnvelopeSpec Rows.topEnvelopeRow=true:=by
 unfold joinedFacts
 exact an (an (an (an (an (an (an (an (an (an (an (an (an (an (an (an (an (an (an (an (an (an (an (an (an (an (an (an (an (an (an kr laidOut) g2) kr) kr) kr) kr) kr) kr) j9) j10) j11) j12) kr) kr) kr) kr) kr) kr) kr) kr) kr) j22) kr) g3) g4) j26) j27) kr) kr) kr) kr
theorem pQ:Rows.topEnvelopeRow.holds Tryz.pinned (OpenSpec.ofChange Rows.topEnvelopeSpec) :=
  OpenClaim.holds_of_wide 12 Tryz.f12 rfl rfl rfl rfl rfl rfl rfl ⟨rfl,rfl,rfl,rfl,rfl⟩ rfl rfl rfl rfl rfl kr Tryz.func12 closed
    (of_decide_eq_true kr) (by unfold Func.isWrapper; first | (rw [if_pos (by decide +kernel)]; kernel_rfl) | (rw [if_neg (by decide +kernel)]; exact ⟨rfl,rfl⟩))
    (fun os started H enc _ => lifted os started H enc)
theorem proved:Rows.TopEnvelopeSaid:=pQ
end Go.Proofs.YtjnbemnncjbmgaaGreat.topEnvelopeDone
