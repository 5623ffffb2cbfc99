/- EngineServes: for every input the law returns true, and each argument reads afterwards as it read before. -/
import Derived.Test.YtdfplndcbbofjaaGreatTiesSEngineServes
import Derived.Test.YtdfplndcbbofjaaGreatRows
namespace Go.Proofs.YtdfplndcbbofjaaGreat.engineServesDone
open Go.ChangeShapes Go.WideShapes Go.ChangeAt Go.RowKit Go.Eng
set_option linter.unusedVariables false

theorem own : ownKnob Tryz.prog.godebug = none := by kernel_rfl
theorem laidOut : laidOutB Tryz.prog = true := by kernel_rfl

set_option maxRecDepth 100000 in
theorem lifted (os : Os) (started : os.Started) (H : Type) (enc : TypeId × Value → H) :
    ReturnsInHanded {} Tryz.checked os 6 .any (Rows.engineServesSpec.pre6 enc Tryz.prog Tryz.f6 Rows.engineServesRow.domain false) (Rows.engineServesSpec.post enc Tryz.prog Tryz.f6 false true false false) := by
  refine returnsInHanded_of_change (C := Tryz.checked) own started (by kernel_rfl) Tryz.func6
    (ChangeSpec.witness6 (enc := enc) (C := Tryz.checked) false ⟨#[], #[.slice none 0 0, .slice none 0 0], []⟩ 8 (by kernel_rfl) (by kernel_rfl) (by kernel_rfl) (by kernel_rfl)) ?_
  intro W base args ds gs before hval0 hW hcnd _
  have hval : ∀ (j : Nat) t v, Tryz.f6.params[j]? = some t → args[j]? = some v → Value.okWide Tryz.prog W .any base t v := hval0
  have hW' := hW
  obtain ⟨p, q, hA0, hV, rfl, hfz, hnd⟩ := hW
  have hA : DataW.TrodAll enc Tryz.prog W 0 (fun _ => true) true Tryz.f6.params.toList args.toList ds p := hA0
  rw [Tryz.params6] at hA hval
  obtain ⟨rfl, rfl⟩ := trodVars_none hV
  clear hA0 hval0
  obtain ⟨vs, rfl⟩ : ∃ vs : List Value, args = vs.toArray := ⟨args.toList, rfl⟩
  have al := D1 hA (fun j t v h1 h2 => hval j t v (by simpa using h1) (by simpa using h2))
  obtain ⟨v0, r0, rfl, c0, al⟩ := al.cons_inv
  obtain ⟨a0, k0, d0⟩ := HK (n := 40) (k := .sl [.sc (.int .i64)]) (by kernel_rfl) (by kernel_rfl) c0
  obtain ⟨l0, rfl, m0, w0⟩ := HJ k0
  obtain ⟨v1, r1, rfl, c1, al⟩ := al.cons_inv
  obtain ⟨a1, k1, d1⟩ := HK (n := 40) (k := .sl [.sc (.int .i64)]) (by kernel_rfl) (by kernel_rfl) c1
  obtain ⟨l1, rfl, m1, w1⟩ := HJ k1
  cases al.Fj
  refine (PF (s6 l0 l1) (Al.c d0 (Al.c d1 Al.n))).mono fun e W' ⟨he, bel⟩ => ?_
  subst he
  have hcl := CE laidOut (by kernel_rfl) hA bel
  have hlen : ds.length = 2 := by
    have := xM hA; simpa using this
  obtain ⟨y0, y1, rfl⟩ := aak hlen
  exact ⟨_, rfl, _, _, _, [], _, [], hW', trodAll_mk1 (shut_bool Tryz.underlying4 _), hcl, rfl, bel.frame _, fun h => by cases h⟩

set_option maxRecDepth 100000
theorem j9:(Rows.engineServesRow.inPlace==Tryz.prog.inPlace 6)=true:=kr
theorem j10:(Rows.engineServesRow.unfollowed==Tryz.prog.unfollowed 6)=true:=kr
theorem j11:(Rows.engineServesRow.recurses==Tryz.prog.recurses 6)=true:=kr
theorem j12:(Rows.engineServesRow.named==Tryz.prog.varsNamed 6)=true:=kr
theorem j22:(Rows.engineServesRow.plainKeys==Tryz.prog.plainKeys)=true:=kr
theorem j26:(Rows.engineServesRow.lifted==Tryz.prog.liftsFinal)=true:=kr
theorem j27:(Tryz.prog.make==some Rows.engineServesRow.make)=true:=kr
theorem closed:joinedFacts Tryz.prog 6 Tryz.f6 Rows.engineServesSpec Rows.engineServesRow=true:=by
 unfold joinedFacts
 exact an (an (an (an (an (an (an (an (an (an (an (an (an (an (an (an (an (an (an (an (an (an (an (an (an (an (an (an (an (an (an kr laidOut) g2) kr) kr) kr) kr) kr) kr) j9) j10) j11) j12) kr) kr) kr) kr) kr) kr) kr) kr) kr) j22) kr) g3) g4) j26) j27) kr) kr) kr) kr

theorem Bj : Rows.engineServesRow.holds Tryz.pinned (OpenSpec.ofChange Rows.engineServesSpec) :=
  OpenClaim.holds_of_wide 6 Tryz.f6 rfl rfl rfl rfl rfl rfl rfl ⟨rfl, rfl, rfl, rfl, rfl⟩ rfl rfl rfl rfl rfl (by kernel_rfl) Tryz.func6 closed
    (of_decide_eq_true (by kernel_rfl)) (by unfold Func.isWrapper; first | (rw [if_pos (by decide +kernel)]; kernel_rfl) | (rw [if_neg (by decide +kernel)]; exact ⟨rfl, rfl⟩))
    (fun os started H enc _ => lifted os started H enc)

/-- THE STATEMENT -/
theorem proved : Rows.EngineServesSaid := Bj
end Go.Proofs.YtdfplndcbbofjaaGreat.engineServesDone
