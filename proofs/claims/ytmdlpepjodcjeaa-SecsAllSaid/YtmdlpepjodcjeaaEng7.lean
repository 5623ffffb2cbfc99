/- ENGINE, PART 7: the operations that only compute. -/
import Derived.Test.YtmdlpepjodcjeaaEng6
namespace Go.Eng
set_option linter.unusedVariables false
set_option linter.unusedSimpArgs false
set_option linter.unnecessarySimpa false
open Go
open Go.RowKit (Below)

section
variable {P : Program} {w : World} {π : Nat → Nat → Prop}

theorem DV.int_inv {k : IntKind} {n : Int} {v : Value} (h : DV w π (.int k n) v) : v = .int k n := by cases h; rfl
theorem DV.bool_inv {b : Bool} {v : Value} (h : DV w π (.bool b) v) : v = .bool b := by cases h; rfl
theorem DV.float_inv {k : FloatKind} {n : Nat} {v : Value} (h : DV w π (.float k n) v) : v = .float k n := by cases h; rfl

theorem bits_run {op : BinOp} {k : IntKind} {x y n : Int} (h : bitsA op k x y = some n) : (Op.intBits op k x y).run P w = .ok (.int k n) w := by
  unfold bitsA at h
  unfold Op.intBits
  split at h <;> first | (cases h; rfl) | cases h

theorem int_run {op : BinOp} {k : IntKind} {x y : Int} {v : AV} (hs1 : op ≠ .shl) (hs2 : op ≠ .shr) (h : intA op k x y = some v) (t : TypeId) : ∃ u, (binOp op t (.int k x) (.int k y)).run P w = .ok u w ∧ DV w π v u := by
  cases op <;> simp only [intA] at h
  case add => cases h; exact ⟨_, by simp [binOp, Op.intArith], .int _ _⟩
  case sub => cases h; exact ⟨_, by simp [binOp, Op.intArith], .int _ _⟩
  case mul => cases h; exact ⟨_, by simp [binOp, Op.intArith], .int _ _⟩
  case quo =>
    split at h
    · cases h
    · rename_i hy; cases h; exact ⟨_, by simp [binOp, Op.intDiv, hy], .int _ _⟩
  case rem =>
    split at h
    · cases h
    · rename_i hy; cases h; exact ⟨_, by simp [binOp, Op.intDiv, hy], .int _ _⟩
  case and => simp only [Option.map_eq_some_iff] at h; obtain ⟨n, hn, rfl⟩ := h; exact ⟨_, by simp only [binOp, ne_eq, not_true_eq_false, if_false]; exact bits_run hn, .int _ _⟩
  case or => simp only [Option.map_eq_some_iff] at h; obtain ⟨n, hn, rfl⟩ := h; exact ⟨_, by simp only [binOp, ne_eq, not_true_eq_false, if_false]; exact bits_run hn, .int _ _⟩
  case xor => simp only [Option.map_eq_some_iff] at h; obtain ⟨n, hn, rfl⟩ := h; exact ⟨_, by simp only [binOp, ne_eq, not_true_eq_false, if_false]; exact bits_run hn, .int _ _⟩
  case andNot => simp only [Option.map_eq_some_iff] at h; obtain ⟨n, hn, rfl⟩ := h; exact ⟨_, by simp only [binOp, ne_eq, not_true_eq_false, if_false]; exact bits_run hn, .int _ _⟩
  case shl => exact absurd rfl hs1
  case shr => exact absurd rfl hs2
  case eql => cases h; exact ⟨_, by simp [binOp, Op.intCmp], .bool _⟩
  case neq => cases h; exact ⟨_, by simp [binOp, Op.intCmp], .bool _⟩
  case lss => cases h; exact ⟨_, by simp [binOp, Op.intCmp], .bool _⟩
  case leq => cases h; exact ⟨_, by simp [binOp, Op.intCmp], .bool _⟩
  case gtr => cases h; exact ⟨_, by simp [binOp, Op.intCmp], .bool _⟩
  case geq => cases h; exact ⟨_, by simp [binOp, Op.intCmp], .bool _⟩

theorem shift_run {op : BinOp} {k : IntKind} {x y : Int} {v : AV} (h : shiftA op k x y = some v) : ∃ u, (∀ k' : IntKind, (Op.shift op k x k' y).run P w = .ok u w) ∧ DV w π v u := by
  unfold shiftA at h
  split at h
  · cases h
  · rename_i hy
    split at h
    · cases h; exact ⟨_, by simp [Op.shift, hy], .int _ _⟩
    · cases h; exact ⟨_, by simp [Op.shift, hy], .int _ _⟩
    · cases h

theorem float_run {op : BinOp} {k : FloatKind} {x y : Nat} {v : AV} (h : floatA op k x y = some v) (t : TypeId) : ∃ u, (binOp op t (.float k x) (.float k y)).run P w = .ok u w ∧ DV w π v u := by
  cases op <;> simp only [floatA] at h <;> try (cases h; done)
  case add => simp only [Option.map_eq_some_iff] at h; obtain ⟨n, hn, rfl⟩ := h; exact ⟨_, by simp [binOp, Op.floatArith, hn], .float _ _⟩
  case sub => simp only [Option.map_eq_some_iff] at h; obtain ⟨n, hn, rfl⟩ := h; exact ⟨_, by simp [binOp, Op.floatArith, hn], .float _ _⟩
  case mul => simp only [Option.map_eq_some_iff] at h; obtain ⟨n, hn, rfl⟩ := h; exact ⟨_, by simp [binOp, Op.floatArith, hn], .float _ _⟩
  case quo => simp only [Option.map_eq_some_iff] at h; obtain ⟨n, hn, rfl⟩ := h; exact ⟨_, by simp [binOp, Op.floatArith, hn], .float _ _⟩
  all_goals (cases h; exact ⟨_, by simp [binOp, Op.floatCmp], .bool _⟩)

theorem bool_run {P : Program} {w : World} {t : TypeId} (h : P.underlying t = some .bool) (x y : Bool) : (Op.equal t (.bool x) (.bool y)).run P w = .ok (x == y) w := by
  exact run_equalIn_bool' w 9999 t x y h

/-- the guard at '==' has nothing to say of numbers and bools -/
theorem guard_run (op : BinOp) (t : TypeId) (X Y : Operand) {x y : Value} (h1 : ∀ u, x ≠ .agg u) (h2 : x ≠ .nilIface) : (eqGuard op t X Y x y).run P w = .ok () w := by
  unfold eqGuard
  cases x <;> first | exact absurd rfl h2 | exact absurd rfl (h1 _) | (cases op <;> rfl)

theorem bin_run {op : BinOp} {t : TypeId} (ht : scalarB P t = true) {a b v : AV} {X Y : Operand} {x y : Value} (h : binA op a b = some v) (ha : DV w π a x) (hb : DV w π b y) :
    ∃ u, (do eqGuard op t X Y x y; binOp op t x y : Sem Value).run P w = .ok u w ∧ DV w π v u := by
  unfold binA at h
  split at h
  · cases ha; cases hb
    obtain ⟨u, hu, hd⟩ := shift_run (P := P) (w := w) (π := π) h
    refine ⟨u, ?_, hd⟩
    rw [Sem.run_bind, guard_run _ _ _ _ (fun _ h => by cases h) (fun h => by cases h)]
    exact hu .i64
  · cases ha; cases hb
    obtain ⟨u, hu, hd⟩ := shift_run (P := P) (w := w) (π := π) h
    refine ⟨u, ?_, hd⟩
    rw [Sem.run_bind, guard_run _ _ _ _ (fun _ h => by cases h) (fun h => by cases h)]
    exact hu .i64
  · rename_i hs1 hs2
    split at h
    · rename_i hk
      subst hk
      cases ha; cases hb
      obtain ⟨u, hu, hd⟩ := int_run (P := P) (w := w) (π := π) (fun e => hs1 e) (fun e => hs2 e) h t
      refine ⟨u, ?_, hd⟩
      rw [Sem.run_bind, guard_run _ _ _ _ (fun _ h => by cases h) (fun h => by cases h)]
      exact hu
    · cases h
  · split at h
    · rename_i hk
      subst hk
      cases ha; cases hb
      obtain ⟨u, hu, hd⟩ := float_run (P := P) (w := w) (π := π) h t
      refine ⟨u, ?_, hd⟩
      rw [Sem.run_bind, guard_run _ _ _ _ (fun _ h => by cases h) (fun h => by cases h)]
      exact hu
    · cases h
  · cases h

theorem bb_run {op : BinOp} {neg : Bool} (hop : (op = .eql ∧ neg = false) ∨ (op = .neq ∧ neg = true)) {t : TypeId} (ht : boolB P t = true) {a b v : AV} {X Y : Operand} {x y : Value} (h : bbA neg a b = some v) (ha : DV w π a x) (hb : DV w π b y) :
    ∃ u, (do eqGuard op t X Y x y; binOp op t x y : Sem Value).run P w = .ok u w ∧ DV w π v u := by
  have hu : P.underlying t = some .bool := by
    unfold boolB at ht
    split at ht
    · assumption
    · cases ht
  unfold bbA at h
  split at h
  · cases ha; cases hb; cases h
    rename_i x y
    have hr := bool_run (w := w) hu x y
    rcases hop with ⟨rfl, rfl⟩ | ⟨rfl, rfl⟩
    · refine ⟨.bool (x == y), ?_, .bool _⟩
      rw [Sem.run_bind, guard_run _ _ _ _ (fun _ h => by cases h) (fun h => by cases h)]
      simp [binOp, hr]
    · refine ⟨.bool (x != y), ?_, .bool _⟩
      rw [Sem.run_bind, guard_run _ _ _ _ (fun _ h => by cases h) (fun h => by cases h)]
      simp [binOp, hr, bne]
  · cases h

theorem un_run {op : UnOp} {a v : AV} {x : Value} (h : unA op a = some v) (ha : DV w π a x) : ∃ u, (Op.unary op x).run P w = .ok u w ∧ DV w π v u := by
  unfold unA at h
  split at h
  · cases ha; cases h; exact ⟨_, rfl, .int _ _⟩
  · cases ha
    simp only [Option.map_eq_some_iff] at h
    obtain ⟨n, hn, rfl⟩ := h
    exact ⟨_, bits_run hn, .int _ _⟩
  · cases ha; cases h; exact ⟨_, rfl, .float _ _⟩
  · cases ha; cases h; exact ⟨_, rfl, .bool _⟩
  · cases h

theorem conv_run {s d : TypeId} {X : Operand} {xo : Opd} {c : COp} (hc : cConv P s d xo = some c) {a v : AV} {x : Value} (ha : DV w π a x)
    (h : (∃ k, c = .cvII k xo ∧ cvIIA k a = some v) ∨ (∃ k, c = .cvIF k xo ∧ cvIFA k a = some v) ∨ (∃ k, c = .cvFI k xo ∧ cvFIA k a = some v)) :
    ∃ u, (convert s d x).run P w = .ok u w ∧ DV w π v u := by
  unfold cConv at hc
  split at hc
  · rename_i k1 k2 hs hd
    cases hc
    rcases h with ⟨k, e, h⟩ | ⟨k, e, h⟩ | ⟨k, e, h⟩ <;> try (cases e; done)
    cases e
    unfold cvIIA at h
    split at h
    · cases ha; cases h
      exact ⟨_, by simp [convert, run_underlying hs, run_underlying hd, Conv.intToInt], .int _ _⟩
    · cases h
  · rename_i k1 k2 hs hd
    cases hc
    rcases h with ⟨k, e, h⟩ | ⟨k, e, h⟩ | ⟨k, e, h⟩ <;> try (cases e; done)
    cases e
    unfold cvIFA at h
    split at h
    · cases ha; cases h
      exact ⟨_, by simp [convert, run_underlying hs, run_underlying hd, Conv.intToFloat], .float _ _⟩
    · cases h
  · rename_i k1 k2 hs hd
    cases hc
    rcases h with ⟨k, e, h⟩ | ⟨k, e, h⟩ | ⟨k, e, h⟩ <;> try (cases e; done)
    cases e
    unfold cvFIA at h
    split at h
    · rename_i sk bb
      cases ha
      split at h
      · rename_i n hn
        split at h
        · rename_i hr
          cases h
          exact ⟨_, by simp [convert, run_underlying hs, run_underlying hd, Conv.floatToInt, hn, hr], .int _ _⟩
        · cases h
      · cases h
    · cases h
  · cases hc

theorem len_run {t e : TypeId} (he : P.underlying t = some (.slice e)) {Ts : Array TypeId} {Xs : Array Value} {a v : AV} {x : Value} (hT : Ts[0]? = some t) (hX : Xs[0]? = some x) (ha : DV w π a x) (h : lenA a = some v) (ty : TypeId) :
    ∃ u, (Builtin.len_ Ts ty Xs).run P w = .ok u w ∧ DV w π v u := by
  unfold lenA at h
  split at h
  · cases ha; cases h
    exact ⟨_, by simp [Builtin.len_, hT, hX, run_underlying he]; rfl, .int _ _⟩
  · cases ha; cases h
    exact ⟨_, by simp [Builtin.len_, hT, hX, run_underlying he]; rfl, .int _ _⟩
  · cases h
end
end Go.Eng
