/- ENGINE, PART 4: what an abstract value has to do with a real one; the contract of a function; the relation of states. -/
import Derived.Test.YtmdlpepjodcjeaaEng2
import Derived.RangeFuncNested
import Derived.RangeFuncLeaves
import Derived.OrdersIn
import Derived.LoopNIn
namespace Go.Eng
set_option linter.unusedVariables false
set_option linter.unusedSimpArgs false
set_option linter.unnecessarySimpa false
open Go
open Go.RowKit (Below)

inductive DV (w : World) (π : Nat → Nat → Prop) : AV → Value → Prop
  | bool (b : Bool) : DV w π (.bool b) (.bool b)
  | int (k : IntKind) (n : Int) : DV w π (.int k n) (.int k n)
  | float (k : FloatKind) (n : Nat) : DV w π (.float k n) (.float k n)
  | str (s : ByteArray) : DV w π (.str s) (.string s)
  | nilp : DV w π .nilp (.pointer none)
  | nils : DV w π .nils (.slice none 0 0)
  | nilfn : DV w π .nilfn .nilFunc
  | nilif : DV w π .nilif .nilIface
  | iface (t : Nat) (a : AV) (v : Value) : DV w π a v → DV w π (.iface t a) (.iface t v)
  | agg (as : List AV) (vs : Array Value) : as.length = vs.size → (∀ a ∈ as, a.scalar = true) → (∀ (i : Nat) (a : AV) (v : Value), as[i]? = some a → vs[i]? = some v → DV w π a v) → DV w π (.agg as) (.agg vs)
  | tup (as : List AV) (vs : Array Value) : as.length = vs.size → (∀ (i : Nat) (a : AV) (v : Value), as[i]? = some a → vs[i]? = some v → DV w π a v) → DV w π (.tup as) (.tuple vs)
  | fn (f : Fn) (as : List AV) (vs : Array Value) (bs : List AV) (us : Array Value) : as.length = vs.size → bs.length = us.size →
      (∀ (i : Nat) (a : AV) (v : Value), as[i]? = some a → vs[i]? = some v → DV w π a v) → (∀ (i : Nat) (a : AV) (v : Value), bs[i]? = some a → us[i]? = some v → DV w π a v) → DV w π (.fn f as bs) (.func f vs us)
  | sl (xs : List (List AV)) (B off cap z : Nat) (f : Nat → Nat → Value) : xs.length ≤ cap → (∀ (i : Nat) (r : List AV), xs[i]? = some r → r.length = z) →
      (∀ (i j : Nat) (r : List AV) (a : AV), xs[i]? = some r → r[j]? = some a → a.scalar = true) →
      (∀ (i j : Nat) (r : List AV) (a : AV), xs[i]? = some r → r[j]? = some a → π B (off + i * z + j)) →
      (∀ (i j : Nat) (r : List AV) (a : AV), xs[i]? = some r → r[j]? = some a → w.cell? ⟨B, off + i * z + j, none⟩ = some (f i j)) →
      (∀ (i j : Nat) (r : List AV) (a : AV), xs[i]? = some r → r[j]? = some a → DV w π a (f i j)) → DV w π (.sl xs) (.slice (some ⟨B, off, none⟩) xs.length cap)
  | ref (cs : List AV) (B off : Nat) (f : Nat → Value) : (∀ (j : Nat) (a : AV), cs[j]? = some a → a.scalar = true) → (∀ (j : Nat) (a : AV), cs[j]? = some a → π B (off + j)) →
      (∀ (j : Nat) (a : AV), cs[j]? = some a → w.cell? ⟨B, off + j, none⟩ = some (f j)) → (∀ (j : Nat) (a : AV), cs[j]? = some a → DV w π a (f j)) → DV w π (.ref cs) (.pointer (some ⟨B, off, none⟩))

theorem DV.mono {w w' : World} {π π' : Nat → Nat → Prop} (hp : ∀ b o, π b o → π' b o) (hc : ∀ b o, π b o → w'.cell? ⟨b, o, none⟩ = w.cell? ⟨b, o, none⟩) {a : AV} {v : Value} (h : DV w π a v) : DV w' π' a v := by
  induction h with
  | bool | int | float | str | nilp | nils | nilfn | nilif => constructor
  | iface t a v _ ih => exact .iface t a v ih
  | agg as vs hl hs _ ih => exact .agg as vs hl hs ih
  | tup as vs hl _ ih => exact .tup as vs hl ih
  | fn f as vs bs us h1 h2 _ _ ih1 ih2 => exact .fn f as vs bs us h1 h2 ih1 ih2
  | sl xs B off cap z f h1 h2 h3 h4 h5 _ ih =>
    exact .sl xs B off cap z f h1 h2 h3 (fun i j r a hr ha => hp _ _ (h4 i j r a hr ha)) (fun i j r a hr ha => (hc _ _ (h4 i j r a hr ha)).trans (h5 i j r a hr ha)) ih
  | ref cs B off f h1 h2 h3 _ ih => exact .ref cs B off f h1 (fun j a ha => hp _ _ (h2 j a ha)) (fun j a ha => (hc _ _ (h2 j a ha)).trans (h3 j a ha)) ih

/-- lists of values -/
def DVs (w : World) (π : Nat → Nat → Prop) (as : List AV) (vs : List Value) : Prop :=
  as.length = vs.length ∧ ∀ (i : Nat) (a : AV) (v : Value), as[i]? = some a → vs[i]? = some v → DV w π a v

theorem DVs.mono {w w' : World} {π π' : Nat → Nat → Prop} (hp : ∀ b o, π b o → π' b o) (hc : ∀ b o, π b o → w'.cell? ⟨b, o, none⟩ = w.cell? ⟨b, o, none⟩) {as : List AV} {vs : List Value} (h : DVs w π as vs) : DVs w' π' as vs :=
  ⟨h.1, fun i a v ha hv => (h.2 i a v ha hv).mono hp hc⟩

theorem DVs.nil (w : World) (π : Nat → Nat → Prop) : DVs w π [] [] := ⟨rfl, fun i a v h => by simp at h⟩
theorem DVs.cons {w : World} {π : Nat → Nat → Prop} {a : AV} {v : Value} {as : List AV} {vs : List Value} (h : DV w π a v) (hs : DVs w π as vs) : DVs w π (a :: as) (v :: vs) := by
  refine ⟨by simp [hs.1], fun i x u hx hu => ?_⟩
  cases i with
  | zero => simp at hx hu; subst hx; subst hu; exact h
  | succ i => exact hs.2 i x u (by simpa using hx) (by simpa using hu)
theorem DVs.append {w : World} {π : Nat → Nat → Prop} {as bs : List AV} {vs us : List Value} (h : DVs w π as vs) (k : DVs w π bs us) : DVs w π (as ++ bs) (vs ++ us) := by
  refine ⟨by simp [h.1, k.1], fun i x u hx hu => ?_⟩
  by_cases hi : i < as.length
  · exact h.2 i x u (by rwa [List.getElem?_append_left hi] at hx) (by rwa [List.getElem?_append_left (by rw [← h.1]; exact hi)] at hu)
  · rw [List.getElem?_append_right (by omega)] at hx
    rw [List.getElem?_append_right (by rw [← h.1]; omega)] at hu
    exact k.2 (i - as.length) x u hx (by rw [h.1]; exact hu)
theorem DVs.get {w : World} {π : Nat → Nat → Prop} {as : List AV} {vs : List Value} (h : DVs w π as vs) {i : Nat} {a : AV} (ha : as[i]? = some a) : ∃ v, vs[i]? = some v ∧ DV w π a v := by
  have hi : i < as.length := by
    rcases Nat.lt_or_ge i as.length with h | h
    · exact h
    · rw [List.getElem?_eq_none h] at ha; cases ha
  have hv : vs[i]? = some vs[i]! := by
    rw [List.getElem?_eq_getElem (by rw [← h.1]; exact hi)]
    simp [getElem!_pos vs i (by rw [← h.1]; exact hi)]
  exact ⟨_, hv, h.2 i a _ ha hv⟩

/-- a value without parts fills one cell -/
theorem DV.oneCell {w : World} {π : Nat → Nat → Prop} {a : AV} {v : Value} (h : DV w π a v) (hs : a.scalar = true) : v.oneCell' = true := by
  cases h <;> first | rfl | (simp [AV.scalar] at hs)

theorem DV.cells {w : World} {π : Nat → Nat → Prop} {a : AV} {v : Value} (h : DV w π a v) (ht : ∀ vs, a ≠ .tup vs) : DVs w π a.cells v.cells.toList ∧ ∀ x ∈ a.cells, x.scalar = true := by
  cases h with
  | agg as vs hl hs hd => exact ⟨⟨by simpa [AV.cells, Value.cells] using hl, fun i a v ha hv => hd i a v ha (by simpa [Value.cells] using hv)⟩, hs⟩
  | tup as vs => exact absurd rfl (ht as)
  | bool b => exact ⟨.cons (.bool b) (.nil _ _), by simp [AV.cells, AV.scalar]⟩
  | int k n => exact ⟨.cons (.int k n) (.nil _ _), by simp [AV.cells, AV.scalar]⟩
  | float k n => exact ⟨.cons (.float k n) (.nil _ _), by simp [AV.cells, AV.scalar]⟩
  | str s => exact ⟨.cons (.str s) (.nil _ _), by simp [AV.cells, AV.scalar]⟩
  | nilp => exact ⟨.cons .nilp (.nil _ _), by simp [AV.cells, AV.scalar]⟩
  | nils => exact ⟨.cons .nils (.nil _ _), by simp [AV.cells, AV.scalar]⟩
  | nilfn => exact ⟨.cons .nilfn (.nil _ _), by simp [AV.cells, AV.scalar]⟩
  | nilif => exact ⟨.cons .nilif (.nil _ _), by simp [AV.cells, AV.scalar]⟩
  | iface t a v h => exact ⟨.cons (.iface t a v h) (.nil _ _), by simp [AV.cells, AV.scalar]⟩
  | fn f as vs bs us h1 h2 h3 h4 => exact ⟨.cons (.fn f as vs bs us h1 h2 h3 h4) (.nil _ _), by simp [AV.cells, AV.scalar]⟩
  | ref cs B off f h1 h2 h3 h4 => exact ⟨.cons (.ref cs B off f h1 h2 h3 h4) (.nil _ _), by simp [AV.cells, AV.scalar]⟩
  | sl xs B off cap z f h1 h2 h3 h4 h5 h6 => exact ⟨.cons (.sl xs B off cap z f h1 h2 h3 h4 h5 h6) (.nil _ _), by simp [AV.cells, AV.scalar]⟩

theorem ofV1_DV {w : World} {π : Nat → Nat → Prop} {v : Value} {a : AV} (h : ofV1 v = some a) : DV w π a v ∧ a.scalar = true := by
  unfold ofV1 at h
  split at h <;> first | (cases h; exact ⟨by constructor, rfl⟩) | cases h

theorem mapM_ofV1 {w : World} {π : Nat → Nat → Prop} : ∀ (l : List Value) (as : List AV), l.mapM ofV1 = some as → DVs w π as l ∧ ∀ a ∈ as, a.scalar = true
  | [], as, h => by simp at h; subst h; exact ⟨.nil _ _, by simp⟩
  | v :: l, as, h => by
    simp only [List.mapM_cons, Option.bind_eq_bind, Option.bind_eq_some_iff, Option.pure_def, Option.some.injEq] at h
    obtain ⟨a, ha, as', has, rfl⟩ := h
    have h1 := ofV1_DV (w := w) (π := π) ha
    have h2 := mapM_ofV1 (w := w) (π := π) l as' has
    exact ⟨.cons h1.1 h2.1, by simpa using ⟨h1.2, h2.2⟩⟩

theorem ofV_DV {w : World} {π : Nat → Nat → Prop} {v : Value} {a : AV} (h : ofV v = some a) : DV w π a v := by
  unfold ofV at h
  split at h
  · rename_i cs
    simp only [Option.map_eq_some_iff] at h
    obtain ⟨as, has, rfl⟩ := h
    have h2 := mapM_ofV1 (w := w) (π := π) _ _ has
    exact .agg as cs (by simpa using h2.1.1) h2.2 (fun i a v ha hv => h2.1.2 i a v ha (by simpa using hv))
  · exact (ofV1_DV h).1

/-! ### the contract of a function that touches nothing of what was there -/

/-- which blocks may be written: those from n on, and the foreign ones X; the foreign ones' numbers -/
structure Fen where
  n : Nat
  X : Nat → Prop
  β : Nat → Nat

def Fen.ok (F : Fen) (B : Nat) : Prop := F.n ≤ B ∨ F.X B
/-- a box's block: of one's own, or (of the first numbers) a foreign one -/
def Fen.okb (F : Fen) (b B : Nat) : Prop := F.n ≤ B ∨ (b < 4 ∧ F.X B)
def Fen.top (w : World) : Fen := ⟨w.heap.size, fun _ => False, id⟩

/-- as 'Below', save in the foreign blocks -/
structure Blw (n : Fen) (w w' : World) : Prop where
  os : w'.os = w.os
  tape : w'.tape = w.tape
  output : w'.output = w.output
  size : w.heap.size ≤ w'.heap.size
  block : ∀ k, k < n.n → ¬ n.X k → w'.heap[k]? = w.heap[k]?
  /-- what is no variables' block lies as it lay -/
  others : ∀ (k : Nat) (o : Obj), w.heap[k]? = some o → o.isCells = false → w'.heap[k]? = some o

theorem Blw.refl (n : Fen) (w : World) : Blw n w w := ⟨rfl, rfl, rfl, Nat.le_refl _, fun _ _ _ => rfl, fun _ _ h _ => h⟩
theorem Blw.trans {n : Fen} {a b c : World} (h : Blw n a b) (k : Blw n b c) : Blw n a c :=
  ⟨k.os.trans h.os, k.tape.trans h.tape, k.output.trans h.output, Nat.le_trans h.size k.size, fun i hi hx => (k.block i hi hx).trans (h.block i hi hx), fun i o hi ho => k.others i o (h.others i o hi ho) ho⟩
theorem Blw.of {n : Fen} {w w' : World} (h : Below w.heap.size w w') (hn : n.n ≤ w.heap.size) : Blw n w w' := ⟨h.os, h.tape, h.output, h.size, fun k hk _ => h.block k (by omega), fun k o hk _ => (h.block k (Array.getElem?_eq_some_iff.1 hk).1).trans hk⟩
theorem Blw.below {n : Fen} {w w' : World} (h : Blw n w w') (hX : ∀ k, ¬ n.X k) : Below n.n w w' := ⟨h.os, h.tape, h.output, h.size, fun k hk => h.block k hk (hX k)⟩

/-- a slice that may be appended to: nil, or at the head of a block of its own whose cells behind its length nobody reads -/
def Tok (P : Program) (w : World) (π : Nat → Nat → Prop) (n0 e : Nat) (v : Value) : Prop :=
  v = .slice none 0 0 ∨ ∃ B len cap cur i, v = .slice (some ⟨B, 0, none⟩) len cap ∧ n0 ≤ B ∧ w.heap[B]? = some (.cells cur e (0, 0)) ∧ len ≤ cap ∧ cap ≤ maxLen ∧ P.info? e = some i ∧ cur.size = cap * i.size ∧ ∀ o, len * i.size ≤ o → ¬ π B o

def ownB : Value → Option Nat
  | .slice (some a) _ _ => some a.block
  | _ => none

def Pure0 (P : Program) (f : FuncId) (args : List AV) (r : AV) (fr : Option Nat) : Prop :=
  callable P f = true ∧
  ∀ (w : World) (π : Nat → Nat → Prop) (vs : List Value), (∀ b o, π b o → b < w.heap.size) → DVs w π args vs →
    Calls P f vs.toArray w fun e w' => ∃ v π', e = .returned v ∧ Below w.heap.size w w' ∧ (∀ b o, π b o → π' b o) ∧ (∀ b o, π' b o → π b o ∨ w.heap.size ≤ b) ∧
      (∀ b o, π' b o → b < w'.heap.size) ∧ DV w' π' r v ∧ ∀ t, fr = some t → Tok P w' π' w.heap.size t v

/-! ### states -/

def RV (β : Nat → Nat) (τ : Nat → Value) (w : World) (π : Nat → Nat → Prop) : SV → Value → Prop
  | .dat a q, v => DV w π a v ∧ ∀ t, q = some t → v = τ t
  | .ptr b off, v => v = .pointer (some ⟨β b, off, none⟩)
  | .rp cs, v => ∃ (B off : Nat) (f : Nat → Value), v = .pointer (some ⟨B, off, none⟩) ∧ (∀ (j : Nat) (a : AV), cs[j]? = some a → a.scalar = true) ∧ (∀ (j : Nat) (a : AV), cs[j]? = some a → π B (off + j)) ∧
      (∀ (j : Nat) (a : AV), cs[j]? = some a → w.cell? ⟨B, off + j, none⟩ = some (f j)) ∧ ∀ (j : Nat) (a : AV), cs[j]? = some a → DV w π a (f j)
  | .undef, v => v = undef

/-- the numbers that a value bears are in U -/
def SV.inU (U : Nat → Prop) : SV → Prop
  | .dat _ (some q) => U q
  | .ptr b _ => U b
  | _ => True

def BoxR (τ : Nat → Value) (w : World) (π : Nat → Nat → Prop) (B : Nat) (x : Box) : Prop :=
  ∃ cur el, w.heap[B]? = some (.cells cur el (0, 0)) ∧ DVs w π x.cells cur.toList ∧ (∀ a ∈ x.cells, a.scalar = true) ∧ (∀ o q, lkN o x.tags = some q → cur[o]? = some (τ q)) ∧ ∀ o, ¬ π B o

/-- the foreign boxes, in order -/
def BoxesAt (w : World) (π : Nat → Nat → Prop) : List (List AV) → List Nat → Prop
  | [], [] => True
  | cs :: css, B :: Bs => BoxR (fun _ => undef) w π B ⟨cs, []⟩ ∧ BoxesAt w π css Bs
  | _, _ => False

/-- the arguments: values, and the boxes' heads in order -/
def ArgsR (w : World) (π : Nat → Nat → Prop) : List (Option AV) → List Nat → List Value → Prop
  | [], [], [] => True
  | some a :: as, Bs, v :: vs => DV w π a v ∧ ArgsR w π as Bs vs
  | none :: as, B :: Bs, v :: vs => v = .pointer (some ⟨B, 0, none⟩) ∧ ArgsR w π as Bs vs
  | _, _, _ => False

def Fen.topB (w : World) (Bs : List Nat) : Fen := ⟨w.heap.size, fun B => B ∈ Bs, fun k => Bs.getD k 0⟩

/-- the contract of a function that is given pointers, and writes nothing else of what was there -/
def PureB (P : Program) (f : FuncId) (css : List (List AV)) (args : List (Option AV)) (r : AV) (fr : Option Nat) (css' : List (List AV)) : Prop :=
  callable P f = true ∧ css'.length = css.length ∧ css.length ≤ 4 ∧
  ∀ (w : World) (π : Nat → Nat → Prop) (Bs : List Nat) (vs : List Value), (∀ b o, π b o → b < w.heap.size) → Bs.Nodup → BoxesAt w π css Bs → ArgsR w π args Bs vs →
    Calls P f vs.toArray w fun e w' => ∃ v π', e = .returned v ∧ Blw (Fen.topB w Bs) w w' ∧ (∀ b o, π b o → π' b o) ∧ (∀ b o, π' b o → π b o ∨ w.heap.size ≤ b) ∧
      (∀ b o, π' b o → b < w'.heap.size) ∧ BoxesAt w' π' css' Bs ∧ DV w' π' r v ∧ ∀ t, fr = some t → Tok P w' π' w.heap.size t v

/-- values without memory, as real ones -/
def val1 : AV → Value
  | .bool b => .bool b
  | .int k n => .int k n
  | .float k n => .float k n
  | .str s => .string s
  | .nilp => .pointer none
  | .nils => .slice none 0 0
  | _ => undef
def flat1 : AV → Bool
  | .bool _ | .int .. | .float .. | .str _ | .nilp | .nils => true
  | _ => false
def valA : AV → Value
  | .agg cs => .agg (cs.map val1).toArray
  | a => val1 a
def flatV : AV → Bool
  | .agg cs => cs.all flat1
  | a => flat1 a
theorem DV.flat1 {w : World} {π : Nat → Nat → Prop} {a : AV} (h : Eng.flat1 a = true) : DV w π a (val1 a) := by
  cases a <;> first | (simp [Eng.flat1] at h; done) | constructor
theorem DV.flat {w : World} {π : Nat → Nat → Prop} {a : AV} (h : flatV a = true) : DV w π a (valA a) := by
  cases a with
  | agg cs =>
    simp only [flatV, List.all_eq_true] at h
    refine .agg cs _ (by simp) (fun a ha => ?_) (fun i a v ha hv => ?_)
    · have := h a ha; cases a <;> first | rfl | (simp [Eng.flat1] at this; done)
    · simp only [List.getElem?_toArray, List.getElem?_map, ha, Option.map_some, Option.some.injEq] at hv
      subst hv; exact .flat1 (h a (List.mem_of_getElem? ha))
  | _ => first | exact .flat1 h | (simp [flatV, Eng.flat1] at h; done)

/-- A FUNCTION THAT IS RANGED OVER: whatever a round does that keeps the captured values, it yields these, one after the other, and touches nothing of what was there -/
def Iter (P : Program) (gv : AV) (xs : List (List AV)) : Prop :=
  ∃ gf caps, gv = .fn (.func gf) [] caps ∧ callable P gf = true ∧ (∀ x ∈ xs, ∀ a ∈ x, flatV a = true) ∧
  ∀ (l : Nat) (J : Nat → World → Prop) (Jx : World → Prop) (W : World) (π : Nat → Nat → Prop) (vs : List Value), (∀ b o, π b o → b < W.heap.size) → DVs W π caps vs →
    (∀ i W', J i W' → ∀ b o, π b o → W'.cell? ⟨b, o, none⟩ = W.cell? ⟨b, o, none⟩) →
    (∀ i W W', J i W → Below W.heap.size W W' → J i W') → (∀ W W', Jx W → Below W.heap.size W W' → Jx W') →
    (∀ n i x W, xs[i]? = some x → J i W → YieldAt Fence.wide n P l (x.map valA).toArray W fun e W' => (e = .returned (.bool true) ∧ J (i + 1) W') ∨ (e = .returned (.bool false) ∧ Jx W')) →
    J 0 W →
    Calls P gf (#[.func (.yield l) #[] #[]] ++ vs.toArray) W fun e W' => (∃ v, e = .returned v) ∧ (J xs.length W' ∨ Jx W')

def Pure (P : Program) : Con := ⟨Pure0 P, PureB P, Iter P⟩

structure Rel (P : Program) (nt : Nat) (n0 : Fen) (w0 : World) (π0 : Nat → Nat → Prop) (U : Nat → Prop) (s : S) (a : Act) (w : World) (β : Nat → Nat) (τ : Nat → Value) (π : Nat → Nat → Prop) : Prop where
  size : a.tmps.size = nt
  slots : ∀ t v, lk t s.slots = some v → (∃ x, a.tmps[t]? = some x ∧ RV β τ w π v x) ∧ v.inU U
  boxes : ∀ b x, lkB b s.boxes = some x → U b ∧ n0.okb b (β b) ∧ BoxR τ w π (β b) x ∧ ∀ o q, lkN o x.tags = some q → U q
  inj : ∀ b b' x x', lkB b s.boxes = some x → lkB b' s.boxes = some x' → β b = β b' → b = b'
  live : ∀ q e, lkN q s.live = some e → U q ∧ Tok P w π n0.n e (τ q)
  liveInj : ∀ q q' e e' B, lkN q s.live = some e → lkN q' s.live = some e' → ownB (τ q) = some B → ownB (τ q') = some B → q = q'
  liveBox : ∀ q e b x, lkN q s.live = some e → lkB b s.boxes = some x → ownB (τ q) ≠ some (β b)
  below : Blw n0 w0 w
  n0le : n0.n ≤ w0.heap.size
  prot : ∀ b o, π b o → b < w.heap.size
  prot0 : ∀ b o, π0 b o → π b o
  protOld : ∀ b o, π b o → π0 b o ∨ n0.n ≤ b
  fore : ∀ k, k < 4 → β k = n0.β k
  foreU : ∀ k, k < 4 → U k
  kept : ∀ b o, π0 b o → w.cell? ⟨b, o, none⟩ = w0.cell? ⟨b, o, none⟩

end Go.Eng
