/-
An abstract machine over simple memory: values, blocks, and what they say of the model's values and worlds.
-/
import Derived.WalkKit
import Derived.Orders
namespace Go.Abs
open Go

/-! ### Values -/
inductive AVal where
  | undef
  | void
  | bool (b : Bool)
  | int (k : IntKind) (n : Int)
  | str (s : ByteArray)
  | ptr (p : Option (Nat × Nat))
  | lptr (t off : Nat)
  | slice (b : Option Nat) (off len sz : Nat)
  | lslice (t len sz : Nat)
  | map (b : Option Nat)
  | func (fn : Fn) (caps : List AVal)
  | nilfunc
  | iface (t : TypeId) (v : AVal)
  | niliface
  | agg (cs : List AVal)
  | tuple (cs : List AVal)
  deriving Inhabited

inductive Mode where | ro | rw | dead
  deriving DecidableEq

/-- A block of the abstract memory: a row of cells, or a map. -/
inductive Blk where
  | row (cells : List AVal) (mode : Mode)
  | map (es : List (AVal × AVal))

/-- A place of a frame's own: none, a row of cells, or the iterator of a range over a string. -/
inductive LBlk where
  | none
  | cells (cs : List AVal)
  | iter (s : ByteArray) (pos : Nat)
  | fcells (cs : List AVal)
  | fiter (s : ByteArray) (pos : Nat)
  deriving Inhabited

abbrev Heap := List Blk

/-- Where an abstract block lies: a block of the world, the place in it, its size. -/
structure Pl where
  blk : Nat
  off : Nat
  size : Nat

abbrev Mp := Nat → Option Pl
abbrev Lp := Nat → Option Nat

mutual
def VRel (ρ : Mp) (lm : Lp) : AVal → Value → Prop
  | .undef, _ => True
  | .void, v => v = Go.undef
  | .bool b, v => v = .bool b
  | .int k n, v => v = .int k n
  | .str s, v => v = .string s
  | .ptr (some (b, o)), v => ∃ pl, ρ b = some pl ∧ v = .pointer (some ⟨pl.blk, pl.off + o, none⟩)
  | .ptr none, v => v = .pointer none
  | .lptr t o, v => ∃ k, lm t = some k ∧ v = .pointer (some ⟨k, o, none⟩)
  | .slice none o n _, v => o = 0 ∧ n = 0 ∧ v = .slice none 0 0
  | .slice (some b) o n z, v => ∃ pl a cap, ρ b = some pl ∧ v = .slice (some a) n cap ∧ n ≤ cap ∧ cap ≤ 9223372036854775807 ∧
      (cap = 0 ∨ (a = ⟨pl.blk, pl.off + o, none⟩ ∧ pl.off + o + cap * z ≤ pl.size))
  | .lslice t n _, v => ∃ k, lm t = some k ∧ v = .slice (some ⟨k, 0, none⟩) n n
  | .map none, v => v = .map none
  | .map (some b), v => ∃ pl, ρ b = some pl ∧ v = .map (some pl.blk)
  | .func fn caps, v => ∃ vs : List Value, v = .func fn #[] vs.toArray ∧ VRels ρ lm caps vs
  | .nilfunc, v => v = .nilFunc
  | .iface t x, v => ∃ y, v = .iface t y ∧ VRel ρ lm x y
  | .niliface, v => v = .nilIface
  | .agg cs, v => ∃ vs : List Value, v = .agg vs.toArray ∧ VRels ρ lm cs vs
  | .tuple cs, v => ∃ vs : List Value, v = .tuple vs.toArray ∧ VRels ρ lm cs vs
def VRels (ρ : Mp) (lm : Lp) : List AVal → List Value → Prop
  | [], vs => vs = []
  | c :: cs, vs => ∃ v vs', vs = v :: vs' ∧ VRel ρ lm c v ∧ VRels ρ lm cs vs'
end

mutual
/-- No place of the frame's own in it. -/
def AVal.noLoc : AVal → Bool
  | .lptr _ _ | .lslice _ _ _ => false
  | .func _ caps => noLocs caps
  | .iface _ v => v.noLoc
  | .agg cs => noLocs cs
  | .tuple cs => noLocs cs
  | _ => true
def noLocs : List AVal → Bool
  | [] => true
  | c :: cs => c.noLoc && noLocs cs
end

mutual
/-- Does it lead to the frame's own place t? -/
def AVal.hasT (t : Nat) : AVal → Bool
  | .lptr s _ | .lslice s _ _ => s == t
  | .func _ caps => hasTs t caps
  | .iface _ v => v.hasT t
  | .agg cs => hasTs t cs
  | .tuple cs => hasTs t cs
  | _ => false
def hasTs (t : Nat) : List AVal → Bool
  | [] => false
  | c :: cs => c.hasT t || hasTs t cs
end

mutual
theorem VRel.noLoc {ρ : Mp} {lm lm' : Lp} : ∀ {x : AVal} {v : Value}, x.noLoc = true → VRel ρ lm x v → VRel ρ lm' x v
  | .undef, _, _, _ => by simp [VRel]
  | .void, _, _, h => by simpa [VRel] using h
  | .bool _, _, _, h => by simpa [VRel] using h
  | .int _ _, _, _, h => by simpa [VRel] using h
  | .str _, _, _, h => by simpa [VRel] using h
  | .ptr none, _, _, h => by simpa [VRel] using h
  | .ptr (some (_, _)), _, _, h => by simpa [VRel] using h
  | .lptr _ _, _, hn, _ => by simp [AVal.noLoc] at hn
  | .slice none _ _ _, _, _, h => by simpa [VRel] using h
  | .slice (some _) _ _ _, _, _, h => by simpa [VRel] using h
  | .lslice _ _ _, _, hn, _ => by simp [AVal.noLoc] at hn
  | .map none, _, _, h => by simpa [VRel] using h
  | .map (some _), _, _, h => by simpa [VRel] using h
  | .func _ caps, _, hn, h => by
    obtain ⟨vs, e, h⟩ := by simpa only [VRel] using h
    simp only [VRel]
    exact ⟨vs, e, VRels.noLoc (by simpa [AVal.noLoc] using hn) h⟩
  | .nilfunc, _, _, h => by simpa [VRel] using h
  | .iface _ x, _, hn, h => by
    obtain ⟨y, e, h⟩ := by simpa only [VRel] using h
    simp only [VRel]
    exact ⟨y, e, VRel.noLoc (by simpa [AVal.noLoc] using hn) h⟩
  | .niliface, _, _, h => by simpa [VRel] using h
  | .agg cs, _, hn, h => by
    obtain ⟨vs, e, h⟩ := by simpa only [VRel] using h
    simp only [VRel]
    exact ⟨vs, e, VRels.noLoc (by simpa [AVal.noLoc] using hn) h⟩
  | .tuple cs, _, hn, h => by
    obtain ⟨vs, e, h⟩ := by simpa only [VRel] using h
    simp only [VRel]
    exact ⟨vs, e, VRels.noLoc (by simpa [AVal.noLoc] using hn) h⟩
theorem VRels.noLoc {ρ : Mp} {lm lm' : Lp} : ∀ {xs : List AVal} {vs : List Value}, noLocs xs = true → VRels ρ lm xs vs → VRels ρ lm' xs vs
  | [], _, _, h => by simpa [VRels] using h
  | c :: cs, _, hn, h => by
    obtain ⟨v, vs', e, h1, h2⟩ := by simpa only [VRels] using h
    simp only [noLocs, Bool.and_eq_true] at hn
    simp only [VRels]
    exact ⟨v, vs', e, VRel.noLoc hn.1 h1, VRels.noLoc hn.2 h2⟩
end

mutual
theorem VRel.mono {ρ ρ' : Mp} {lm lm' : Lp} (hr : ∀ b pl, ρ b = some pl → ρ' b = some pl) (hl : ∀ t k, lm t = some k → lm' t = some k) :
    ∀ {x : AVal} {v : Value}, VRel ρ lm x v → VRel ρ' lm' x v
  | .undef, _, _ => by simp [VRel]
  | .void, _, h => by simpa [VRel] using h
  | .bool _, _, h => by simpa [VRel] using h
  | .int _ _, _, h => by simpa [VRel] using h
  | .str _, _, h => by simpa [VRel] using h
  | .ptr none, _, h => by simpa [VRel] using h
  | .ptr (some (_, _)), _, h => by
    obtain ⟨pl, e, h⟩ := by simpa only [VRel] using h
    simp only [VRel]
    exact ⟨pl, hr _ _ e, h⟩
  | .lptr _ _, _, h => by
    obtain ⟨k, e, h⟩ := by simpa only [VRel] using h
    simp only [VRel]
    exact ⟨k, hl _ _ e, h⟩
  | .slice none _ _ _, _, h => by simpa [VRel] using h
  | .slice (some _) _ _ _, _, h => by
    obtain ⟨pl, a, cap, e, h⟩ := by simpa only [VRel] using h
    simp only [VRel]
    exact ⟨pl, a, cap, hr _ _ e, h⟩
  | .lslice _ _ _, _, h => by
    obtain ⟨k, e, h⟩ := by simpa only [VRel] using h
    simp only [VRel]
    exact ⟨k, hl _ _ e, h⟩
  | .map none, _, h => by simpa [VRel] using h
  | .map (some _), _, h => by
    obtain ⟨pl, e, h⟩ := by simpa only [VRel] using h
    simp only [VRel]
    exact ⟨pl, hr _ _ e, h⟩
  | .func _ caps, _, h => by
    obtain ⟨vs, e, h⟩ := by simpa only [VRel] using h
    simp only [VRel]
    exact ⟨vs, e, VRels.mono hr hl h⟩
  | .nilfunc, _, h => by simpa [VRel] using h
  | .iface _ x, _, h => by
    obtain ⟨y, e, h⟩ := by simpa only [VRel] using h
    simp only [VRel]
    exact ⟨y, e, VRel.mono hr hl h⟩
  | .niliface, _, h => by simpa [VRel] using h
  | .agg cs, _, h => by
    obtain ⟨vs, e, h⟩ := by simpa only [VRel] using h
    simp only [VRel]
    exact ⟨vs, e, VRels.mono hr hl h⟩
  | .tuple cs, _, h => by
    obtain ⟨vs, e, h⟩ := by simpa only [VRel] using h
    simp only [VRel]
    exact ⟨vs, e, VRels.mono hr hl h⟩
theorem VRels.mono {ρ ρ' : Mp} {lm lm' : Lp} (hr : ∀ b pl, ρ b = some pl → ρ' b = some pl) (hl : ∀ t k, lm t = some k → lm' t = some k) :
    ∀ {xs : List AVal} {vs : List Value}, VRels ρ lm xs vs → VRels ρ' lm' xs vs
  | [], _, h => by simpa [VRels] using h
  | c :: cs, _, h => by
    obtain ⟨v, vs', e, h1, h2⟩ := by simpa only [VRels] using h
    simp only [VRels]
    exact ⟨v, vs', e, VRel.mono hr hl h1, VRels.mono hr hl h2⟩
end

mutual
/-- The frame's own place t is another block now; nothing led to it. -/
theorem VRel.turn {ρ : Mp} {lm lm' : Lp} {t : Nat} (hl : ∀ s, s ≠ t → lm' s = lm s) : ∀ {x : AVal} {v : Value}, x.hasT t = false → VRel ρ lm x v → VRel ρ lm' x v
  | .undef, _, _, _ => by simp [VRel]
  | .void, _, _, h => by simpa [VRel] using h
  | .bool _, _, _, h => by simpa [VRel] using h
  | .int _ _, _, _, h => by simpa [VRel] using h
  | .str _, _, _, h => by simpa [VRel] using h
  | .ptr none, _, _, h => by simpa [VRel] using h
  | .ptr (some (_, _)), _, _, h => by simpa [VRel] using h
  | .lptr s _, _, hn, h => by
    simp only [AVal.hasT, beq_eq_false_iff_ne, ne_eq] at hn
    simp only [VRel] at h ⊢
    rwa [hl s hn]
  | .slice none _ _ _, _, _, h => by simpa [VRel] using h
  | .slice (some _) _ _ _, _, _, h => by simpa [VRel] using h
  | .lslice s _ _, _, hn, h => by
    simp only [AVal.hasT, beq_eq_false_iff_ne, ne_eq] at hn
    simp only [VRel] at h ⊢
    rwa [hl s hn]
  | .map none, _, _, h => by simpa [VRel] using h
  | .map (some _), _, _, h => by simpa [VRel] using h
  | .func _ caps, _, hn, h => by
    obtain ⟨vs, e, h⟩ := by simpa only [VRel] using h
    simp only [VRel]
    exact ⟨vs, e, VRels.turn hl (by simpa [AVal.hasT] using hn) h⟩
  | .nilfunc, _, _, h => by simpa [VRel] using h
  | .iface _ x, _, hn, h => by
    obtain ⟨y, e, h⟩ := by simpa only [VRel] using h
    simp only [VRel]
    exact ⟨y, e, VRel.turn hl (by simpa [AVal.hasT] using hn) h⟩
  | .niliface, _, _, h => by simpa [VRel] using h
  | .agg cs, _, hn, h => by
    obtain ⟨vs, e, h⟩ := by simpa only [VRel] using h
    simp only [VRel]
    exact ⟨vs, e, VRels.turn hl (by simpa [AVal.hasT] using hn) h⟩
  | .tuple cs, _, hn, h => by
    obtain ⟨vs, e, h⟩ := by simpa only [VRel] using h
    simp only [VRel]
    exact ⟨vs, e, VRels.turn hl (by simpa [AVal.hasT] using hn) h⟩
theorem VRels.turn {ρ : Mp} {lm lm' : Lp} {t : Nat} (hl : ∀ s, s ≠ t → lm' s = lm s) : ∀ {xs : List AVal} {vs : List Value}, hasTs t xs = false → VRels ρ lm xs vs → VRels ρ lm' xs vs
  | [], _, _, h => by simpa [VRels] using h
  | c :: cs, _, hn, h => by
    obtain ⟨v, vs', e, h1, h2⟩ := by simpa only [VRels] using h
    simp only [hasTs, Bool.or_eq_false_iff] at hn
    simp only [VRels]
    exact ⟨v, vs', e, VRel.turn hl hn.1 h1, VRels.turn hl hn.2 h2⟩
end

theorem VRels.length {ρ : Mp} {lm : Lp} : ∀ {xs : List AVal} {vs : List Value}, VRels ρ lm xs vs → vs.length = xs.length
  | [], _, h => by simp only [VRels] at h; simp [h]
  | _ :: _, _, h => by
    obtain ⟨v, vs', rfl, _, h2⟩ := by simpa only [VRels] using h
    simp [VRels.length h2]

theorem VRels.get {ρ : Mp} {lm : Lp} : ∀ {xs : List AVal} {vs : List Value}, VRels ρ lm xs vs → ∀ (j : Nat) (x : AVal), xs[j]? = some x → ∃ v, vs[j]? = some v ∧ VRel ρ lm x v
  | [], _, _, j, x, hx => by simp at hx
  | c :: cs, _, h, j, x, hx => by
    obtain ⟨v, vs', rfl, h1, h2⟩ := by simpa only [VRels] using h
    cases j with
    | zero => simp at hx; subst hx; exact ⟨v, rfl, h1⟩
    | succ j => simp at hx; simpa using VRels.get h2 j x hx

theorem VRels.of_get {ρ : Mp} {lm : Lp} : ∀ {xs : List AVal} {vs : List Value}, vs.length = xs.length → (∀ (j : Nat) (x : AVal), xs[j]? = some x → ∃ v, vs[j]? = some v ∧ VRel ρ lm x v) → VRels ρ lm xs vs
  | [], vs, hl, _ => by simp only [VRels]; exact List.eq_nil_of_length_eq_zero hl
  | c :: cs, [], hl, _ => by simp at hl
  | c :: cs, v :: vs, hl, h => by
    simp only [VRels]
    refine ⟨v, vs, rfl, ?_, VRels.of_get (by simpa using hl) fun j x hx => ?_⟩
    · obtain ⟨u, hu, hr⟩ := h 0 c rfl
      simp at hu; subst hu; exact hr
    · have := h (j + 1) x (by simpa using hx)
      simpa using this

theorem VRels.append {ρ : Mp} {lm : Lp} {xs ys : List AVal} {vs us : List Value} (h : VRels ρ lm xs vs) (h' : VRels ρ lm ys us) : VRels ρ lm (xs ++ ys) (vs ++ us) := by
  induction xs generalizing vs with
  | nil => simp only [VRels] at h; subst h; simpa using h'
  | cons c cs ih =>
    obtain ⟨v, vs', rfl, h1, h2⟩ := by simpa only [VRels] using h
    simp only [List.cons_append, VRels]
    exact ⟨v, vs' ++ us, rfl, h1, ih h2⟩

/-- A value that a cell can hold. -/
def AVal.isCell : AVal → Bool
  | .undef | .void | .agg _ | .tuple _ | .lptr _ _ | .lslice _ _ _ => false
  | .func _ caps => noLocs caps
  | .iface _ v => v.noLoc
  | _ => true

theorem AVal.isCell_noLoc {x : AVal} (h : x.isCell = true) : x.noLoc = true := by
  cases x <;> simp_all [AVal.isCell, AVal.noLoc]

theorem VRel.oneCell {ρ : Mp} {lm : Lp} {x : AVal} {v : Value} (h : VRel ρ lm x v) (hx : x.isCell = true) : v.oneCell' = true := by
  cases x with
  | slice b o n z =>
    cases b with
    | none => simp only [VRel] at h; rw [h.2.2]; rfl
    | some b => simp only [VRel] at h; obtain ⟨_, _, _, _, e, _⟩ := h; rw [e]; rfl
  | map b =>
    cases b with
    | none => simp only [VRel] at h; rw [h]; rfl
    | some b => simp only [VRel] at h; obtain ⟨_, _, e⟩ := h; rw [e]; rfl
  | ptr p =>
    cases p with
    | none => simp only [VRel] at h; rw [h]; rfl
    | some p => obtain ⟨b, o⟩ := p; simp only [VRel] at h; obtain ⟨_, _, e⟩ := h; rw [e]; rfl
  | func fn cs => simp only [VRel] at h; obtain ⟨_, e, _⟩ := h; rw [e]; rfl
  | iface t y => simp only [VRel] at h; obtain ⟨_, e, _⟩ := h; rw [e]; rfl
  | bool b => simp only [VRel] at h; rw [h]; rfl
  | int k n => simp only [VRel] at h; rw [h]; rfl
  | str k => simp only [VRel] at h; rw [h]; rfl
  | nilfunc => simp only [VRel] at h; rw [h]; rfl
  | niliface => simp only [VRel] at h; rw [h]; rfl
  | undef => simp [AVal.isCell] at hx
  | void => simp [AVal.isCell] at hx
  | agg _ => simp [AVal.isCell] at hx
  | tuple _ => simp [AVal.isCell] at hx
  | lptr _ _ => simp [AVal.isCell] at hx
  | lslice _ _ _ => simp [AVal.isCell] at hx

/-- The cells of a value. -/
def AVal.cells : AVal → List AVal
  | .agg cs => cs
  | v => [v]

end Go.Abs
