/-
An abstract machine over simple memory: values, blocks, and what they say of the model's values and worlds.
The abstract machine: what it knows of types and functions, its operations, its code.
What the abstract memory says of a world; what a step may change.
What the table says is the program's own; loads.
Operations: what they do on the abstract memory they do in the world.
Structs of numbers, bools and strings held against each other.
Each operation: moves, numbers, loads, addresses.
Each operation: addresses, loads, stores, new memory.
-/
import Derived.WalkKit
import Derived.Orders
import Derived.MapKept
import Derived.Laws.StructEq
namespace Go.Abs
open Go

/-! ### Values -/
inductive AVal where
  | undef
  | void
  | bool (b : Bool)
  | int (k : IntKind) (n : Int)
  | str (s : ByteArray)
  | ptr (p : Option (Nat × Nat))
  | lptr (t off : Nat)
  | slice (b : Option Nat) (off len sz : Nat)
  | lslice (t len sz : Nat)
  | map (b : Option Nat)
  | func (fn : Fn) (caps : List AVal)
  | nilfunc
  | iface (t : TypeId) (v : AVal)
  | niliface
  | errv (b : Bool)
  | flt (b : Nat)
  | cpx (a b : Nat)
  | agg (cs : List AVal)
  | tuple (cs : List AVal)
  deriving Inhabited

inductive Mode where | ro | rw | dead
  deriving DecidableEq

/-- A block of the abstract memory: a row of cells, or a map; 'tys': it only tells how the world lays out another one (and how large that is, if this isn't 0). -/
inductive Blk where
  | row (cells : List AVal) (mode : Mode)
  | map (es : List (AVal × AVal)) (mode : Mode)
  | tys (b : Nat) (t : TypeId) (sz : Nat)

/-- A place of a frame's own: none, a row of cells, or the iterator of a range over a string, or over an empty map; 'hid': one that is not to be read for now. -/
inductive LBlk where
  | none
  | cells (cs : List AVal)
  | iter (s : ByteArray) (pos : Nat)
  | fcells (cs : List AVal)
  | fiter (s : ByteArray) (pos : Nat)
  | hid
  | miter (b : Option Nat)
  deriving Inhabited

abbrev Heap := List Blk

/-- Where an abstract block lies: a block of the world, the place in it, its size, its type. -/
structure Pl where
  blk : Nat
  off : Nat
  size : Nat
  ty : TypeId

abbrev Mp := Nat → Option Pl
abbrev Lp := Nat → Option Nat

mutual
def VRel (ρ : Mp) (lm : Lp) : AVal → Value → Prop
  | .undef, _ => True
  | .void, v => v = Go.undef
  | .bool b, v => v = .bool b
  | .int k n, v => v = .int k n
  | .str s, v => v = .string s
  | .ptr (some (b, o)), v => ∃ pl, ρ b = some pl ∧ v = .pointer (some ⟨pl.blk, pl.off + o, none⟩)
  | .ptr none, v => v = .pointer none
  | .lptr t o, v => ∃ k, lm t = some k ∧ v = .pointer (some ⟨k, o, none⟩)
  | .slice none o n _, v => o = 0 ∧ n = 0 ∧ v = .slice none 0 0
  | .slice (some b) o n z, v => ∃ pl a cap, ρ b = some pl ∧ v = .slice (some a) n cap ∧ n ≤ cap ∧ cap ≤ 9223372036854775807 ∧
      (cap = 0 ∨ (a = ⟨pl.blk, pl.off + o, none⟩ ∧ pl.off + o + cap * z ≤ pl.size))
  | .lslice t n _, v => ∃ k, lm t = some k ∧ v = .slice (some ⟨k, 0, none⟩) n n
  | .map none, v => v = .map none
  | .map (some b), v => ∃ pl, ρ b = some pl ∧ v = .map (some pl.blk)
  | .func fn caps, v => ∃ vs : List Value, v = .func fn #[] vs.toArray ∧ VRels ρ lm caps vs
  | .nilfunc, v => v = .nilFunc
  | .iface t x, v => ∃ y, v = .iface t y ∧ VRel ρ lm x y
  | .niliface, v => v = .nilIface
  | .errv true, v => v = .nilIface
  | .errv false, v => ∃ t y, v = .iface t y
  | .flt b, v => v = .float .f64 b
  | .cpx a b, v => v = .complex .f64 a b
  | .agg cs, v => ∃ vs : List Value, v = .agg vs.toArray ∧ VRels ρ lm cs vs
  | .tuple cs, v => ∃ vs : List Value, v = .tuple vs.toArray ∧ VRels ρ lm cs vs
def VRels (ρ : Mp) (lm : Lp) : List AVal → List Value → Prop
  | [], vs => vs = []
  | c :: cs, vs => ∃ v vs', vs = v :: vs' ∧ VRel ρ lm c v ∧ VRels ρ lm cs vs'
end

mutual
/-- No place of the frame's own in it. -/
def AVal.noLoc : AVal → Bool
  | .lptr _ _ | .lslice _ _ _ => false
  | .func _ caps => noLocs caps
  | .iface _ v => v.noLoc
  | .agg cs => noLocs cs
  | .tuple cs => noLocs cs
  | _ => true
def noLocs : List AVal → Bool
  | [] => true
  | c :: cs => c.noLoc && noLocs cs
end

mutual
/-- Does it lead to the frame's own place t? -/
def AVal.hasT (t : Nat) : AVal → Bool
  | .lptr s _ | .lslice s _ _ => s == t
  | .func _ caps => hasTs t caps
  | .iface _ v => v.hasT t
  | .agg cs => hasTs t cs
  | .tuple cs => hasTs t cs
  | _ => false
def hasTs (t : Nat) : List AVal → Bool
  | [] => false
  | c :: cs => c.hasT t || hasTs t cs
end

mutual
theorem VRel.noLoc {ρ : Mp} {lm lm' : Lp} : ∀ {x : AVal} {v : Value}, x.noLoc = true → VRel ρ lm x v → VRel ρ lm' x v
  | .undef, _, _, _ => by simp [VRel]
  | .void, _, _, h => by simpa [VRel] using h
  | .bool _, _, _, h => by simpa [VRel] using h
  | .int _ _, _, _, h => by simpa [VRel] using h
  | .str _, _, _, h => by simpa [VRel] using h
  | .ptr none, _, _, h => by simpa [VRel] using h
  | .ptr (some (_, _)), _, _, h => by simpa [VRel] using h
  | .lptr _ _, _, hn, _ => by simp [AVal.noLoc] at hn
  | .slice none _ _ _, _, _, h => by simpa [VRel] using h
  | .slice (some _) _ _ _, _, _, h => by simpa [VRel] using h
  | .lslice _ _ _, _, hn, _ => by simp [AVal.noLoc] at hn
  | .map none, _, _, h => by simpa [VRel] using h
  | .map (some _), _, _, h => by simpa [VRel] using h
  | .func _ caps, _, hn, h => by
    obtain ⟨vs, e, h⟩ := by simpa only [VRel] using h
    simp only [VRel]
    exact ⟨vs, e, VRels.noLoc (by simpa [AVal.noLoc] using hn) h⟩
  | .nilfunc, _, _, h => by simpa [VRel] using h
  | .iface _ x, _, hn, h => by
    obtain ⟨y, e, h⟩ := by simpa only [VRel] using h
    simp only [VRel]
    exact ⟨y, e, VRel.noLoc (by simpa [AVal.noLoc] using hn) h⟩
  | .niliface, _, _, h => by simpa [VRel] using h
  | .errv true, _, _, h => by simpa [VRel] using h
  | .errv false, _, _, h => by simpa [VRel] using h
  | .flt _, _, _, h => by simpa [VRel] using h
  | .cpx _ _, _, _, h => by simpa [VRel] using h
  | .agg cs, _, hn, h => by
    obtain ⟨vs, e, h⟩ := by simpa only [VRel] using h
    simp only [VRel]
    exact ⟨vs, e, VRels.noLoc (by simpa [AVal.noLoc] using hn) h⟩
  | .tuple cs, _, hn, h => by
    obtain ⟨vs, e, h⟩ := by simpa only [VRel] using h
    simp only [VRel]
    exact ⟨vs, e, VRels.noLoc (by simpa [AVal.noLoc] using hn) h⟩
theorem VRels.noLoc {ρ : Mp} {lm lm' : Lp} : ∀ {xs : List AVal} {vs : List Value}, noLocs xs = true → VRels ρ lm xs vs → VRels ρ lm' xs vs
  | [], _, _, h => by simpa [VRels] using h
  | c :: cs, _, hn, h => by
    obtain ⟨v, vs', e, h1, h2⟩ := by simpa only [VRels] using h
    simp only [noLocs, Bool.and_eq_true] at hn
    simp only [VRels]
    exact ⟨v, vs', e, VRel.noLoc hn.1 h1, VRels.noLoc hn.2 h2⟩
end

mutual
theorem VRel.mono {ρ ρ' : Mp} {lm lm' : Lp} (hr : ∀ b pl, ρ b = some pl → ρ' b = some pl) (hl : ∀ t k, lm t = some k → lm' t = some k) :
    ∀ {x : AVal} {v : Value}, VRel ρ lm x v → VRel ρ' lm' x v
  | .undef, _, _ => by simp [VRel]
  | .void, _, h => by simpa [VRel] using h
  | .bool _, _, h => by simpa [VRel] using h
  | .int _ _, _, h => by simpa [VRel] using h
  | .str _, _, h => by simpa [VRel] using h
  | .ptr none, _, h => by simpa [VRel] using h
  | .ptr (some (_, _)), _, h => by
    obtain ⟨pl, e, h⟩ := by simpa only [VRel] using h
    simp only [VRel]
    exact ⟨pl, hr _ _ e, h⟩
  | .lptr _ _, _, h => by
    obtain ⟨k, e, h⟩ := by simpa only [VRel] using h
    simp only [VRel]
    exact ⟨k, hl _ _ e, h⟩
  | .slice none _ _ _, _, h => by simpa [VRel] using h
  | .slice (some _) _ _ _, _, h => by
    obtain ⟨pl, a, cap, e, h⟩ := by simpa only [VRel] using h
    simp only [VRel]
    exact ⟨pl, a, cap, hr _ _ e, h⟩
  | .lslice _ _ _, _, h => by
    obtain ⟨k, e, h⟩ := by simpa only [VRel] using h
    simp only [VRel]
    exact ⟨k, hl _ _ e, h⟩
  | .map none, _, h => by simpa [VRel] using h
  | .map (some _), _, h => by
    obtain ⟨pl, e, h⟩ := by simpa only [VRel] using h
    simp only [VRel]
    exact ⟨pl, hr _ _ e, h⟩
  | .func _ caps, _, h => by
    obtain ⟨vs, e, h⟩ := by simpa only [VRel] using h
    simp only [VRel]
    exact ⟨vs, e, VRels.mono hr hl h⟩
  | .nilfunc, _, h => by simpa [VRel] using h
  | .iface _ x, _, h => by
    obtain ⟨y, e, h⟩ := by simpa only [VRel] using h
    simp only [VRel]
    exact ⟨y, e, VRel.mono hr hl h⟩
  | .niliface, _, h => by simpa [VRel] using h
  | .errv true, _, h => by simpa [VRel] using h
  | .errv false, _, h => by simpa [VRel] using h
  | .flt _, _, h => by simpa [VRel] using h
  | .cpx _ _, _, h => by simpa [VRel] using h
  | .agg cs, _, h => by
    obtain ⟨vs, e, h⟩ := by simpa only [VRel] using h
    simp only [VRel]
    exact ⟨vs, e, VRels.mono hr hl h⟩
  | .tuple cs, _, h => by
    obtain ⟨vs, e, h⟩ := by simpa only [VRel] using h
    simp only [VRel]
    exact ⟨vs, e, VRels.mono hr hl h⟩
theorem VRels.mono {ρ ρ' : Mp} {lm lm' : Lp} (hr : ∀ b pl, ρ b = some pl → ρ' b = some pl) (hl : ∀ t k, lm t = some k → lm' t = some k) :
    ∀ {xs : List AVal} {vs : List Value}, VRels ρ lm xs vs → VRels ρ' lm' xs vs
  | [], _, h => by simpa [VRels] using h
  | c :: cs, _, h => by
    obtain ⟨v, vs', e, h1, h2⟩ := by simpa only [VRels] using h
    simp only [VRels]
    exact ⟨v, vs', e, VRel.mono hr hl h1, VRels.mono hr hl h2⟩
end

mutual
/-- The frame's own place t is another block now; nothing led to it. -/
theorem VRel.turn {ρ : Mp} {lm lm' : Lp} {t : Nat} (hl : ∀ s, s ≠ t → lm' s = lm s) : ∀ {x : AVal} {v : Value}, x.hasT t = false → VRel ρ lm x v → VRel ρ lm' x v
  | .undef, _, _, _ => by simp [VRel]
  | .void, _, _, h => by simpa [VRel] using h
  | .bool _, _, _, h => by simpa [VRel] using h
  | .int _ _, _, _, h => by simpa [VRel] using h
  | .str _, _, _, h => by simpa [VRel] using h
  | .ptr none, _, _, h => by simpa [VRel] using h
  | .ptr (some (_, _)), _, _, h => by simpa [VRel] using h
  | .lptr s _, _, hn, h => by
    simp only [AVal.hasT, beq_eq_false_iff_ne, ne_eq] at hn
    simp only [VRel] at h ⊢
    rwa [hl s hn]
  | .slice none _ _ _, _, _, h => by simpa [VRel] using h
  | .slice (some _) _ _ _, _, _, h => by simpa [VRel] using h
  | .lslice s _ _, _, hn, h => by
    simp only [AVal.hasT, beq_eq_false_iff_ne, ne_eq] at hn
    simp only [VRel] at h ⊢
    rwa [hl s hn]
  | .map none, _, _, h => by simpa [VRel] using h
  | .map (some _), _, _, h => by simpa [VRel] using h
  | .func _ caps, _, hn, h => by
    obtain ⟨vs, e, h⟩ := by simpa only [VRel] using h
    simp only [VRel]
    exact ⟨vs, e, VRels.turn hl (by simpa [AVal.hasT] using hn) h⟩
  | .nilfunc, _, _, h => by simpa [VRel] using h
  | .iface _ x, _, hn, h => by
    obtain ⟨y, e, h⟩ := by simpa only [VRel] using h
    simp only [VRel]
    exact ⟨y, e, VRel.turn hl (by simpa [AVal.hasT] using hn) h⟩
  | .niliface, _, _, h => by simpa [VRel] using h
  | .errv true, _, _, h => by simpa [VRel] using h
  | .errv false, _, _, h => by simpa [VRel] using h
  | .flt _, _, _, h => by simpa [VRel] using h
  | .cpx _ _, _, _, h => by simpa [VRel] using h
  | .agg cs, _, hn, h => by
    obtain ⟨vs, e, h⟩ := by simpa only [VRel] using h
    simp only [VRel]
    exact ⟨vs, e, VRels.turn hl (by simpa [AVal.hasT] using hn) h⟩
  | .tuple cs, _, hn, h => by
    obtain ⟨vs, e, h⟩ := by simpa only [VRel] using h
    simp only [VRel]
    exact ⟨vs, e, VRels.turn hl (by simpa [AVal.hasT] using hn) h⟩
theorem VRels.turn {ρ : Mp} {lm lm' : Lp} {t : Nat} (hl : ∀ s, s ≠ t → lm' s = lm s) : ∀ {xs : List AVal} {vs : List Value}, hasTs t xs = false → VRels ρ lm xs vs → VRels ρ lm' xs vs
  | [], _, _, h => by simpa [VRels] using h
  | c :: cs, _, hn, h => by
    obtain ⟨v, vs', e, h1, h2⟩ := by simpa only [VRels] using h
    simp only [hasTs, Bool.or_eq_false_iff] at hn
    simp only [VRels]
    exact ⟨v, vs', e, VRel.turn hl hn.1 h1, VRels.turn hl hn.2 h2⟩
end

theorem VRels.length {ρ : Mp} {lm : Lp} : ∀ {xs : List AVal} {vs : List Value}, VRels ρ lm xs vs → vs.length = xs.length
  | [], _, h => by simp only [VRels] at h; simp [h]
  | _ :: _, _, h => by
    obtain ⟨v, vs', rfl, _, h2⟩ := by simpa only [VRels] using h
    simp [VRels.length h2]

theorem VRels.get {ρ : Mp} {lm : Lp} : ∀ {xs : List AVal} {vs : List Value}, VRels ρ lm xs vs → ∀ (j : Nat) (x : AVal), xs[j]? = some x → ∃ v, vs[j]? = some v ∧ VRel ρ lm x v
  | [], _, _, j, x, hx => by simp at hx
  | c :: cs, _, h, j, x, hx => by
    obtain ⟨v, vs', rfl, h1, h2⟩ := by simpa only [VRels] using h
    cases j with
    | zero => simp at hx; subst hx; exact ⟨v, rfl, h1⟩
    | succ j => simp at hx; simpa using VRels.get h2 j x hx

theorem VRels.of_get {ρ : Mp} {lm : Lp} : ∀ {xs : List AVal} {vs : List Value}, vs.length = xs.length → (∀ (j : Nat) (x : AVal), xs[j]? = some x → ∃ v, vs[j]? = some v ∧ VRel ρ lm x v) → VRels ρ lm xs vs
  | [], vs, hl, _ => by simp only [VRels]; exact List.eq_nil_of_length_eq_zero hl
  | c :: cs, [], hl, _ => by simp at hl
  | c :: cs, v :: vs, hl, h => by
    simp only [VRels]
    refine ⟨v, vs, rfl, ?_, VRels.of_get (by simpa using hl) fun j x hx => ?_⟩
    · obtain ⟨u, hu, hr⟩ := h 0 c rfl
      simp at hu; subst hu; exact hr
    · have := h (j + 1) x (by simpa using hx)
      simpa using this

theorem VRels.append {ρ : Mp} {lm : Lp} {xs ys : List AVal} {vs us : List Value} (h : VRels ρ lm xs vs) (h' : VRels ρ lm ys us) : VRels ρ lm (xs ++ ys) (vs ++ us) := by
  induction xs generalizing vs with
  | nil => simp only [VRels] at h; subst h; simpa using h'
  | cons c cs ih =>
    obtain ⟨v, vs', rfl, h1, h2⟩ := by simpa only [VRels] using h
    simp only [List.cons_append, VRels]
    exact ⟨v, vs' ++ us, rfl, h1, ih h2⟩

/-- A value that a cell can hold. -/
def AVal.isCell : AVal → Bool
  | .undef | .void | .agg _ | .tuple _ | .lptr _ _ | .lslice _ _ _ => false
  | .func _ caps => noLocs caps
  | .iface _ v => v.noLoc
  | _ => true

theorem AVal.isCell_noLoc {x : AVal} (h : x.isCell = true) : x.noLoc = true := by
  cases x <;> simp_all [AVal.isCell, AVal.noLoc]

theorem VRel.oneCell {ρ : Mp} {lm : Lp} {x : AVal} {v : Value} (h : VRel ρ lm x v) (hx : x.isCell = true) : v.oneCell' = true := by
  cases x with
  | slice b o n z =>
    cases b with
    | none => simp only [VRel] at h; rw [h.2.2]; rfl
    | some b => simp only [VRel] at h; obtain ⟨_, _, _, _, e, _⟩ := h; rw [e]; rfl
  | map b =>
    cases b with
    | none => simp only [VRel] at h; rw [h]; rfl
    | some b => simp only [VRel] at h; obtain ⟨_, _, e⟩ := h; rw [e]; rfl
  | ptr p =>
    cases p with
    | none => simp only [VRel] at h; rw [h]; rfl
    | some p => obtain ⟨b, o⟩ := p; simp only [VRel] at h; obtain ⟨_, _, e⟩ := h; rw [e]; rfl
  | func fn cs => simp only [VRel] at h; obtain ⟨_, e, _⟩ := h; rw [e]; rfl
  | iface t y => simp only [VRel] at h; obtain ⟨_, e, _⟩ := h; rw [e]; rfl
  | bool b => simp only [VRel] at h; rw [h]; rfl
  | int k n => simp only [VRel] at h; rw [h]; rfl
  | str k => simp only [VRel] at h; rw [h]; rfl
  | nilfunc => simp only [VRel] at h; rw [h]; rfl
  | niliface => simp only [VRel] at h; rw [h]; rfl
  | errv b =>
    cases b with
    | true => simp only [VRel] at h; rw [h]; rfl
    | false => simp only [VRel] at h; obtain ⟨_, _, e⟩ := h; rw [e]; rfl
  | flt b => simp only [VRel] at h; rw [h]; rfl
  | cpx a b => simp only [VRel] at h; rw [h]; rfl
  | undef => simp [AVal.isCell] at hx
  | void => simp [AVal.isCell] at hx
  | agg _ => simp [AVal.isCell] at hx
  | tuple _ => simp [AVal.isCell] at hx
  | lptr _ _ => simp [AVal.isCell] at hx
  | lslice _ _ _ => simp [AVal.isCell] at hx

/-- The cells of a value. -/
def AVal.cells : AVal → List AVal
  | .agg cs => cs
  | v => [v]

end Go.Abs
namespace Go.Abs
open Go

inductive Sh where
  | int (k : IntKind) | bool | str | ptr | slice (sz : Nat) | map | func | iface | f64 | c128

inductive TK where
  | scalar
  | slice (e : TypeId)
  | struct (fs : List (Nat × TypeId))
  | array (n : Nat) (e : TypeId)
  | map (k e : TypeId)

structure TI where
  shape : List Sh
  agg : Bool
  bytes : Nat
  kind : TK

/-- What the machine knows of a program; 'loc', 'mask', 'free' are hints. -/
structure Tab where
  ti : TypeId → Option TI
  fn : FuncId → Option Func
  loc : FuncId → Nat → Bool
  mask : FuncId → Nat → List Nat
  join : FuncId → Nat → List Nat
  quiet : FuncId → Nat → List Bool
  half : FuncId → Nat → List Bool
  perm : FuncId → Nat → List Nat
  glob : Nat → Bool
  gsz : Nat → Nat
  eq : TypeId → Bool
  tup : TypeId → Option (List TypeId)
  tag : TypeId → Bool := fun _ => false
  tagA : FuncId → Bool := fun _ => false
  byt : TypeId → Option TypeId := fun _ => none
  conc : TypeId → Bool := fun _ => false
  meth : TypeId → String → Option FuncId := fun _ _ => none

/-! ### Memory -/
abbrev Env := List AVal
abbrev Locs := List LBlk

def Heap.row? (σ : Heap) (b : Nat) : Option (List AVal) :=
  match σ[b]? with
  | some (.row cs .ro) => some cs
  | some (.row cs .rw) => some cs
  | _ => none
def Heap.cell? (σ : Heap) (b o : Nat) : Option AVal := (σ.row? b).bind fun cs => cs[o]?
/-- Cells are written. -/
def overwrite : List AVal → Nat → List AVal → List AVal
  | cs, _, [] => cs
  | cs, o, v :: vs => overwrite (cs.set o v) (o + 1) vs
def Heap.store (σ : Heap) (b o : Nat) (vs : List AVal) : Option Heap :=
  match σ[b]? with
  | some (.row cs .rw) => if o + vs.length ≤ cs.length then some (σ.set b (.row (overwrite cs o vs) .rw)) else none
  | _ => none
/-- The cells of a slice. -/
def Heap.read (σ : Heap) (b : Option Nat) (o n z : Nat) : Option (List AVal) :=
  match b with
  | none => some []
  | some b => (σ.row? b).bind fun cs => if o + n * z ≤ cs.length then some ((cs.drop o).take (n * z)) else none
/-- Values behind a slice: its row is another one from then on. -/
def Heap.append (σ : Heap) (b : Option Nat) (o n z bytes : Nat) (vs : List AVal) (k : Nat) : Option ((Option Nat × Nat × Nat) × Heap) :=
  if k = 0 then some ((b, o, n), σ)
  else if (n + k) * bytes ≤ 70368744177664 ∧ n + k ≤ 70368744177664 ∧ vs.length = k * z then
    match b with
    | none => some ((some σ.length, 0, k), σ ++ [.row vs .rw])
    | some b =>
      match σ[b]? with
      | some (.row cs .rw) =>
        if o + n * z ≤ cs.length then some ((some σ.length, 0, n + k), σ.set b (.row [] .dead) ++ [.row ((cs.drop o).take (n * z) ++ vs) .rw]) else none
      | _ => none
  else none

/-! ### Maps -/
/-- Are two keys one? -/
def keyEq : AVal → AVal → Option Bool
  | .int k a, .int k' b => match decide (k = k') with | true => some (a == b) | false => none
  | .str a, .str b => some (a.toList == b.toList)
  | _, _ => none
/-- Where a key is among a map's entries, and what it has there. -/
def findC (k : AVal) : List (AVal × AVal) → Nat → Option (Option (Nat × AVal))
  | [], _ => some none
  | (x, v) :: es, i => match keyEq k x with
    | some true => some (some (i, v))
    | some false => findC k es (i + 1)
    | none => none
def Heap.entries (σ : Heap) (b : Option Nat) : Option (List (AVal × AVal)) :=
  match b with
  | none => some []
  | some b => match σ[b]? with
    | some (.map es .ro) => some es
    | some (.map es .rw) => some es
    | _ => none
/-- What a key has in a map; z: if it is not there. -/
def Heap.look (σ : Heap) (b : Option Nat) (k z : AVal) : Option AVal :=
  (σ.entries b).bind fun es => (findC k es 0).map fun r => match r with | some q => q.2 | none => z
def Heap.has (σ : Heap) (b : Option Nat) (k : AVal) : Option Bool :=
  (σ.entries b).bind fun es => (findC k es 0).map Option.isSome
def Heap.mput (σ : Heap) (b : Option Nat) (k v : AVal) : Option Heap :=
  b.bind fun b => match σ[b]? with
    | some (.map es .rw) => (findC k es 0).map fun r => match r with
      | some q => σ.set b (.map (es.set q.1 (k, v)) .rw)
      | none => σ.set b (.map (es ++ [(k, v)]) .rw)
    | _ => none
def Heap.mdel (σ : Heap) (b : Option Nat) (k : AVal) : Option Heap :=
  match b with
  | none => some σ
  | some b => match σ[b]? with
    | some (.map es .rw) => (findC k es 0).map fun r => match r with
      | some q => σ.set b (.map (es.eraseIdx q.1) .rw)
      | none => σ
    | _ => none
/-- Can this row be written? -/
def Heap.rwRow (σ : Heap) (b : Nat) : Option Unit := match σ[b]? with
  | some (.row _ .rw) => some ()
  | _ => none
def mapEmpty : List (AVal × AVal) → Option Unit
  | [] => some ()
  | _ => none
def aggOf : AVal → Option (List AVal)
  | .agg cs => some cs
  | _ => none

/-- What can be read of a place of the frame's own. -/
def LBlk.cells? : LBlk → Option (List AVal)
  | .cells cs => some cs
  | .fcells cs => some cs
  | _ => Option.none

/-! ### Values told by their kinds -/
def int? (x : Option AVal) (k : IntKind) : Option Int := match x with | some (.int k' n) => if k' = k then some n else none | _ => none
def bool? (x : Option AVal) : Option Bool := match x with | some (.bool b) => some b | _ => none
def str? (x : Option AVal) : Option ByteArray := match x with | some (.str b) => some b | _ => none
def ptr? (x : Option AVal) : Option (Option (Nat × Nat)) := match x with | some (.ptr p) => some p | _ => none
def slice? (x : Option AVal) (sz : Nat) : Option (Option Nat × Nat × Nat) :=
  match x with
  | some (.slice b o n z) =>
    match decide (z = sz) with
    | true => some (b, o, n)
    | false => match b with | none => some (none, o, n) | some _ => none
  | _ => none
def map? (x : Option AVal) : Option (Option Nat) := match x with | some (.map b) => some b | _ => none
def func? (x : Option AVal) : Option AVal :=
  match x with
  | some (.func fn cs) => some (.func fn cs)
  | some .nilfunc => some .nilfunc
  | _ => none
def iface? (x : Option AVal) : Option AVal :=
  match x with
  | some (.iface t v) => some (.iface t v)
  | some .niliface => some .niliface
  | some (.errv b) => some (.errv b)
  | _ => none

def flt? (x : Option AVal) : Option Nat := match x with | some (.flt b) => some b | _ => none
def cpx? (x : Option AVal) : Option (Nat × Nat) := match x with | some (.cpx a b) => some (a, b) | _ => none

variable {R : Type}
def Sh.fetch (s : Sh) (x : Option AVal) (k : AVal → Option R) : Option R :=
  match s with
  | .int kd => (int? x kd).bind fun n => k (.int kd n)
  | .bool => (bool? x).bind fun b => k (.bool b)
  | .str => (str? x).bind fun b => k (.str b)
  | .ptr => (ptr? x).bind fun p => k (.ptr p)
  | .slice z => (slice? x z).bind fun q => k (.slice q.1 q.2.1 q.2.2 z)
  | .map => (map? x).bind fun b => k (.map b)
  | .func => (func? x).bind fun v => k v
  | .iface => (iface? x).bind fun v => k v
  | .f64 => (flt? x).bind fun b => k (.flt b)
  | .c128 => (cpx? x).bind fun q => k (.cpx q.1 q.2)
def fetches : List Sh → (Nat → Option AVal) → Nat → (List AVal → Option R) → Option R
  | [], _, _, k => k []
  | s :: ss, g, j, k => s.fetch (g j) fun v => fetches ss g (j + 1) fun vs => k (v :: vs)

def Sh.zero : Sh → AVal
  | .int k => .int k 0
  | .bool => .bool false
  | .str => .str ⟨#[]⟩
  | .ptr => .ptr none
  | .slice z => .slice none 0 0 z
  | .map => .map none
  | .func => .nilfunc
  | .iface => .niliface
  | .f64 => .flt 0
  | .c128 => .cpx 0 0
def TI.zeros (i : TI) : List AVal := i.shape.map Sh.zero
def TI.size (i : TI) : Nat := i.shape.length
def TI.val (i : TI) (vs : List AVal) : AVal := if i.agg then .agg vs else vs.headD .undef

def ofConst : Value → AVal
  | .bool b => .bool b
  | .int k n => .int k n
  | .string s => .str s
  | .pointer none => .ptr none
  | .slice none 0 0 => .slice none 0 0 0
  | .map none => .map none
  | .nilFunc => .nilfunc
  | .nilIface => .niliface
  | .float .f64 b => .flt b
  | .complex .f64 a b => .cpx a b
  | _ => .undef

def ev (T : Tab) (e : Env) : Operand → AVal
  | .tmp t => e.getD t .undef
  | .const v => ofConst v
  | .global g => match T.glob g with | true => .ptr (some (g, 0)) | false => .undef
  | .func f => .func (.func f) []

def put (e : Env) (dst : Option Nat) (v : AVal) : Env := match dst with | some d => e.set d v | none => e

/-! ### Operations without memory -/
def eqCells : List Sh → List AVal → List AVal → Option Bool
  | [], [], [] => some true
  | .bool :: ss, .bool a :: xs, .bool b :: ys => (eqCells ss xs ys).map fun r => (a == b) && r
  | .int k :: ss, .int k1 a :: xs, .int k2 b :: ys => if k1 = k then if k2 = k then (eqCells ss xs ys).map fun r => (a == b) && r else none else none
  | .str :: ss, .str a :: xs, .str b :: ys => (eqCells ss xs ys).map fun r => (a.toList == b.toList) && r
  | _, _, _ => none

def intBin (op : BinOp) (k : IntKind) (a b : Int) : Option AVal :=
  match op with
  | .add => some (.int k (k.wrap (a + b)))
  | .sub => some (.int k (k.wrap (a - b)))
  | .mul => some (.int k (k.wrap (a * b)))
  | .quo => if b = 0 then none else some (.int k (k.wrap (a.tdiv b)))
  | .rem => if b = 0 then none else some (.int k (a.tmod b))
  | .and => some (.int k (k.wrap (BitVec.ofInt k.bits a &&& BitVec.ofInt k.bits b).toNat))
  | .or => some (.int k (k.wrap (BitVec.ofInt k.bits a ||| BitVec.ofInt k.bits b).toNat))
  | .xor => some (.int k (k.wrap (BitVec.ofInt k.bits a ^^^ BitVec.ofInt k.bits b).toNat))
  | .andNot => some (.int k (k.wrap (BitVec.ofInt k.bits a &&& ~~~(BitVec.ofInt k.bits b)).toNat))
  | .eql => some (.bool (a == b))
  | .neq => some (.bool (a != b))
  | .lss => some (.bool (decide (a < b)))
  | .leq => some (.bool (decide (a ≤ b)))
  | .gtr => some (.bool (decide (a > b)))
  | .geq => some (.bool (decide (a ≥ b)))
  | _ => none

def strBin (op : BinOp) (x y : ByteArray) : Option AVal :=
  match op with
  | .add => if x.size + y.size ≤ 9223372036854775807 then some (.str (x ++ y)) else none
  | .eql => some (.bool (x.toList == y.toList))
  | .neq => some (.bool (!(x.toList == y.toList)))
  | .lss => some (.bool (Op.bytesLess x.toList y.toList))
  | .leq => some (.bool (Op.bytesLess x.toList y.toList || x.toList == y.toList))
  | .gtr => some (.bool (!(Op.bytesLess x.toList y.toList || x.toList == y.toList)))
  | .geq => some (.bool (!(Op.bytesLess x.toList y.toList)))
  | _ => none

def isNilBin (op : BinOp) (b : Bool) : Option AVal := match op with | .eql => some (.bool b) | .neq => some (.bool (!b)) | _ => none
def isLit : Operand → Bool
  | .const _ => true
  | _ => false
def binC (op : BinOp) (i : Option TI) (q lit : Bool) (x y : AVal) : Option AVal :=
  match x, y with
  | .int k a, .int k' b =>
    match op with
    | .shl => if b < 0 then none else some (.int k (k.wrap (a * 2 ^ (min b.toNat k.bits))))
    | .shr => if b < 0 then none else some (.int k (a.fdiv (2 ^ (min b.toNat k.bits))))
    | _ => if k = k' then intBin op k a b else none
  | .str a, .str b => strBin op a b
  | .bool a, .bool b => i.bind fun i => match i.agg, i.shape with | false, [.bool] => isNilBin op (a == b) | _, _ => none
  | .agg xs, .agg ys => match q with
    | true => i.bind fun i => match i.agg with | true => (eqCells i.shape xs ys).bind fun r => isNilBin op r | false => none
    | false => none
  | .slice b _ _ _, .slice none _ _ _ => i.bind fun i => match i.kind with | .slice _ => isNilBin op b.isNone | _ => none
  | .ptr p, .ptr none => i.bind fun i => match i.agg, i.shape with | false, [.ptr] => isNilBin op p.isNone | _, _ => none
  | .iface _ _, .niliface => i.bind fun i => match i.agg, i.shape with | false, [.iface] => isNilBin op false | _, _ => none
  | .errv b, .niliface => match lit with
    | true => i.bind fun i => match i.agg, i.shape with | false, [.iface] => isNilBin op b | _, _ => none
    | false => none
  | .niliface, .niliface => match lit with
    | true => i.bind fun i => match i.agg, i.shape with | false, [.iface] => isNilBin op true | _, _ => none
    | false => none
  | _, _ => none

/-- .. and what follows. -/
def binK {R : Type} (op : BinOp) (i : Option TI) (q lit : Bool) (x y : AVal) (k : AVal → Option R) : Option R :=
  match x, y with
  | .int kd a, .int kd' b =>
    match op with
    | .shl => if b < 0 then none else k (.int kd (kd.wrap (a * 2 ^ (min b.toNat kd.bits))))
    | .shr => if b < 0 then none else k (.int kd (a.fdiv (2 ^ (min b.toNat kd.bits))))
    | .quo => if kd = kd' then (if b = 0 then none else k (.int kd (kd.wrap (a.tdiv b)))) else none
    | .rem => if kd = kd' then (if b = 0 then none else k (.int kd (a.tmod b))) else none
    | _ => (binC op i q lit (.int kd a) (.int kd' b)).bind k
  | .str a, .str b =>
    match op with
    | .add => if a.size + b.size ≤ 9223372036854775807 then k (.str (a ++ b)) else none
    | _ => (binC op i q lit (.str a) (.str b)).bind k
  | x, y => (binC op i q lit x y).bind k
theorem binK_eq {R : Type} (op : BinOp) (i : Option TI) (q lit : Bool) (x y : AVal) (k : AVal → Option R) : binK op i q lit x y k = (binC op i q lit x y).bind k := by
  unfold binK
  split
  · split
    · simp only [binC]; split <;> rfl
    · simp only [binC]; split <;> rfl
    · simp only [binC, intBin]; split
      · split <;> rfl
      · rfl
    · simp only [binC, intBin]; split
      · split <;> rfl
      · rfl
    · rfl
  · split
    · simp only [binC, strBin]; split <;> rfl
    · rfl
  · rfl

def unC (op : UnOp) (x : AVal) : Option AVal :=
  match op, x with
  | .not, .bool b => some (.bool (!b))
  | .neg, .int k n => some (.int k (k.wrap (0 - n)))
  | .xor, .int k n => some (.int k (k.wrap (BitVec.ofInt k.bits (if k.signed then -1 else k.max) ^^^ BitVec.ofInt k.bits n).toNat))
  | _, _ => none

def pickC (c a b : AVal) : Option AVal :=
  match c with
  | .bool true => some a
  | .bool false => some b
  | _ => none
def pickB (c : AVal) (a b : AVal) (k : AVal → Option R) : Option R :=
  match c with
  | .bool c => match a, b with
    | .bool x, .bool y => k (.bool (bif c then x else y))
    | .int k1 x, .int k2 y => if k1 = k2 then k (.int k1 (bif c then x else y)) else none
    | a, b => bif c then k a else k b
  | _ => none

def fillC (place : Nat → Option (Nat × Nat)) (cells : List AVal) : List (Nat × AVal) → Option (List AVal)
  | [] => some cells
  | (i, v) :: rest =>
    match place i with
    | none => none
    | some (off, size) => if v.cells.length = size then (if off + size ≤ cells.length then fillC place (overwrite cells off v.cells) rest else none) else none

/-- The cells of a row of bytes, of runes, as a string. -/
def bytesOf : List AVal → Option (List UInt8)
  | [] => some []
  | .int .u8 n :: r => (bytesOf r).map fun l => UInt8.ofNat n.toNat :: l
  | _ => none

/-- Bytes, each of which is one. -/
def bytesX : List AVal → Option (List UInt8)
  | [] => some []
  | .int .u8 n :: r => match decide (((UInt8.ofNat n.toNat).toNat : Int) = n) with
    | true => (bytesX r).map fun l => UInt8.ofNat n.toNat :: l
    | false => none
  | _ => none

def cellAll : List AVal → Bool
  | [] => true
  | c :: cs => c.isCell && cellAll cs

/-- A part of a literal has cells that are told. -/
def partsOk (T : Tab) (e : Env) (parts : Array (Nat × Operand)) : Bool := parts.toList.all fun p => cellAll (ev T e p.2).cells

/-- The runes of a text. -/
def runesA (s : ByteArray) : Nat → Nat → List Int
  | 0, _ => []
  | n + 1, i => if i < s.size then (Int.ofNat (Utf8.decode s i).1) :: runesA s n (i + (Utf8.decode s i).2) else []
def runesIn : List AVal → Option (List Int)
  | [] => some []
  | .int .i32 n :: r => (runesIn r).map fun l => n :: l
  | _ => none
def encodeAll (rs : List Int) : ByteArray := rs.foldl (fun r n => r ++ Utf8.encode n) ByteArray.empty

/-- A float that is a number of this kind. -/
def f64Int (b : Nat) (kd : IntKind) : Option Int := match (FloatKind.decode .f64 b).toInt .zero with
  | some n => if kd.min ≤ n ∧ n ≤ kd.max then some n else none
  | none => none
def convC (T : Tab) (same : Bool) (si di : TI) (x : AVal) (l : Locs) (σ : Heap) (k : AVal → Locs → Heap → Option R) : Option R :=
  match di.agg, di.shape, x with
  | false, [.int kd], .int _ n => k (.int kd (kd.wrap n)) l σ
  | false, [.str], .int _ n => k (.str (Utf8.encode n)) l σ
  | false, [.f64], .int _ n => k (.flt (FloatKind.nearest .f64 n)) l σ
  | false, [.int kd], .flt b => (f64Int b kd).bind fun n => k (.int kd n) l σ
  | false, [.str], .str s => k (.str s) l σ
  | false, [.str], .slice b o n _ => match si.kind with
    | .slice et => (T.ti et).bind fun ie => match ie.agg, ie.shape with
      | false, [.int .u8] => (σ.read b o n 1).bind fun cs => (bytesOf cs).bind fun bs => k (.str ⟨bs.toArray⟩) l σ
      | false, [.int .i32] => (σ.read b o n 1).bind fun cs => (runesIn cs).bind fun rs => k (.str (encodeAll rs)) l σ
      | _, _ => none
    | _ => none
  | false, [.slice _], .str s => match di.kind with
    | .slice et => (T.ti et).bind fun ie => match ie.agg, ie.shape with
      | false, [.int .u8] => match decide (s.size ≤ 70368744177664) with
        | true => k (.slice (some σ.length) 0 s.size 1) l (σ ++ [.row (s.data.toList.map fun b => .int .u8 b.toNat) .rw])
        | false => none
      | false, [.int .i32] => match decide (s.size ≤ 70368744177664) with
        | true => k (.slice (some σ.length) 0 (runesA s s.size 0).length 1) l (σ ++ [.row ((runesA s s.size 0).map fun n => .int .i32 n) .rw])
        | false => none
      | _, _ => none
    | _ => none
  | false, [.slice _], .slice (some b) o n z => match same, di.kind with
    | true, .slice et => (T.ti et).bind fun ie => match ie.agg, ie.shape, decide (z = 1) with
      | false, [.int .u8], true => bif decide (0 < n) then (σ.rwRow b).bind fun _ => k (.slice (some b) o n z) l σ else none
      | _, _, _ => none
    | _, _ => none
  | _, _, _ => none

/-- What a builtin appends, copies: cells, and how many elements they are. -/
def srcC (xi ie : TI) (x : AVal) (m : Nat) (l : Locs) (σ : Heap) : Option (List AVal) :=
  match x with
  | .slice b o _ z => match xi.kind, decide (z = ie.size ∨ b = none) with
    | .slice _, true => σ.read b o m ie.size
    | _, _ => none
  | .lslice s n z => match xi.kind, (l[s]?).bind LBlk.cells?, decide (z = ie.size) && decide (m ≤ n) with
    | .slice _, some cs, true => if cs.length = n * ie.size then some (cs.take (m * ie.size)) else none
    | _, _, _ => none
  | .str s => match xi.agg, xi.shape, ie.agg, ie.shape with
    | false, [.str], false, [.int .u8] => some ((s.data.toList.map fun b => .int .u8 b.toNat).take m)
    | _, _, _, _ => none
  | _ => none
def srcLen : AVal → Option Nat
  | .slice _ _ n _ => some n
  | .lslice _ n _ => some n
  | .str s => some s.size
  | _ => none

/-- A key of a map: a number, a text. -/
def keyTy (T : Tab) (t : TypeId) (x : AVal) : Option Unit :=
  (T.ti t).bind fun i => match i.agg, i.shape, x with
    | false, [.int kd], .int kd' _ => match decide (kd' = kd) with | true => some () | false => none
    | false, [.str], .str _ => some ()
    | _, _, _ => none
def builtinC (T : Tab) (b : Builtin) (ts : List TypeId) (vs : List AVal) (l : Locs) (σ : Heap) (k : AVal → Locs → Heap → Option R) : Option R :=
  match b, ts, vs with
  | .len, [t], [x] => (T.ti t).bind fun i => match x with
    | .slice _ _ n _ => match i.kind with | .slice _ => k (.int .i64 n) l σ | _ => none
    | .lslice _ n _ => match i.kind with | .slice _ => k (.int .i64 n) l σ | _ => none
    | .str s => match i.agg, i.shape with | false, [.str] => k (.int .i64 s.size) l σ | _, _ => none
    | .map b => match i.kind with | .map _ _ => (σ.entries b).bind fun es => k (.int .i64 es.length) l σ | _ => none
    | _ => none
  | .delete, [t, _], [.map b, x] => (T.ti t).bind fun i => match i.kind with
    | .map kt _ => (keyTy T kt x).bind fun _ => (σ.mdel b x).bind fun σ' => k (.tuple []) l σ'
    | _ => none
  | .append, [t, xt], [.slice b o n z, x] => (T.ti t).bind fun i => (T.ti xt).bind fun xi => match i.kind with
    | .slice et => (T.ti et).bind fun ie => match decide (z = ie.size ∨ b = none) with
      | true => (srcLen x).bind fun m => (srcC xi ie x m l σ).bind fun vs => (σ.append b o n ie.size ie.bytes vs m).bind fun q => k (.slice q.1.1 q.1.2.1 q.1.2.2 ie.size) l q.2
      | false => none
    | _ => none
  | .copy, [t, xt], [.slice b o n z, x] => (T.ti t).bind fun i => (T.ti xt).bind fun xi => match i.kind with
    | .slice et => (T.ti et).bind fun ie => match decide (z = ie.size ∨ b = none) with
      | true => (srcLen x).bind fun m => (srcC xi ie x (min m n) l σ).bind fun vs => match b with
        | none => k (.int .i64 ((min m n : Nat) : Int)) l σ
        | some b => (σ.store b o vs).bind fun σ' => k (.int .i64 ((min m n : Nat) : Int)) l σ'
      | false => none
    | _ => none
  | .max, _, [.int kd a, .int kd' b] => if kd = kd' then k (.int kd (if b > a then b else a)) l σ else none
  | .min, _, [.int kd a, .int kd' b] => if kd = kd' then k (.int kd (if b < a then b else a)) l σ else none
  | .complex, _, [.flt a, .flt b] => k (.cpx a b) l σ
  | .real, _, [.cpx a _] => k (.flt a) l σ
  | .imag, _, [.cpx _ b] => k (.flt b) l σ
  | _, _, _ => none

/-- Is it told how the world lays out a block? -/
def Heap.typed (σ : Heap) (b : Nat) (t : TypeId) (sz : Nat) : Bool := σ.any fun x => match x with | .tys b' t' sz' => b' == b && t' == t && sz' == sz | _ => false
/-- A slice grows, and it is told how the world lays out its memory. -/
def Heap.appendT (σ : Heap) (b : Option Nat) (o n z bytes : Nat) (vs : List AVal) (m : Nat) (et : TypeId) : Option ((Option Nat × Nat × Nat) × Heap) :=
  match (match b with | none => true | some b0 => σ.typed b0 et 0 && decide (o = 0)) with
  | true => (σ.append b o n z bytes vs m).bind fun q => match q.1.1 with
    | some nb => some ((some nb, q.1.2), q.2 ++ [.tys nb et 0])
    | none => some ((none, q.1.2), q.2)
  | false => none
def sliceData (b : Option Nat) (o n : Nat) : Option (Option (Nat × Nat)) :=
  match b with
  | some b => match decide (0 < n) with | true => some (some (b, o)) | false => none
  | none => some none
/-- The bytes at a pointer, as a text; they are no more to be written. -/
def Heap.textOf (σ : Heap) (p : Option (Nat × Nat)) (n : Int) (e : TypeId) : Option (ByteArray × Heap) :=
  match p with
  | none => match decide (n = 0) with | true => some (⟨#[]⟩, σ) | false => none
  | some (b, o) => match decide (o = 0) && decide (0 < n) && decide (n ≤ 9223372036854775807) && σ.typed b e 0 with
    | true => match σ[b]? with
      | some (.row cs .rw) => match decide (n.toNat ≤ cs.length) with
        | true => (bytesX (cs.take n.toNat)).bind fun bs => some (⟨bs.toArray⟩, σ.set b (.row [] .dead))
        | false => none
      | _ => none
    | false => none
/-- The builtins of the functions that keep types in mind. -/
def builtinU (T : Tab) (b : Builtin) (ts : List TypeId) (vs : List AVal) (l : Locs) (σ : Heap) (k : AVal → Locs → Heap → Option R) : Option R :=
  match b with
  | .append => match ts, vs with
    | [t, xt], [.slice b o n z, x] => (T.ti t).bind fun i => (T.ti xt).bind fun xi => match i.kind with
      | .slice et => (T.ti et).bind fun ie => match decide (z = ie.size ∨ b = none) with
        | true => (srcLen x).bind fun m => (srcC xi ie x m l σ).bind fun vs => (σ.appendT b o n ie.size ie.bytes vs m et).bind fun q => k (.slice q.1.1 q.1.2.1 q.1.2.2 ie.size) l q.2
        | false => none
      | _ => none
    | _, _ => none
  | .unsafeSliceData => match vs with
    | [.slice b o n _] => (sliceData b o n).bind fun p => k (.ptr p) l σ
    | _ => none
  | .unsafeString => match ts, vs with
    | pt :: _ :: [], [.ptr p, .int .i64 n] => (T.byt pt).bind fun e => (σ.textOf p n e).bind fun q => k (.str q.1) l q.2
    | _, _ => none
  | b => builtinC T b ts vs l σ k

/-- A nil slice that was told without its elements' size has that of its type. -/
def fixV (T : Tab) (t : TypeId) (v : AVal) : AVal :=
  match v with
  | .slice b o n 0 => match b with
    | none => match T.ti t with
      | some i => match i.shape with
        | [.slice z] => .slice none o n z
        | _ => .slice none o n 0
      | none => .slice none o n 0
    | some b => .slice (some b) o n 0
  | v => v

/-- A number that counts, of whatever kind. -/
def idx? (x : AVal) : Option Int := match x with | .int _ n => some n | _ => none

/-- What an operation that isn't a call of a Go function does. -/
def opC (T : Tab) (f : FuncId) (dst : Option Nat) (type : TypeId) (op : Op) (e : Env) (l : Locs) (σ : Heap) (k : AVal → Locs → Heap → Option R) : Option R :=
  match op with
  | .move x => k (fixV T type (ev T e x)) l σ
  | .assign x => k (fixV T type (ev T e x)) l σ
  | .pick c a b => pickB (ev T e c) (ev T e a) (ev T e b) fun v => k v l σ
  | .alloc t => (T.ti t).bind fun i =>
      match dst with
      | some d => match T.loc f d with
        | true => match l[d]? with
          | some .none => k (.lptr d 0) (l.set d (.cells i.zeros)) σ
          | _ => none
        | false => match T.tag t with
          | true => k (.ptr (some (σ.length, 0))) l (σ ++ [.row i.zeros .rw] ++ [.tys σ.length t i.zeros.length])
          | false => k (.ptr (some (σ.length, 0))) l (σ ++ [.row i.zeros .rw])
      | none => none
  | .box t x => (T.ti t).bind fun _ =>
      match cellAll (ev T e x).cells with
      | true => match dst with
        | some d => match T.loc f d with
          | true => match l[d]? with
            | some .none => k (.lptr d 0) (l.set d (.cells (ev T e x).cells)) σ
            | _ => none
          | false => k (.ptr (some (σ.length, 0))) l (σ ++ [.row (ev T e x).cells .rw])
        | none => none
      | false => none
  | .build t parts => (T.ti t).bind fun i =>
      match partsOk T e parts with
      | true => match i.kind with
        | .struct fs => (fillC (fun j => (fs[j]?).bind fun p => (T.ti p.2).map fun i => (p.1, i.size)) i.zeros (parts.toList.map fun p => (p.1, ev T e p.2))).bind fun cs => k (.agg cs) l σ
        | .array _ et => (T.ti et).bind fun ie => (fillC (fun j => some (j * ie.size, ie.size)) i.zeros (parts.toList.map fun p => (p.1, ev T e p.2))).bind fun cs => k (.agg cs) l σ
        | _ => none
      | false => none
  | .buildSlice t len parts => (T.ti t).bind fun i =>
      match partsOk T e parts with
      | true => match i.kind with
        | .slice et => (T.ti et).bind fun ie =>
            (fillC (fun j => some (j * ie.size, ie.size)) ((List.replicate len ie.zeros).flatten) (parts.toList.map fun p => (p.1, ev T e p.2))).bind fun cs =>
              match decide (len * ie.size ≤ 16777216) && decide (len ≤ 16777216) with
              | true => match dst with
                | some d => match T.loc f d with
                  | true => match l[d]? with
                    | some .none => k (.lslice d len ie.size) (l.set d (.cells cs)) σ
                    | _ => none
                  | false => k (.slice (some σ.length) 0 len ie.size) l (σ ++ [.row cs .rw])
                | none => none
              | false => none
        | _ => none
      | false => none
  | .load t a => (T.ti t).bind fun i =>
      match ev T e a with
      | .ptr p => p.bind fun q => fetches i.shape (fun j => σ.cell? q.1 (q.2 + j)) 0 fun vs => k (i.val vs) l σ
      | .lptr s o => match (l[s]?).bind LBlk.cells? with
        | some cs => fetches i.shape (fun j => cs[o + j]?) 0 fun vs => k (i.val vs) l σ
        | _ => none
      | _ => none
  | .store t a x => (T.ti t).bind fun i =>
      match cellAll (ev T e x).cells && decide ((ev T e x).cells.length = i.size) with
      | true => match ev T e a with
        | .ptr p => p.bind fun q => (σ.store q.1 q.2 (ev T e x).cells).bind fun σ' => k .void l σ'
        | .lptr s o => match l[s]? with
          | some (.cells cs) => match decide (o + i.size ≤ cs.length) with
            | true => k .void (l.set s (.cells (overwrite cs o (ev T e x).cells))) σ
            | false => none
          | _ => none
        | _ => none
      | false => none
  | .nilCheck x => match ev T e x with
      | .ptr p => p.bind fun q => k (.ptr (some q)) l σ
      | .lptr s o => k (.lptr s o) l σ
      | .func (.func g) cs => k (.func (.func g) cs) l σ
      | _ => none
  | .binOp op t x y _ => binK op (T.ti t) (T.eq t) (isLit y) (ev T e x) (ev T e y) fun v => k v l σ
  | .unOp op _ x => (unC op (ev T e x)).bind fun v => k v l σ
  | .convert src dst' x => (T.ti src).bind fun si => (T.ti dst').bind fun di => convC T (decide (src = dst')) si di (ev T e x) l σ k
  | .slice t x lo hi mx => (T.ti t).bind fun i =>
      match ev T e x, mx with
      | .str s, none => match i.agg, i.shape with
        | false, [.str] =>
          (match hi with | some y => int? (some (ev T e y)) .i64 | none => some (s.size : Int)).bind fun h =>
          (match lo with | some y => int? (some (ev T e y)) .i64 | none => some 0).bind fun w =>
          match decide (0 ≤ w) && decide (w ≤ h) && decide (h ≤ s.size) with
            | true => k (.str (s.extract w.toNat h.toNat)) l σ
            | false => none
        | _, _ => none
      | .slice b o n z, none => match i.kind with
        | .slice et => (T.ti et).bind fun ie =>
          (match hi with | some y => int? (some (ev T e y)) .i64 | none => some (n : Int)).bind fun h =>
          (match lo with | some y => int? (some (ev T e y)) .i64 | none => some 0).bind fun w =>
          match decide (z = ie.size) with
          | true => match decide (0 ≤ w) && decide (w ≤ h) && decide (h ≤ n) with
            | true => k (.slice b (o + w.toNat * z) (h.toNat - w.toNat) z) l σ
            | false => none
          | false => none
        | _ => none
      | .slice b o n z, some m => match i.kind with
        | .slice et => (T.ti et).bind fun ie =>
          (match hi with | some y => int? (some (ev T e y)) .i64 | none => none).bind fun h =>
          (match lo with | some y => int? (some (ev T e y)) .i64 | none => some 0).bind fun w =>
          (int? (some (ev T e m)) .i64).bind fun m =>
          match decide (z = ie.size) with
          | true => match decide (0 ≤ w) && decide (w ≤ h) && decide (h ≤ m) && decide (m ≤ n) with
            | true => k (.slice b (o + w.toNat * z) (h.toNat - w.toNat) z) l σ
            | false => none
          | false => none
        | _ => none
      | .ptr p, none => match i.kind with
        | .array n et => (T.ti et).bind fun ie =>
          (match hi with | some y => int? (some (ev T e y)) .i64 | none => some (n : Int)).bind fun h =>
          (match lo with | some y => int? (some (ev T e y)) .i64 | none => some 0).bind fun w =>
          p.bind fun q => (σ.row? q.1).bind fun cs =>
          match decide (n ≤ 16777216) && decide (q.2 + n * ie.size ≤ cs.length) with
          | true => match decide (0 ≤ w) && decide (w ≤ h) && decide (h ≤ n) with
            | true => k (.slice (some q.1) (q.2 + w.toNat * ie.size) (h.toNat - w.toNat) ie.size) l σ
            | false => none
          | false => none
        | _ => none
      | _, _ => none
  | .fieldAddr s x fd => (T.ti s).bind fun i =>
      match i.kind with
      | .struct fs => (fs[fd]?).bind fun p => match ev T e x with
        | .ptr q => q.bind fun q => k (.ptr (some (q.1, q.2 + p.1))) l σ
        | .lptr t o => k (.lptr t (o + p.1)) l σ
        | _ => none
      | _ => none
  | .field s x fd => (T.ti s).bind fun i =>
      match i.kind with
      | .struct fs => (fs[fd]?).bind fun p => (T.ti p.2).bind fun fi => match ev T e x with
        | .agg cs => fetches fi.shape (fun j => cs[p.1 + j]?) 0 fun vs => k (fi.val vs) l σ
        | _ => none
      | _ => none
  | .indexAddr t x ix => (T.ti t).bind fun i =>
      match i.kind, ev T e x, idx? (ev T e ix) with
      | .slice et, .slice b o n z, some j => (T.ti et).bind fun ie => match decide (z = ie.size) with
        | true => match decide (0 ≤ j) && decide (j < n) with
          | true => b.bind fun b => k (.ptr (some (b, o + j.toNat * z))) l σ
          | false => none
        | false => none
      | .array n et, .ptr p, some j => (T.ti et).bind fun ie => match decide (0 ≤ j) && decide (j < n) with
        | true => p.bind fun q => k (.ptr (some (q.1, q.2 + j.toNat * ie.size))) l σ
        | false => none
      | .array n et, .lptr s o, some j => (T.ti et).bind fun ie => match decide (0 ≤ j) && decide (j < n) with
        | true => k (.lptr s (o + j.toNat * ie.size)) l σ
        | false => none
      | _, _, _ => none
  | .index t x ix => (T.ti t).bind fun i =>
      match ev T e x, idx? (ev T e ix) with
      | .str s, some j => match i.agg, i.shape with
        | false, [.str] => match decide (0 ≤ j) && decide (j < s.size) with
          | true => k (.int .u8 ((s.data.toList.getD j.toNat 0).toNat : Int)) l σ
          | false => none
        | _, _ => none
      | .agg cs, some j => match i.kind with
        | .array n et => (T.ti et).bind fun ie => match decide (0 ≤ j) && decide (j < n) with
          | true => fetches ie.shape (fun m => cs[j.toNat * ie.size + m]?) 0 fun vs => k (ie.val vs) l σ
          | false => none
        | _ => none
      | _, _ => none
  | .extract t ix => match ev T e t with
      | .tuple vs => (vs[ix]?).bind fun v => k v l σ
      | _ => none
  | .makeSlice t n c => (T.ti t).bind fun i =>
      match i.kind, int? (some (ev T e n)) .i64, int? (some (ev T e c)) .i64 with
      | .slice et, some n, some c => (T.ti et).bind fun ie =>
          match decide (0 ≤ n) && decide (n ≤ c) && decide (ie.bytes * c ≤ 70368744177664) && decide (c ≤ 70368744177664) with
          | true => k (.slice (some σ.length) 0 n.toNat ie.size) l (σ ++ [.row ((List.replicate c.toNat ie.zeros).flatten) .rw])
          | false => none
      | _, _, _ => none
  | .makeMap t none => (T.ti t).bind fun i => match i.kind with
      | .map _ _ => k (.map (some σ.length)) l (σ ++ [.map [] .rw])
      | _ => none
  | .lookup t x ix ok => (T.ti t).bind fun i => match i.kind, ev T e x with
      | .map kt et, .map b => (keyTy T kt (ev T e ix)).bind fun _ => (T.ti et).bind fun ie =>
        (σ.look b (ev T e ix) (ie.val ie.zeros)).bind fun v => match ie.agg with
          | false => match ie.shape with
            | [s] => s.fetch (some v) fun v => bif ok then (σ.has b (ev T e ix)).bind fun h => k (.tuple [v, .bool h]) l σ else k v l σ
            | _ => none
          | true => (aggOf v).bind fun cs => match decide (cs.length = ie.size) with
            | true => fetches ie.shape (fun j => cs[j]?) 0 fun vs => bif ok then (σ.has b (ev T e ix)).bind fun h => k (.tuple [.agg vs, .bool h]) l σ else k (.agg vs) l σ
            | false => none
      | _, _ => none
  | .mapUpdate t x ix v => (T.ti t).bind fun i => match i.kind, ev T e x with
      | .map kt _, .map b => (keyTy T kt (ev T e ix)).bind fun _ => match (ev T e v).noLoc with
        | true => (σ.mput b (ev T e ix) (ev T e v)).bind fun σ' => k .void l σ'
        | false => none
      | _, _ => none
  | .makeFunc fn first caps => match first.size with
      | 0 => k (.func fn (caps.toList.map (ev T e))) l σ
      | _ => none
  | .makeInterface t x => match T.conc t with
      | true => match (ev T e x).noLoc with
        | true => k (.iface t (ev T e x)) l σ
        | false => none
      | false => none
  | .range t x => (T.ti t).bind fun i => match i.agg, i.shape, ev T e x with
      | false, [.str], .str s => match dst with
        | some d => match l[d]? with
          | some .none => k (.lptr d 0) (l.set d (.iter s 0)) σ
          | _ => none
        | none => none
      | false, [.map], .map b => (σ.entries b).bind fun es => (mapEmpty es).bind fun _ => match dst with
        | some d => match l[d]? with
          | some .none => k (.lptr d 0) (l.set d (.miter b)) σ
          | _ => none
        | none => none
      | _, _, _ => none
  | .next x isS => match isS, ev T e x with
      | true, .lptr t 0 => match l[t]? with
        | some (.iter s pos) =>
          bif decide (pos < s.size) then k (.tuple [.bool true, .int .i64 pos, .int .i32 (Utf8.decode s pos).1]) (l.set t (.iter s (pos + (Utf8.decode s pos).2))) σ
          else k (.tuple [.bool false]) l σ
        | _ => none
      | false, .lptr t 0 => match l[t]? with
        | some (.miter b) => (σ.entries b).bind fun es => (mapEmpty es).bind fun _ => k (.tuple [.bool false]) l σ
        | _ => none
      | _, _ => none
  | .call c => match c.callee with
      | .builtin b => match T.tagA f with
        | false => builtinC T b c.argTypes.toList (c.args.toList.map (ev T e)) l σ k
        | true => builtinU T b c.argTypes.toList (c.args.toList.map (ev T e)) l σ k
      | _ => none
  | _ => none

/-! ### Calls, regions, code -/
def castV (T : Tab) (t : TypeId) (v : AVal) (k : AVal → Option R) : Option R :=
  (T.ti t).bind fun i => match i.agg with
    | false => match i.shape with
      | [s] => s.fetch (some v) k
      | _ => none
    | true => match v with
      | .agg cs => match decide (cs.length = i.size) with
        | true => fetches i.shape (fun j => cs[j]?) 0 fun vs => k (.agg vs)
        | false => none
      | _ => none
def castVs (T : Tab) : List TypeId → List AVal → (List AVal → Option R) → Option R
  | [], [], k => k []
  | t :: ts, v :: vs, k => castV T t v fun v => castVs T ts vs fun vs => k (v :: vs)
  | _, _, _ => none

/-- What a call answers, told by its type. -/
def castR (T : Tab) (t : TypeId) (v : AVal) (k : AVal → Option R) : Option R :=
  match T.tup t with
  | none => castV T t v k
  | some ts => match v with
    | .tuple vs => castVs T ts vs fun vs => k (.tuple vs)
    | _ => none

abbrev CallF1 (R : Type) := List AVal → Heap → (AVal → Heap → Option R) → Option R
abbrev CallF (R : Type) := FuncId → CallF1 R

/-- All that is there can be read alone. -/
def Blk.frz : Blk → Blk
  | .row cs .rw => .row cs .ro
  | .map es .rw => .map es .ro
  | .tys _ _ _ => .row [] .dead
  | b => b
def Heap.frz (σ : Heap) : Heap := σ.map Blk.frz
def Blk.isTys : Blk → Bool | .tys _ _ _ => true | _ => false
/-- What it tells of types is forgotten. -/
def Blk.untys : Blk → Blk | .tys _ _ _ => .row [] .dead | x => x
/-- What was there as it was, and what has come. -/
def Heap.back (σ σ' : Heap) : Heap := σ ++ (σ'.drop σ.length).map Blk.untys
def LBlk.frz : LBlk → LBlk
  | .cells cs => .fcells cs
  | .iter s p => .fiter s p
  | .miter _ => .hid
  | b => b
def Locs.frz (l : Locs) : Locs := l.map LBlk.frz
def Locs.back : Locs → Locs → Locs
  | [], ys => ys
  | x :: xs, [] => x :: xs
  | x :: xs, y :: ys => (match x with | .none => y | x => x) :: Locs.back xs ys

/-- A method of what an interface holds. -/
def invC (T : Tab) (callF : CallF R) (nm : String) (x : AVal) (args : List AVal) (σ : Heap) (k : AVal → Heap → Option R) : Option R :=
  match x with
  | .iface t v => match T.meth t nm with
    | some g => match noLocs (v :: args) with
      | true => callF g (v :: args) σ k
      | false => none
    | none => none
  | _ => none
def stepC (T : Tab) (f : FuncId) (callF : CallF R) (o : Oper) (e : Env) (l : Locs) (σ : Heap) (k : AVal → Locs → Heap → Option R) : Option R :=
  match o.op with
  | .call { callee := .value x, args, .. } => match ev T e x with
    | .func (.func g) caps => match noLocs (args.toList.map (ev T e) ++ caps) with
      | true => callF g (args.toList.map (ev T e) ++ caps) σ fun v σ' => castR T o.type v fun v => k v l σ'
      | false => none
    | _ => none
  | .call { callee := .invoke x nm, args, .. } => invC T callF nm (ev T e x) (args.toList.map (ev T e)) σ fun v σ' => castR T o.type v fun v => k v l σ'
  | op => opC T f o.dst o.type op e l σ k

/-- An operation that makes no memory and changes none. -/
def still (T : Tab) : Op → Bool
  | .move _ | .assign _ | .pick _ _ _ | .build _ _ | .load _ _ | .nilCheck _ | .binOp _ _ _ _ _ | .unOp _ _ _ | .slice _ _ _ _ _ | .fieldAddr _ _ _ | .field _ _ _ | .indexAddr _ _ _ | .index _ _ _ | .extract _ _ | .makeFunc _ _ _ | .makeInterface _ _ | .lookup _ _ _ _ => true
  | .convert _ d _ => match T.ti d with
    | some di => match di.shape with
      | [.int _] => true
      | [.str] => true
      | _ => false
    | none => false
  | .call c => match c.callee with
    | .builtin .len | .builtin .max | .builtin .min | .builtin .unsafeSliceData | .builtin .complex | .builtin .real | .builtin .imag => true
    | _ => false
  | _ => false

/-- A block is as it was, or dead. -/
def SD (x y : Option Blk) : Prop := y = x ∨ (y = some (.row [] .dead) ∧ ∃ cs, x = some (.row cs .rw))
/-- What was there is as it was, or dead. -/
def Keep (σ σ' : Heap) : Prop := σ.length ≤ σ'.length ∧ (∀ b, b < σ.length → SD σ[b]? σ'[b]?) ∧ ∀ (b : Nat) (x : Blk), σ.length ≤ b → σ'[b]? = some x → x.isTys = false
mutual
def AVal.same : AVal → AVal → Bool
  | .undef, .undef => true
  | .void, .void => true
  | .bool a, .bool b => decide (a = b)
  | .int k a, .int k' b => decide (k = k') && decide (a = b)
  | .str a, .str b => decide (a.data.toList = b.data.toList)
  | .ptr a, .ptr b => decide (a = b)
  | .lptr a b, .lptr c d => decide (a = c) && decide (b = d)
  | .slice a b c d, .slice a' b' c' d' => decide (a = a') && decide (b = b') && decide (c = c') && decide (d = d')
  | .lslice a b c, .lslice a' b' c' => decide (a = a') && decide (b = b') && decide (c = c')
  | .map a, .map b => decide (a = b)
  | .func f cs, .func g ds => decide (f = g) && sames cs ds
  | .nilfunc, .nilfunc => true
  | .iface t v, .iface u w => decide (t = u) && v.same w
  | .niliface, .niliface => true
  | .errv a, .errv b => decide (a = b)
  | .flt a, .flt b => decide (a = b)
  | .cpx a b, .cpx c d => decide (a = c) && decide (b = d)
  | .agg cs, .agg ds => sames cs ds
  | .tuple cs, .tuple ds => sames cs ds
  | _, _ => false
def sames : List AVal → List AVal → Bool
  | [], [] => true
  | x :: xs, y :: ys => x.same y && sames xs ys
  | _, _ => false
end
mutual
theorem AVal.same_eq : ∀ {x y : AVal}, x.same y = true → x = y
  | .undef, y, h => by cases y <;> first | rfl | (simp [AVal.same] at h)
  | .void, y, h => by cases y <;> first | rfl | (simp [AVal.same] at h)
  | .bool a, y, h => by cases y <;> first | (simp [AVal.same] at h; done) | (simp [AVal.same] at h; simp [h])
  | .int k a, y, h => by cases y <;> first | (simp [AVal.same] at h; done) | (simp [AVal.same] at h; simp [h])
  | .str a, y, h => by
    cases y <;> first | (simp [AVal.same] at h; done) | skip
    simp only [AVal.same, decide_eq_true_eq] at h
    congr 1
    exact ByteArray.ext (Array.ext' h)
  | .ptr a, y, h => by cases y <;> first | (simp [AVal.same] at h; done) | (simp [AVal.same] at h; simp [h])
  | .lptr a b, y, h => by cases y <;> first | (simp [AVal.same] at h; done) | (simp [AVal.same] at h; simp [h])
  | .slice a b c d, y, h => by cases y <;> first | (simp [AVal.same] at h; done) | (simp [AVal.same] at h; simp [h])
  | .lslice a b c, y, h => by cases y <;> first | (simp [AVal.same] at h; done) | (simp [AVal.same] at h; simp [h])
  | .map a, y, h => by cases y <;> first | (simp [AVal.same] at h; done) | (simp [AVal.same] at h; simp [h])
  | .func f cs, y, h => by
    cases y <;> first | (simp [AVal.same] at h; done) | skip
    simp only [AVal.same, Bool.and_eq_true, decide_eq_true_eq] at h
    rw [h.1, sames_eq h.2]
  | .nilfunc, y, h => by cases y <;> first | rfl | (simp [AVal.same] at h)
  | .iface t v, y, h => by
    cases y <;> first | (simp [AVal.same] at h; done) | skip
    simp only [AVal.same, Bool.and_eq_true, decide_eq_true_eq] at h
    rw [h.1, AVal.same_eq h.2]
  | .niliface, y, h => by cases y <;> first | rfl | (simp [AVal.same] at h)
  | .errv a, y, h => by cases y <;> first | (simp [AVal.same] at h; done) | (simp [AVal.same] at h; simp [h])
  | .flt a, y, h => by cases y <;> first | (simp [AVal.same] at h; done) | (simp [AVal.same] at h; simp [h])
  | .cpx a b, y, h => by cases y <;> first | (simp [AVal.same] at h; done) | (simp [AVal.same] at h; simp [h])
  | .agg cs, y, h => by
    cases y <;> first | (simp [AVal.same] at h; done) | skip
    simp only [AVal.same] at h
    rw [sames_eq h]
  | .tuple cs, y, h => by
    cases y <;> first | (simp [AVal.same] at h; done) | skip
    simp only [AVal.same] at h
    rw [sames_eq h]
theorem sames_eq : ∀ {xs ys : List AVal}, sames xs ys = true → xs = ys
  | [], ys, h => by cases ys <;> first | rfl | (simp [sames] at h)
  | x :: xs, ys, h => by
    cases ys <;> first | (simp [sames] at h; done) | skip
    simp only [sames, Bool.and_eq_true] at h
    rw [AVal.same_eq h.1, sames_eq h.2]
end
mutual
theorem AVal.same_refl : ∀ (x : AVal), x.same x = true
  | .undef | .void | .nilfunc | .niliface => rfl
  | .bool _ | .int _ _ | .str _ | .ptr _ | .lptr _ _ | .slice _ _ _ _ | .lslice _ _ _ | .map _ | .errv _ | .flt _ | .cpx _ _ => by simp [AVal.same]
  | .func f cs => by simp [AVal.same, sames_refl cs]
  | .iface t v => by simp [AVal.same, AVal.same_refl v]
  | .agg cs => by simp [AVal.same, sames_refl cs]
  | .tuple cs => by simp [AVal.same, sames_refl cs]
theorem sames_refl : ∀ (xs : List AVal), sames xs xs = true
  | [] => rfl
  | x :: xs => by simp [sames, AVal.same_refl x, sames_refl xs]
end
def Blk.same : Blk → Blk → Bool
  | .row cs m, .row ds m' => sames cs ds && decide (m = m')
  | .map es m, .map fs m' => sames (es.map (·.1)) (fs.map (·.1)) && sames (es.map (·.2)) (fs.map (·.2)) && decide (m = m')
  | .tys b t s, .tys b' t' s' => decide (b = b') && decide (t = t') && decide (s = s')
  | _, _ => false
theorem pairs_eq : ∀ {es fs : List (AVal × AVal)}, es.map (·.1) = fs.map (·.1) → es.map (·.2) = fs.map (·.2) → es = fs
  | [], [], _, _ => rfl
  | [], _ :: _, h, _ => by simp at h
  | _ :: _, [], h, _ => by simp at h
  | (a, b) :: es, (c, d) :: fs, h, k => by
    simp only [List.map_cons, List.cons.injEq] at h k
    rw [h.1, k.1, pairs_eq h.2 k.2]
theorem Blk.same_iff {x y : Blk} : x.same y = true ↔ x = y := by
  constructor
  · intro h
    cases x <;> cases y <;> first | (simp [Blk.same] at h; done) | skip
    · simp only [Blk.same, Bool.and_eq_true, decide_eq_true_eq] at h
      rw [sames_eq h.1, h.2]
    · simp only [Blk.same, Bool.and_eq_true, decide_eq_true_eq] at h
      rw [pairs_eq (sames_eq h.1.1) (sames_eq h.1.2), h.2]
    · simp only [Blk.same, Bool.and_eq_true, decide_eq_true_eq] at h
      rw [h.1.1, h.1.2, h.2]
  · rintro rfl
    cases x <;> simp [Blk.same, sames_refl]
/-- A row that can be written is dead. -/
def deadOf : Blk → Blk → Bool
  | .row _ .rw, .row [] .dead => true
  | _, _ => false
def keepB : Heap → Heap → Bool
  | [], ys => ys.all fun y => !y.isTys
  | x :: xs, y :: ys => (x.same y || deadOf x y) && keepB xs ys
  | _ :: _, [] => false
theorem keepB_iff : ∀ {σ σ' : Heap}, keepB σ σ' = true ↔ Keep σ σ'
  | [], ys => by
    simp only [keepB, List.all_eq_true, Bool.not_eq_true']
    constructor
    · exact fun h => ⟨by simp, fun b hb => by simp at hb, fun b x _ hx => h x (List.mem_of_getElem? hx)⟩
    · intro h x hx
      obtain ⟨b, hb⟩ := List.mem_iff_getElem?.1 hx
      exact h.2.2 b x (by simp) hb
  | x :: xs, [] => by
    simp only [keepB]
    exact ⟨fun h => (by cases h), fun h => (by have := h.1; simp at this)⟩
  | x :: xs, y :: ys => by
    simp only [keepB, Bool.and_eq_true, Bool.or_eq_true, keepB_iff (σ := xs) (σ' := ys), Blk.same_iff]
    constructor
    · rintro ⟨h, k1, k2, k3⟩
      refine ⟨by simpa using k1, fun b hb => ?_, fun b z hb hz => ?_⟩
      · cases b with
        | zero =>
          rcases h with h | h
          · exact .inl (by simp [h])
          · right
            unfold deadOf at h
            split at h
            · exact ⟨rfl, _, rfl⟩
            · cases h
        | succ b =>
          simp only [List.length_cons] at hb
          simpa using k2 b (by omega)
      · cases b with
        | zero => simp at hb
        | succ b =>
          simp only [List.length_cons] at hb
          exact k3 b z (by omega) (by simpa using hz)
    · rintro ⟨k1, k2, k3⟩
      refine ⟨?_, by simpa using k1, fun b hb => ?_, fun b z hb hz => k3 (b + 1) z (by simp; omega) (by simpa using hz)⟩
      · rcases k2 0 (by simp) with h | ⟨h, cs, h'⟩
        · left
          simpa using h.symm
        · right
          simp only [List.getElem?_cons_zero, Option.some.injEq] at h h'
          subst h; subst h'
          rfl
      · have := k2 (b + 1) (by simp; omega)
        simpa using this
def keep? (σ σ' : Heap) : Option Unit := match keepB σ σ' with
  | true => some ()
  | false => none
theorem keep_of {σ σ' : Heap} (h : Keep σ σ') : keep? σ σ' = some () := by
  unfold keep?
  rw [keepB_iff.2 h]
def isCallF : Op → Bool
  | .call { callee := .value _, .. } => true
  | .call { callee := .builtin .append, .. } => true
  | _ => false

/-- An operation that answers the same in every world. -/
def pureNow (T : Tab) (e : Env) : Op → Bool
  | .binOp _ _ _ _ _ => true
  | .index _ x _ => match ev T e x with | .str _ => true | _ => false
  | _ => false

/-- A region's operations in another order: π tells which one comes at each place. -/
def permOp (π : List Nat) (o : Oper) : Oper :=
  { o with after := (o.after.toList.map fun e => { e with on := π.idxOf e.on }).toArray, guard := match o.guard with | some (g, b) => some (π.idxOf g, b) | none => none }
def permOps (π : List Nat) (ops : Array Oper) : Array Oper :=
  match π with
  | [] => ops
  | π => (permOps.go π ops.toList π).toArray
where go (π : List Nat) (os : List Oper) : List Nat → List Oper
  | [] => []
  | i :: r => match os[i]? with | some o => permOp π o :: go π os r | none => []

/-- What a store leaves to be read till the next bar: what it changed is hidden. -/
def hideC (T : Tab) (e : Env) (l' : Locs) (σ' : Heap) : Op → Option (Locs × Heap)
  | .store _ a _ => match ev T e a with
    | .lptr t _ => some (l'.set t .hid, σ')
    | .ptr (some (b, _)) => some (l', σ'.set b (.row [] .dead))
    | _ => none
  | _ => none
def isStore : Op → Bool
  | .store _ _ _ => true
  | _ => false
/-- What is pending is there at a bar. -/
def atL (q : Bool) (pd : Option (Locs × Heap)) (l : Locs) : Locs := match pd with
  | none => l
  | some p => match q with | true => l | false => p.1
def atH (q : Bool) (pd : Option (Locs × Heap)) (σ : Heap) : Heap := match pd with
  | none => σ
  | some p => match q with | true => σ | false => p.2
def atP (q : Bool) (pd : Option (Locs × Heap)) : Option (Locs × Heap) := match q with | true => pd | false => none
/-- 'q': an operation whose order is the tape's: it leaves all memory that was there as it was. 'hf' and 'q': a call ahead of which all others of the text are, and which leaves what was there as it was, or dead; or a store ahead of which all others are: what it changed is hidden till the next bar. 'hf' alone: one that answers the same in every world, and so may be taken first. -/
def runC (T : Tab) (f : FuncId) (callF : CallF R) (q hf : Bool) (o : Oper) (e : Env) (l : Locs) (σ : Heap) (pd : Option (Locs × Heap)) (k : AVal → Locs → Heap → Option (Locs × Heap) → Option R) : Option R :=
  match hf with
  | true => match q with
    | true => match isCallF o.op with
      | true => match pd with
        | none => stepC T f callF o e l σ fun v _ σ' => (keep? σ σ').bind fun _ => k v l σ' none
        | some _ => none
      | false => match isStore o.op with
        | true => match pd with
          | none => stepC T f callF o e l σ fun v l' σ' => (hideC T e l' σ' o.op).bind fun p => k v p.1 p.2 (some (l', σ'))
          | some _ => none
        | false => none
    | false => match pureNow T e o.op with
      | true => stepC T f callF o e l σ fun v l σ => k v l σ pd
      | false => none
  | false => match q with
    | false => stepC T f callF o e l σ fun v l σ => k v l σ pd
    | true => match still T o.op with
      | true => stepC T f callF o e l σ fun v l σ => k v l σ pd
      | false => stepC T f callF o e l.frz σ.frz fun v l' σ' => k v (l.back l') (σ.back σ') pd

def opsC (T : Tab) (f : FuncId) (callF : CallF R) (all : Array Oper) : List Oper → List Bool → List Bool → Env → Locs → Heap → Option (Locs × Heap) → (Env → Locs → Heap → Option R) → Option R
  | [], _, _, e, l, σ, pd, k => k e (atL false pd l) (atH false pd σ)
  | o :: os, qs, hs, e, l, σ, pd, k =>
    match o.guard with
    | none => runC T f callF (qs.headD false) (hs.headD false) o e (atL (qs.headD false) pd l) (atH (qs.headD false) pd σ) (atP (qs.headD false) pd) fun v l σ pd => opsC T f callF all os qs.tail hs.tail (put e o.dst v) l σ pd k
    | some (g, want) =>
      match (all[g]?).bind (·.dst) with
      | none => opsC T f callF all os qs.tail hs.tail (put e o.dst .void) (atL (qs.headD false) pd l) (atH (qs.headD false) pd σ) (atP (qs.headD false) pd) k
      | some d =>
        match e.getD d .undef with
        | .bool b =>
          match want with
          | true => bif b then runC T f callF (qs.headD false) (hs.headD false) o (e.set d (.bool true)) (atL (qs.headD false) pd l) (atH (qs.headD false) pd σ) (atP (qs.headD false) pd) fun v l σ pd => opsC T f callF all os qs.tail hs.tail (put (e.set d (.bool true)) o.dst v) l σ pd k
              else opsC T f callF all os qs.tail hs.tail (put (e.set d (.bool false)) o.dst .void) (atL (qs.headD false) pd l) (atH (qs.headD false) pd σ) (atP (qs.headD false) pd) k
          | false => bif b then opsC T f callF all os qs.tail hs.tail (put (e.set d (.bool true)) o.dst .void) (atL (qs.headD false) pd l) (atH (qs.headD false) pd σ) (atP (qs.headD false) pd) k
              else runC T f callF (qs.headD false) (hs.headD false) o (e.set d (.bool false)) (atL (qs.headD false) pd l) (atH (qs.headD false) pd σ) (atP (qs.headD false) pd) fun v l σ pd => opsC T f callF all os qs.tail hs.tail (put (e.set d (.bool false)) o.dst v) l σ pd k
        | .void => opsC T f callF all os qs.tail hs.tail (put e o.dst .void) (atL (qs.headD false) pd l) (atH (qs.headD false) pd σ) (atP (qs.headD false) pd) k
        | _ => none

inductive Ex where
  | normal
  | exit (id : Nat)
  | ret

def firstRegion : Code → Nat
  | .region id _ _ => id
  | .seq a _ => firstRegion a
  | .block _ c => firstRegion c
  | .loop c => firstRegion c
  | _ => 0

def maskE : List Nat → Env → Env
  | [], e => e
  | t :: ts, e => maskE ts (e.set t .undef)
def maskL (e : Env) : List Nat → Locs → Locs
  | [], l => l
  | t :: ts, l => maskL e ts (match hasTs t e with | true => l | false => l.set t .none)

abbrev Cont (R : Type) := Ex → Env → Locs → Heap → Option R

def iterC (m : List Nat) (body : Env → Locs → Heap → Cont R → Option R) : Nat → Env → Locs → Heap → Cont R → Option R
  | 0, _, _, _, _ => none
  | n + 1, e, l, σ, K => body e l σ fun x e l σ =>
      match x with
      | .normal => iterC m body n (maskE m e) (maskL (maskE m e) m l) σ K
      | x => K x e l σ

/-- Where ways meet: nothing is done; it only keeps a symbolic run from going on. -/
def joinC (m : List Nat) (σ : Heap) (k : Option R) : Option R :=
  match m with
  | [] => k
  | _ :: _ => match σ with
    | [] => k
    | _ :: _ => k
theorem joinC_eq (m : List Nat) (σ : Heap) (k : Option R) : joinC m σ k = k := by
  cases m with
  | nil => rfl
  | cons _ _ => cases σ <;> rfl
def codeC (T : Tab) (n : Nat) (f : FuncId) (callF : CallF R) : Code → Env → Locs → Heap → Cont R → Option R
  | .skip, e, l, σ, K => K .normal e l σ
  | .region id ops draw, e, l, σ, K => match draw with
    | true => opsC T f callF (permOps (T.perm f id) ops) (permOps (T.perm f id) ops).toList (T.quiet f id) (T.half f id) e l σ none fun e l σ => K .normal e l σ
    | false => opsC T f callF ops ops.toList [] [] e l σ none fun e l σ => K .normal e l σ
  | .seq a b, e, l, σ, K => codeC T n f callF a e l σ fun x e l σ =>
      match x with
      | .normal => joinC (T.join f (firstRegion b)) σ (codeC T n f callF b (maskE (T.join f (firstRegion b)) e) (maskL (maskE (T.join f (firstRegion b)) e) (T.join f (firstRegion b)) l) σ K)
      | x => K x e l σ
  | .cond c a b, e, l, σ, K =>
      match ev T e c with
      | .bool t => bif t then codeC T n f callF a e l σ K else codeC T n f callF b e l σ K
      | _ => none
  | .block id c, e, l, σ, K => codeC T n f callF c e l σ fun x e l σ =>
      match x with
      | .exit id' => if id' = id then K .normal e l σ else K (.exit id') e l σ
      | x => K x e l σ
  | .loop c, e, l, σ, K => iterC (T.mask f (firstRegion c)) (codeC T n f callF c) n (maskE (T.mask f (firstRegion c)) e) (maskL (maskE (T.mask f (firstRegion c)) e) (T.mask f (firstRegion c)) l) σ K
  | .exit id, e, l, σ, K => K (.exit id) e l σ
  | .ret, e, l, σ, K => K .ret e l σ
  | _, _, _, _, _ => none

def resultC (T : Tab) (e : Env) (l : Locs) (σ : Heap) : ResultVar → (AVal → Option R) → Option R
  | .tmp t, k => match (e.getD t .undef).noLoc with
    | true => k (e.getD t .undef)
    | false => none
  | .cell a t, k => (T.ti t).bind fun i =>
      match e.getD a .undef with
      | .ptr p => p.bind fun q => fetches i.shape (fun j => σ.cell? q.1 (q.2 + j)) 0 fun vs => k (i.val vs)
      | .lptr s o => match (l[s]?).bind LBlk.cells? with
        | some cs => fetches i.shape (fun j => cs[o + j]?) 0 fun vs => k (i.val vs)
        | _ => none
      | _ => none
def resultsC (T : Tab) (e : Env) (l : Locs) (σ : Heap) : List ResultVar → (List AVal → Option R) → Option R
  | [], k => k []
  | r :: rs, k => resultC T e l σ r fun v => resultsC T e l σ rs fun vs => k (v :: vs)

/-- What is known of functions already: what a call of it does. -/
def Known := FuncId → Option (∀ R : Type, CallF1 R)

def callC {R : Type} (T : Tab) (O : Known) (L : Nat) : Nat → CallF R
  | 0, _, _, _, _ => none
  | n + 1, f, args, σ, K =>
    match O f with
    | some g => g R args σ K
    | none =>
    match T.fn f with
    | none => none
    | some fn =>
      match fn.body with
      | none => none
      | some c =>
        codeC T L f (callC T O L n) c (args ++ List.replicate (fn.ntmps - args.length) .undef) (List.replicate fn.ntmps .none) σ fun x e l σ' =>
          match x with
          | .exit _ => none
          | _ => resultsC T e l σ' fn.results.toList fun vs =>
              match vs with
              | [v] => K v σ'
              | vs => K (.tuple vs) σ'

end Go.Abs
namespace Go.Abs
open Go

def Blk.live : Blk → Bool | .row _ .dead => false | .map _ .dead => false | _ => true
def Blk.isRW : Blk → Bool | .row _ .rw => true | .map _ .rw => true | .tys _ _ _ => true | _ => false
def Blk.isRO : Blk → Bool | .row _ .ro => true | .map _ .ro => true | _ => false
theorem Blk.live_of_isRW {x : Blk} (h : x.isRW = true) : x.live = true := by
  cases x with
  | row cs m => cases m <;> simp_all [Blk.isRW, Blk.live]
  | map es m => cases m <;> simp_all [Blk.isRW, Blk.live]
  | tys b t sz => simp_all [Blk.isRW, Blk.live]
theorem Blk.live_cases {x : Blk} (h : x.live = true) : x.isRW = true ∨ x.isRO = true := by
  cases x with
  | row cs m => cases m <;> simp_all [Blk.isRW, Blk.live, Blk.isRO]
  | map es m => cases m <;> simp_all [Blk.isRW, Blk.live, Blk.isRO]
  | tys b t sz => simp_all [Blk.isRW, Blk.live, Blk.isRO]

def Unfrozen (fr : Nat × Nat) (n : Nat) : Prop := fr.1 ≤ fr.2 ∧ ∀ j, j < n → ¬ (fr.1 ≤ j ∧ j < fr.2)
abbrev noL : Lp := fun _ => none
/-- All are values that a cell can hold. -/
def Ones (c : Array Value) : Prop := ∀ v ∈ c.toList, v.oneCell' = true

/-- The cells that are known are one cell each. -/
def OnesAt (_ : Mode) (c : Array Value) (off n : Nat) : Prop := ∀ j, j < n → ∀ v, c[off + j]? = some v → v.oneCell' = true
theorem OnesAt.win {m : Mode} {c : Array Value} {off n : Nat} (h : OnesAt m c off n) : ∀ j, j < n → ∀ v, c[off + j]? = some v → v.oneCell' = true := h
theorem Ones.at {c : Array Value} (h : Ones c) (m : Mode) (off n : Nat) : OnesAt m c off n := fun j _ v hv => h v (List.mem_of_getElem? (by rw [Array.getElem?_toList]; exact hv))

def BRel (ρ : Mp) (pl : Pl) (w : World) : Blk → Prop
  | .row _ .dead => True
  | .row cs m => ∃ c ty fr, w.heap[pl.blk]? = some (.cells c ty fr) ∧ c.size = pl.size ∧ pl.off + cs.length ≤ c.size ∧
      (∀ j x, cs[j]? = some x → ∃ v, c[pl.off + j]? = some v ∧ VRel ρ noL x v) ∧ (m = .rw → Unfrozen fr c.size) ∧ OnesAt m c pl.off cs.length ∧ ty = pl.ty
  | .map _ .dead => True
  | .map es _ => ∃ (es' : Array MapEntry) (clock : Nat), w.heap[pl.blk]? = some (.map es' clock) ∧ MapKept.Stamped es' clock ∧ es'.size = es.length ∧
      ∀ (j : Nat) (k v : AVal), es[j]? = some (k, v) → ∃ me, es'[j]? = some me ∧ VRel ρ noL k me.key ∧ VRel ρ noL v me.val
  | .tys _ _ _ => False

/-- What is told of types is so. -/
def TysOK (ρ : Mp) (σ : Heap) : Prop := ∀ (j b : Nat) (t : TypeId) (sz : Nat), σ[j]? = some (.tys b t sz) → b < j ∧ ∃ q, ρ b = some q ∧ q.ty = t ∧ q.off = 0 ∧ (sz = 0 ∨ q.size = sz)
theorem TysOK.mono {ρ ρ' : Mp} {σ : Heap} (h : TysOK ρ σ) (hr : ∀ b pl, ρ b = some pl → ρ' b = some pl) : TysOK ρ' σ := fun j b t sz hj => let ⟨h1, q, h2, h3⟩ := h j b t sz hj; ⟨h1, q, hr _ _ h2, h3⟩
theorem TysOK.snoc {ρ : Mp} {σ : Heap} {x : Blk} (h : TysOK ρ σ) (hx : x.isTys = false) : TysOK ρ (σ ++ [x]) := fun j b t sz hj => by
  rcases Nat.lt_or_ge j σ.length with hl | hl
  · rw [List.getElem?_append_left hl] at hj
    exact h j b t sz hj
  · rw [List.getElem?_append_right hl] at hj
    cases hk : j - σ.length with
    | zero => rw [hk] at hj; simp at hj; subst hj; cases hx
    | succ n => rw [hk] at hj; simp at hj
theorem TysOK.set {ρ : Mp} {σ : Heap} {x : Blk} (h : TysOK ρ σ) (hx : x.isTys = false) (c : Nat) : TysOK ρ (σ.set c x) := fun j b t sz hj => by
  rw [List.getElem?_set] at hj
  split at hj
  · split at hj
    · injection hj with hj; subst hj; cases hx
    · cases hj
  · exact h j b t sz hj
theorem TysOK.told {ρ : Mp} {σ : Heap} (h : TysOK ρ σ) {b : Nat} {q : Pl} {t : TypeId} {sz : Nat} (hb : b < σ.length) (hq : ρ b = some q) (ht : q.ty = t) (h0 : q.off = 0) (hs : sz = 0 ∨ q.size = sz) : TysOK ρ (σ ++ [.tys b t sz]) := fun j b' t' sz' hj => by
  rcases Nat.lt_or_ge j σ.length with hl | hl
  · rw [List.getElem?_append_left hl] at hj
    exact h j b' t' sz' hj
  · rw [List.getElem?_append_right hl] at hj
    cases hk : j - σ.length with
    | zero =>
      rw [hk] at hj
      simp only [List.getElem?_cons_zero, Option.some.injEq, Blk.tys.injEq] at hj
      obtain ⟨rfl, rfl, rfl⟩ := hj
      exact ⟨by omega, q, hq, ht, h0, hs⟩
    | succ n => rw [hk] at hj; simp at hj
structure HRel (ρ : Mp) (σ : Heap) (w : World) : Prop where
  blk : ∀ b pl, ρ b = some pl → ∃ x, σ[b]? = some x ∧ BRel ρ pl w x
  dis : ∀ b b' pl pl' x x', ρ b = some pl → ρ b' = some pl' → σ[b]? = some x → σ[b']? = some x' → b ≠ b' → x.live = true → x'.live = true → x.isRW = true → pl.blk ≠ pl'.blk
  tys : TysOK ρ σ

def LOne (ρ : Mp) (k : Nat) (w : World) : LBlk → Prop
  | .none => False
  | .cells cs => ∃ c ty fr, w.heap[k]? = some (.cells c ty fr) ∧ Unfrozen fr c.size ∧ VRels ρ noL cs c.toList ∧ Ones c
  | .iter s p => w.heap[k]? = some (.stringIter s p)
  | .fcells cs => ∃ c ty fr, w.heap[k]? = some (.cells c ty fr) ∧ Unfrozen fr c.size ∧ VRels ρ noL cs c.toList ∧ Ones c
  | .fiter s p => w.heap[k]? = some (.stringIter s p)
  | .hid => True
  | .miter none => ∃ a s t, w.heap[k]? = some (.mapIter none a s t)
  | .miter (some b) => ∃ pl a s t, ρ b = some pl ∧ w.heap[k]? = some (.mapIter (some pl.blk) a s t)

def LBlk.isRO : LBlk → Bool | .fcells _ => true | .fiter _ _ => true | .hid => true | _ => false

structure LRel (ρ : Mp) (lm : Lp) (l : Locs) (σ : Heap) (w : World) : Prop where
  loc : ∀ t k, lm t = some k → k < w.heap.size ∧ LOne ρ k w (l.getD t .none)
  inj : ∀ t t' k, lm t = some k → lm t' = some k → t = t'
  apart : ∀ t k b pl x, lm t = some k → ρ b = some pl → σ[b]? = some x → x.live = true → pl.blk ≠ k

structure Step (ρ : Mp) (lm : Lp) (l : Locs) (σ : Heap) (w : World) (ρ' : Mp) (lm' : Lp) (l' : Locs) (σ' : Heap) (w' : World) : Prop where
  os : w'.os = w.os
  tape : w'.tape = w.tape
  output : w'.output = w.output
  size : w.heap.size ≤ w'.heap.size
  len : σ.length ≤ σ'.length
  ext : ∀ b pl, ρ b = some pl → ρ' b = some pl
  new : ∀ b, ρ b = none → ρ' b ≠ none → σ.length ≤ b
  unch : ∀ k, k < w.heap.size → (∀ b pl x, ρ b = some pl → σ[b]? = some x → x.isRW = true → pl.blk ≠ k) → (∀ t, lm t = some k → (l.getD t .none).isRO = true) → w'.heap[k]? = w.heap[k]?
  prov : ∀ b pl x, ρ' b = some pl → σ'[b]? = some x → x.isRW = true → w.heap.size ≤ pl.blk ∨ ∃ b0 pl0 x0, ρ b0 = some pl0 ∧ σ[b0]? = some x0 ∧ x0.isRW = true ∧ pl0.blk = pl.blk
  ro : ∀ (b : Nat) (x : Blk), σ[b]? = some x → x.isRO = true → σ'[b]? = some x
  rob : ∀ (b : Nat) (x : Blk), σ'[b]? = some x → x.isRO = true → σ[b]? = some x
  lprov : ∀ t k, lm' t = some k → (l'.getD t .none).isRO = false → w.heap.size ≤ k ∨ ∃ t0, lm t0 = some k ∧ (l.getD t0 .none).isRO = false

theorem Step.refl (ρ : Mp) (lm : Lp) (l : Locs) (σ : Heap) (w : World) : Step ρ lm l σ w ρ lm l σ w :=
  ⟨rfl, rfl, rfl, Nat.le_refl _, Nat.le_refl _, fun _ _ h => h, fun _ h h' => absurd h h', fun _ _ _ _ => rfl,
    fun b pl x h hx hr => .inr ⟨b, pl, x, h, hx, hr, rfl⟩, fun _ _ h _ => h, fun _ _ h _ => h, fun t _ h h2 => .inr ⟨t, h, h2⟩⟩

theorem Step.trans {ρ ρ' ρ'' : Mp} {lm lm' lm'' : Lp} {l l' l'' : Locs} {σ σ' σ'' : Heap} {w w' w'' : World} (h : Step ρ lm l σ w ρ' lm' l' σ' w') (k : Step ρ' lm' l' σ' w' ρ'' lm'' l'' σ'' w'') : Step ρ lm l σ w ρ'' lm'' l'' σ'' w'' where
  os := k.os.trans h.os
  tape := k.tape.trans h.tape
  output := k.output.trans h.output
  size := Nat.le_trans h.size k.size
  len := Nat.le_trans h.len k.len
  ext := fun b pl hb => k.ext b pl (h.ext b pl hb)
  new := fun b h0 h2 => by
    cases h1 : ρ' b with
    | none => exact Nat.le_trans h.len (k.new b h1 h2)
    | some pl => exact h.new b h0 (by rw [h1]; simp)
  unch := fun i hi h1 h2 => by
    rw [k.unch i (Nat.lt_of_lt_of_le hi h.size) (fun b pl x hb hx hr he => ?_) (fun t ht => ?_), h.unch i hi h1 h2]
    · rcases h.prov b pl x hb hx hr with hp | ⟨b0, pl0, x0, g1, g2, g3, g4⟩
      · omega
      · exact h1 b0 pl0 x0 g1 g2 g3 (g4.trans he)
    · cases hro : (l'.getD t .none).isRO with
      | true => rfl
      | false =>
        rcases h.lprov t i ht hro with hp | ⟨t0, ht0, hr0⟩
        · omega
        · rw [h2 t0 ht0] at hr0; cases hr0
  prov := fun b pl x hb hx hr => by
    rcases k.prov b pl x hb hx hr with hp | ⟨b0, pl0, x0, g1, g2, g3, g4⟩
    · exact .inl (Nat.le_trans h.size hp)
    · rcases h.prov b0 pl0 x0 g1 g2 g3 with hp | ⟨b1, pl1, x1, q1, q2, q3, q4⟩
      · exact .inl (g4 ▸ hp)
      · exact .inr ⟨b1, pl1, x1, q1, q2, q3, q4.trans g4⟩
  ro := fun b x hb hr => k.ro b x (h.ro b x hb hr) hr
  rob := fun b x hb hr => h.rob b x (k.rob b x hb hr) hr
  lprov := fun t i ht hr => by
    rcases k.lprov t i ht hr with hp | ⟨t0, ht0, hr0⟩
    · exact .inl (Nat.le_trans h.size hp)
    · exact h.lprov t0 i ht0 hr0

theorem BRel.mono {ρ ρ' : Mp} {pl : Pl} {w w' : World} {x : Blk} (hr : ∀ b pl, ρ b = some pl → ρ' b = some pl) (hw : x.live = true → w'.heap[pl.blk]? = w.heap[pl.blk]?) (h : BRel ρ pl w x) : BRel ρ' pl w' x := by
  cases x with
  | row cs m =>
    cases m with
    | dead => trivial
    | ro =>
      obtain ⟨c, ty, fr, h1, h2, h3, h4, h5⟩ := h
      exact ⟨c, ty, fr, (hw rfl).trans h1, h2, h3, fun j x hx => let ⟨v, e, r⟩ := h4 j x hx; ⟨v, e, r.mono hr (fun _ _ h => h)⟩, h5⟩
    | rw =>
      obtain ⟨c, ty, fr, h1, h2, h3, h4, h5⟩ := h
      exact ⟨c, ty, fr, (hw rfl).trans h1, h2, h3, fun j x hx => let ⟨v, e, r⟩ := h4 j x hx; ⟨v, e, r.mono hr (fun _ _ h => h)⟩, h5⟩
  | map es m =>
    cases m with
    | dead => trivial
    | ro | rw =>
    obtain ⟨es', cl, h1, h0, h2, h3⟩ := h
    exact ⟨es', cl, (hw rfl).trans h1, h0, h2, fun j k v hx => let ⟨me, e, r1, r2⟩ := h3 j k v hx; ⟨me, e, r1.mono hr (fun _ _ h => h), r2.mono hr (fun _ _ h => h)⟩⟩
  | tys b t sz => exact h.elim

theorem LOne.mono {ρ ρ' : Mp} {k : Nat} {w w' : World} {x : LBlk} (hr : ∀ b pl, ρ b = some pl → ρ' b = some pl) (hw : w'.heap[k]? = w.heap[k]?) (h : LOne ρ k w x) : LOne ρ' k w' x := by
  cases x with
  | none => exact h
  | cells cs =>
    obtain ⟨c, ty, fr, h1, h2, h3, h4⟩ := h
    exact ⟨c, ty, fr, hw.trans h1, h2, h3.mono hr (fun _ _ h => h), h4⟩
  | iter s p => exact hw.trans h
  | fcells cs =>
    obtain ⟨c, ty, fr, h1, h2, h3, h4⟩ := h
    exact ⟨c, ty, fr, hw.trans h1, h2, h3.mono hr (fun _ _ h => h), h4⟩
  | fiter s p => exact hw.trans h
  | hid => trivial
  | miter b =>
    cases b with
    | none => obtain ⟨a, s, t, h1⟩ := h; exact ⟨a, s, t, hw.trans h1⟩
    | some b => obtain ⟨pl, a, s, t, h1, h2⟩ := h; exact ⟨pl, a, s, t, hr b pl h1, hw.trans h2⟩

/-- A live block's place is a block of the world. -/
theorem BRel.lt {ρ : Mp} {pl : Pl} {w : World} {x : Blk} (h : BRel ρ pl w x) (hl : x.live = true) : pl.blk < w.heap.size := by
  cases x with
  | row cs m =>
    cases m with
    | dead => simp [Blk.live] at hl
    | ro => obtain ⟨c, ty, fr, h1, _⟩ := h; exact (Array.getElem?_eq_some_iff.1 h1).1
    | rw => obtain ⟨c, ty, fr, h1, _⟩ := h; exact (Array.getElem?_eq_some_iff.1 h1).1
  | map es m =>
    cases m with
    | dead => simp [Blk.live] at hl
    | ro | rw => obtain ⟨es', cl, h1, _⟩ := h; exact (Array.getElem?_eq_some_iff.1 h1).1
  | tys b t sz => exact h.elim

def upd {α : Type} (g : Nat → Option α) (b : Nat) (x : α) : Nat → Option α := fun c => if c = b then some x else g c
theorem upd_same {α : Type} (g : Nat → Option α) (b : Nat) (x : α) : upd g b x b = some x := by simp [upd]
theorem upd_ne {α : Type} (g : Nat → Option α) {b c : Nat} (x : α) (h : c ≠ b) : upd g b x c = g c := by simp [upd, h]
theorem upd_ext {α : Type} {g : Nat → Option α} {b : Nat} (x : α) (h : g b = none) : ∀ c y, g c = some y → upd g b x c = some y := by
  intro c y hc
  by_cases e : c = b
  · subst e; rw [h] at hc; cases hc
  · rw [upd_ne _ _ e]; exact hc

theorem HRel.none_of_len {ρ : Mp} {σ : Heap} {w : World} (h : HRel ρ σ w) {b : Nat} (hb : σ.length ≤ b) : ρ b = none := by
  cases e : ρ b with
  | none => rfl
  | some pl =>
    obtain ⟨x, hx, _⟩ := h.blk b pl e
    have := (List.getElem?_eq_some_iff.1 hx).1
    omega

theorem getElem?_snoc {α : Type} (σ : List α) (x : α) (b : Nat) : (σ ++ [x])[b]? = if b = σ.length then some x else σ[b]? := by
  by_cases e : b = σ.length
  · subst e; simp
  · rw [if_neg e]
    rcases Nat.lt_or_ge b σ.length with h | h
    · rw [List.getElem?_append_left h]
    · rw [List.getElem?_eq_none h, List.getElem?_eq_none (by simp; omega)]

/-- A NEW BLOCK. -/
theorem new_block {ρ : Mp} {lm : Lp} {l : Locs} {σ : Heap} {w w' : World} (hH : HRel ρ σ w) (hL : LRel ρ lm l σ w) (o : Obj) (x : Blk) (n : Nat) (ty : TypeId)
    (ho : w'.os = w.os) (ht : w'.tape = w.tape) (hu : w'.output = w.output) (hheap : w'.heap = w.heap.push o)
    (hx : BRel ρ ⟨w.heap.size, 0, n, ty⟩ w' x) (hrw : x.isRO = false) (hnt : x.isTys = false := by rfl) :
    HRel (upd ρ σ.length ⟨w.heap.size, 0, n, ty⟩) (σ ++ [x]) w' ∧ LRel (upd ρ σ.length ⟨w.heap.size, 0, n, ty⟩) lm l (σ ++ [x]) w' ∧
      Step ρ lm l σ w (upd ρ σ.length ⟨w.heap.size, 0, n, ty⟩) lm l (σ ++ [x]) w' := by
  have hn := hH.none_of_len (Nat.le_refl _)
  have hext := upd_ext (⟨w.heap.size, 0, n, ty⟩ : Pl) hn
  have hsz : w'.heap.size = w.heap.size + 1 := by rw [hheap]; simp
  have hold : ∀ k, k < w.heap.size → w'.heap[k]? = w.heap[k]? := fun k hk => by
    rw [hheap, Array.getElem?_push, if_neg (by omega)]
  refine ⟨⟨fun b pl hb => ?_, fun b b' pl pl' y y' hb hb' hy hy' hne hl hl' hr => ?_, (hH.tys.mono hext).snoc hnt⟩, ⟨fun t k hk => ?_, hL.inj, fun t k b pl y hk hb hy hl => ?_⟩, ?_⟩
  · by_cases e : b = σ.length
    · subst e
      rw [upd_same] at hb
      injection hb with hb
      subst hb
      exact ⟨x, by simp, BRel.mono hext (fun _ => rfl) hx⟩
    · rw [upd_ne _ _ e] at hb
      obtain ⟨y, hy, hB⟩ := hH.blk b pl hb
      refine ⟨y, by rw [getElem?_snoc, if_neg e]; exact hy, BRel.mono hext (fun hl => hold _ (hB.lt hl)) hB⟩
  · rw [getElem?_snoc] at hy hy'
    by_cases e : b = σ.length
    · subst e
      rw [upd_same] at hb
      injection hb with hb
      subst hb
      rw [upd_ne _ _ (Ne.symm hne)] at hb'
      rw [if_neg (Ne.symm hne)] at hy'
      obtain ⟨z, hz, hB⟩ := hH.blk b' pl' hb'
      rw [hz] at hy'
      injection hy' with hy'
      subst hy'
      have := hB.lt hl'
      simp; omega
    · rw [upd_ne _ _ e] at hb
      rw [if_neg e] at hy
      by_cases e' : b' = σ.length
      · subst e'
        rw [upd_same] at hb'
        injection hb' with hb'
        subst hb'
        obtain ⟨z, hz, hB⟩ := hH.blk b pl hb
        rw [hz] at hy
        injection hy with hy
        subst hy
        have := hB.lt hl
        simp; omega
      · rw [upd_ne _ _ e'] at hb'
        rw [if_neg e'] at hy'
        exact hH.dis b b' pl pl' y y' hb hb' hy hy' hne hl hl' hr
  · obtain ⟨h1, h2⟩ := hL.loc t k hk
    exact ⟨by omega, h2.mono hext (hold k h1)⟩
  · rw [getElem?_snoc] at hy
    by_cases e : b = σ.length
    · subst e
      rw [upd_same] at hb
      injection hb with hb
      subst hb
      have := (hL.loc t k hk).1
      simp; omega
    · rw [upd_ne _ _ e] at hb
      rw [if_neg e] at hy
      exact hL.apart t k b pl y hk hb hy hl
  · refine ⟨ho, ht, hu, by omega, by simp, hext, fun b h0 h1 => ?_, fun k hk _ _ => hold k hk, fun b pl y hb hy hr => ?_, fun b y hb hr => ?_, fun b y hb hr => ?_, fun t k hk h2 => .inr ⟨t, hk, h2⟩⟩
    · by_cases e : b = σ.length
      · omega
      · rw [upd_ne _ _ e] at h1; exact absurd h0 h1
    · rw [getElem?_snoc] at hy
      by_cases e : b = σ.length
      · subst e
        rw [upd_same] at hb
        injection hb with hb
        subst hb
        exact .inl (Nat.le_refl _)
      · rw [upd_ne _ _ e] at hb
        rw [if_neg e] at hy
        exact .inr ⟨b, pl, y, hb, hy, hr, rfl⟩
    · rw [getElem?_snoc, if_neg (by have := (List.getElem?_eq_some_iff.1 hb).1; omega)]; exact hb
    · rw [getElem?_snoc] at hb
      by_cases e : b = σ.length
      · rw [if_pos e] at hb
        injection hb with hb
        subst hb
        rw [hrw] at hr
        cases hr
      · rwa [if_neg e] at hb

/-- IT IS TOLD how the world lays out a block. -/
theorem new_ghost {ρ : Mp} {lm : Lp} {l : Locs} {σ : Heap} {w : World} (hH : HRel ρ σ w) (hL : LRel ρ lm l σ w) {b : Nat} {q : Pl} {t : TypeId} {sz : Nat} (hb : ρ b = some q) (ht : q.ty = t) (h0 : q.off = 0) (hs : sz = 0 ∨ q.size = sz) :
    HRel ρ (σ ++ [.tys b t sz]) w ∧ LRel ρ lm l (σ ++ [.tys b t sz]) w ∧ Step ρ lm l σ w ρ lm l (σ ++ [.tys b t sz]) w := by
  have hlt : b < σ.length := by
    obtain ⟨x, hx, _⟩ := hH.blk b q hb
    exact (List.getElem?_eq_some_iff.1 hx).1
  have old : ∀ c pl, ρ c = some pl → (σ ++ [.tys b t sz])[c]? = σ[c]? := fun c pl hc => by
    obtain ⟨x, hx, _⟩ := hH.blk c pl hc
    rw [List.getElem?_append_left (List.getElem?_eq_some_iff.1 hx).1]
  refine ⟨⟨fun c pl hc => ?_, fun c c' pl pl' x x' hc hc' hx hx' => ?_, hH.tys.told hlt hb ht h0 hs⟩, ⟨hL.loc, hL.inj, fun s k c pl x hk hc hx => ?_⟩, ⟨rfl, rfl, rfl, Nat.le_refl _, by simp, fun _ _ h => h, fun _ h h' => absurd h h', fun _ _ _ _ => rfl, fun c pl x hc hx hr => ?_, fun c x hx hr => ?_, fun c x hx hr => ?_, fun s k h h2 => .inr ⟨s, h, h2⟩⟩⟩
  · rw [old c pl hc]; exact hH.blk c pl hc
  · rw [old c pl hc] at hx
    rw [old c' pl' hc'] at hx'
    exact hH.dis c c' pl pl' x x' hc hc' hx hx'
  · rw [old c pl hc] at hx
    exact hL.apart s k c pl x hk hc hx
  · rw [old c pl hc] at hx
    exact .inr ⟨c, pl, x, hc, hx, hr, rfl⟩
  · rw [List.getElem?_append_left (List.getElem?_eq_some_iff.1 hx).1]; exact hx
  · rw [getElem?_snoc] at hx
    split at hx
    · injection hx with hx; subst hx; cases hr
    · exact hx

/-- A NEW PLACE OF THE FRAME'S OWN. -/
theorem new_local {ρ : Mp} {lm : Lp} {l : Locs} {σ : Heap} {w w' : World} (hH : HRel ρ σ w) (hL : LRel ρ lm l σ w) (o : Obj) (x : LBlk) (d : Nat)
    (hd : lm d = none) (hdl : d < l.length)
    (ho : w'.os = w.os) (ht : w'.tape = w.tape) (hu : w'.output = w.output) (hheap : w'.heap = w.heap.push o)
    (hx : LOne ρ w.heap.size w' x) :
    HRel ρ σ w' ∧ LRel ρ (upd lm d w.heap.size) (l.set d x) σ w' ∧ Step ρ lm l σ w ρ (upd lm d w.heap.size) (l.set d x) σ w' := by
  have hext := upd_ext w.heap.size hd
  have hsz : w'.heap.size = w.heap.size + 1 := by rw [hheap]; simp
  have hold : ∀ k, k < w.heap.size → w'.heap[k]? = w.heap[k]? := fun k hk => by
    rw [hheap, Array.getElem?_push, if_neg (by omega)]
  refine ⟨⟨fun b pl hb => ?_, hH.dis, hH.tys⟩, ⟨fun t k hk => ?_, fun t t' k hk hk' => ?_, fun t k b pl y hk hb hy hl => ?_⟩, ?_⟩
  · obtain ⟨y, hy, hB⟩ := hH.blk b pl hb
    exact ⟨y, hy, hB.mono (fun _ _ h => h) (fun hl => hold _ (hB.lt hl))⟩
  · by_cases e : t = d
    · subst e
      rw [upd_same] at hk
      injection hk with hk
      subst hk
      exact ⟨by omega, by simpa [List.getD, hdl] using hx⟩
    · rw [upd_ne _ _ e] at hk
      obtain ⟨h1, h2⟩ := hL.loc t k hk
      refine ⟨by omega, ?_⟩
      have : (l.set d x).getD t .none = l.getD t .none := by simp [List.getD, List.getElem?_set_ne (Ne.symm e)]
      rw [this]
      exact h2.mono (fun _ _ h => h) (hold k h1)
  · by_cases e : t = d
    · subst e
      rw [upd_same] at hk
      injection hk with hk
      by_cases e' : t' = t
      · exact e'.symm
      · rw [upd_ne _ _ e'] at hk'
        have := (hL.loc t' k hk').1
        omega
    · rw [upd_ne _ _ e] at hk
      by_cases e' : t' = d
      · subst e'
        rw [upd_same] at hk'
        injection hk' with hk'
        have := (hL.loc t k hk).1
        omega
      · rw [upd_ne _ _ e'] at hk'
        exact hL.inj t t' k hk hk'
  · by_cases e : t = d
    · subst e
      rw [upd_same] at hk
      injection hk with hk
      subst hk
      obtain ⟨z, hz, hB⟩ := hH.blk b pl hb
      rw [hz] at hy
      injection hy with hy
      subst hy
      have := hB.lt hl
      omega
    · rw [upd_ne _ _ e] at hk
      exact hL.apart t k b pl y hk hb hy hl
  · refine ⟨ho, ht, hu, by omega, Nat.le_refl _, fun _ _ h => h, fun _ h h' => absurd h h', fun k hk _ _ => hold k hk, fun b pl y hb hy hr => .inr ⟨b, pl, y, hb, hy, hr, rfl⟩, fun _ _ h _ => h, fun _ _ h _ => h, fun t k hk hr => ?_⟩
    by_cases e : t = d
    · subst e
      rw [upd_same] at hk
      injection hk with hk
      exact .inl (by omega)
    · rw [upd_ne _ _ e] at hk
      have : (l.set d x).getD t .none = l.getD t .none := by simp [List.getD, List.getElem?_set_ne (Ne.symm e)]
      rw [this] at hr
      exact .inr ⟨t, hk, hr⟩

/-- A BLOCK THAT MAY BE WRITTEN is another one now (its place in the world has turned, no other). -/
theorem turn_block {ρ : Mp} {lm : Lp} {l : Locs} {σ : Heap} {w w' : World} (hH : HRel ρ σ w) (hL : LRel ρ lm l σ w) (b : Nat) (pl : Pl) (x x' : Blk)
    (hb : ρ b = some pl) (hx : σ[b]? = some x) (hrw : x.isRW = true) (hx' : BRel ρ pl w' x') (hm : x'.isRW = true ∨ x'.live = false)
    (ho : w'.os = w.os) (ht : w'.tape = w.tape) (hu : w'.output = w.output) (hsz : w'.heap.size = w.heap.size) (hold : ∀ k, k ≠ pl.blk → w'.heap[k]? = w.heap[k]?) (hnt : x'.isTys = false := by rfl) :
    HRel ρ (σ.set b x') w' ∧ LRel ρ lm l (σ.set b x') w' ∧ Step ρ lm l σ w ρ lm l (σ.set b x') w' := by
  have hlt := (List.getElem?_eq_some_iff.1 hx).1
  have hlive := Blk.live_of_isRW hrw
  have hro : x'.isRO = false := by
    cases x' with
    | row cs m => cases m <;> simp_all [Blk.isRW, Blk.isRO, Blk.live]
    | map es m => cases m <;> simp_all [Blk.isRW, Blk.isRO, Blk.live]
    | tys b t sz => simp_all [Blk.isRW, Blk.isRO, Blk.live]
  have hlv : x'.live = true → x'.isRW = true := fun h => hm.resolve_right (by simp [h])
  have hget : ∀ c, (σ.set b x')[c]? = if c = b then some x' else σ[c]? := fun c => by
    by_cases e : c = b
    · subst e; simp [hlt]
    · rw [List.getElem?_set_ne (Ne.symm e), if_neg e]
  refine ⟨⟨fun c pc hc => ?_, fun c c' pc pc' y y' hc hc' hy hy' hne hl hl' hr => ?_, hH.tys.set hnt b⟩, ⟨fun t k hk => ?_, hL.inj, fun t k c pc y hk hc hy hl => ?_⟩, ?_⟩
  · by_cases e : c = b
    · subst e
      rw [hb] at hc
      injection hc with hc
      subst hc
      exact ⟨x', by rw [hget, if_pos rfl], hx'⟩
    · obtain ⟨y, hy, hB⟩ := hH.blk c pc hc
      refine ⟨y, by rw [hget, if_neg e]; exact hy, hB.mono (fun _ _ h => h) (fun hl => hold _ ?_)⟩
      exact fun he => hH.dis b c pl pc x y hb hc hx hy (Ne.symm e) hlive hl hrw he.symm
  · rw [hget] at hy hy'
    by_cases e : c = b
    · subst e
      rw [if_neg (Ne.symm hne)] at hy'
      rw [hb] at hc
      injection hc with hc
      subst hc
      exact hH.dis c c' pl pc' x y' hb hc' hx hy' hne hlive hl' hrw
    · rw [if_neg e] at hy
      by_cases e' : c' = b
      · subst e'
        rw [hb] at hc'
        injection hc' with hc'
        subst hc'
        exact hH.dis c c' pc pl y x hc hb hy hx hne hl hlive hr
      · rw [if_neg e'] at hy'
        exact hH.dis c c' pc pc' y y' hc hc' hy hy' hne hl hl' hr
  · obtain ⟨h1, h2⟩ := hL.loc t k hk
    exact ⟨by omega, h2.mono (fun _ _ h => h) (hold k fun he => hL.apart t k b pl x hk hb hx hlive he.symm)⟩
  · rw [hget] at hy
    by_cases e : c = b
    · subst e
      rw [hb] at hc
      injection hc with hc
      subst hc
      exact hL.apart t k c pl x hk hb hx hlive
    · rw [if_neg e] at hy
      exact hL.apart t k c pc y hk hc hy hl
  · refine ⟨ho, ht, hu, by omega, by simp, fun _ _ h => h, fun _ h h' => absurd h h', fun k _ h1 _ => hold k (Ne.symm (h1 b pl x hb hx hrw)), fun c pc y hc hy hr => ?_, fun c y hc hr => ?_, fun c y hc hr => ?_, fun t k hk h2 => .inr ⟨t, hk, h2⟩⟩
    · rw [hget] at hy
      by_cases e : c = b
      · subst e
        rw [hb] at hc
        injection hc with hc
        subst hc
        exact .inr ⟨c, pl, x, hb, hx, hrw, rfl⟩
      · rw [if_neg e] at hy
        exact .inr ⟨c, pc, y, hc, hy, hr, rfl⟩
    · by_cases e : c = b
      · subst e
        rw [hx] at hc
        injection hc with hc
        subst hc
        cases x with
        | row cs m => cases m <;> simp_all [Blk.isRW, Blk.isRO]
        | map es m => cases m <;> simp_all [Blk.isRW, Blk.isRO]
        | tys b t sz => simp_all [Blk.isRW, Blk.isRO]
      · rw [hget, if_neg e]; exact hc
    · rw [hget] at hc
      by_cases e : c = b
      · rw [if_pos e] at hc
        injection hc with hc
        subst hc
        rw [hro] at hr
        cases hr
      · rwa [if_neg e] at hc

/-- A place of the frame's own is written. -/
theorem turn_local {ρ : Mp} {lm : Lp} {l : Locs} {σ : Heap} {w w' : World} (hH : HRel ρ σ w) (hL : LRel ρ lm l σ w) (t k : Nat) (x : LBlk)
    (hk : lm t = some k) (htl : t < l.length) (hlo : (l.getD t .none).isRO = false) (hx : LOne ρ k w' x)
    (ho : w'.os = w.os) (ht : w'.tape = w.tape) (hu : w'.output = w.output) (hsz : w'.heap.size = w.heap.size) (hold : ∀ i, i ≠ k → w'.heap[i]? = w.heap[i]?) :
    HRel ρ σ w' ∧ LRel ρ lm (l.set t x) σ w' ∧ Step ρ lm l σ w ρ lm (l.set t x) σ w' := by
  refine ⟨⟨fun b pl hb => ?_, hH.dis, hH.tys⟩, ⟨fun s i hs => ?_, hL.inj, hL.apart⟩, ?_⟩
  · obtain ⟨y, hy, hB⟩ := hH.blk b pl hb
    exact ⟨y, hy, hB.mono (fun _ _ h => h) (fun hl => hold _ (hL.apart t k b pl y hk hb hy hl))⟩
  · obtain ⟨h1, h2⟩ := hL.loc s i hs
    refine ⟨by omega, ?_⟩
    by_cases e : s = t
    · subst e
      rw [hk] at hs
      injection hs with hs
      subst hs
      simpa [List.getD, htl] using hx
    · have : (l.set t x).getD s .none = l.getD s .none := by simp [List.getD, List.getElem?_set_ne (Ne.symm e)]
      rw [this]
      exact h2.mono (fun _ _ h => h) (hold i fun he => e (hL.inj s t i hs (he ▸ hk)))
  · refine ⟨ho, ht, hu, by omega, Nat.le_refl _, fun _ _ h => h, fun _ h h' => absurd h h', fun i _ _ h2 => hold i fun he => (by rw [h2 t (he ▸ hk)] at hlo; cases hlo), fun b pl y hb hy hr => .inr ⟨b, pl, y, hb, hy, hr, rfl⟩, fun _ _ h _ => h, fun _ _ h _ => h, fun s i hs hr => ?_⟩
    by_cases e : s = t
    · subst e; exact .inr ⟨s, hs, hlo⟩
    · have : (l.set t x).getD s .none = l.getD s .none := by simp [List.getD, List.getElem?_set_ne (Ne.symm e)]
      rw [this] at hr
      exact .inr ⟨s, hs, hr⟩

end Go.Abs
namespace Go.Abs
open Go

def Sh.zeroOk : Sh → Value → Bool
  | .int k, .int k' n => decide (k = k') && decide (n = 0)
  | .bool, .bool b => !b
  | .str, .string s => decide (s.size = 0)
  | .ptr, .pointer none => true
  | .slice _, .slice none 0 0 => true
  | .map, .map none => true
  | .func, .nilFunc => true
  | .iface, .nilIface => true
  | .f64, .float .f64 n => decide (n = 0)
  | .c128, .complex .f64 a b => decide (a = 0) && decide (b = 0)
  | _, _ => false
def zerosOk : List Sh → List Value → Bool
  | [], [] => true
  | s :: ss, v :: vs => s.zeroOk v && zerosOk ss vs
  | _, _ => false
def isAggV : Value → Bool | .agg _ => true | _ => false

def fieldsOk (P : Program) : List Field → List (Nat × TypeId) → Bool
  | [], [] => true
  | f :: fs, p :: ps => decide (f.offset = p.1) && decide (f.type = p.2) && (match P.info? f.type with | some i => decide (i.size ≠ 0) | none => false) && fieldsOk P fs ps
  | _, _ => false

def tkOk (P : Program) (T : Tab) (d : TypeDesc) (i : TI) : Bool :=
  match d, i.kind, i.shape with
  | .slice e, .slice e', [.slice z] => decide (e = e') && !i.agg && (match T.ti e with | some ie => decide (ie.size = z) | none => false)
  | .struct fs, .struct fs', _ => i.agg && fieldsOk P fs.toList fs'
  | .array n e, .array n' e', _ => i.agg && decide (n = n') && decide (e = e')
  | .map k e, .map k' e', [.map] => !i.agg && decide (k = k') && decide (e = e')
  | .int k, .scalar, [.int k'] => !i.agg && decide (k = k')
  | .bool, .scalar, [.bool] => !i.agg
  | .string, .scalar, [.str] => !i.agg
  | .pointer _, .scalar, [.ptr] => !i.agg
  | .func _ _ _, .scalar, [.func] => !i.agg
  | .float .f64, .scalar, [.f64] => !i.agg
  | .complex .f64, .scalar, [.c128] => !i.agg
  | .interface _, .scalar, [.iface] => !i.agg
  | _, _, _ => false

def tiOk (P : Program) (T : Tab) (t : TypeId) (i : TI) : Bool :=
  match P.info? t, P.underlying t with
  | some inf, some d => decide (inf.size = i.shape.length) && decide (inf.bytes = i.bytes) &&
      (match inf.zero with | some z => zerosOk i.shape z.cells.toList && (isAggV z == i.agg) | none => false) && tkOk P T d i
  | _, _ => false

mutual
/-- May values of this type be held against each other cell by cell? -/
def eqOk (P : Program) : Nat → TypeId → List Sh → Bool
  | 0, _, _ => false
  | n + 1, t, ss =>
    match P.underlying t, P.info? t, ss with
    | some (.int k), some i, [.int k'] => decide (i.size = 1) && decide (k = k')
    | some .bool, some i, [.bool] => decide (i.size = 1)
    | some .string, some i, [.str] => decide (i.size = 1)
    | some (.struct fs), some i, ss => !P.stoodInHeld t && decide (ss.length = i.size) && eqFs P n fs.toList 0 ss
    | _, _, _ => false
def eqFs (P : Program) : Nat → List Field → Nat → List Sh → Bool
  | _, [], _, ss => ss.isEmpty
  | 0, _ :: _, _, _ => false
  | n + 1, f :: fs, o, ss => (f.name != "_") && decide (f.offset = o) &&
      (match P.info? f.type with | some i => decide (i.size ≤ ss.length) && decide (1 ≤ i.size) && eqOk P n f.type (ss.take i.size) && eqFs P n fs (o + i.size) (ss.drop i.size) | none => false)
end

def hasEdge (o : Oper) (m : Nat) : Bool := o.after.toList.any fun e => Region.binds .any e && e.on == m
def apartDst : Option Nat → Option Nat → Bool
  | some d, some d' => d != d'
  | _, _ => true
/-- The operations that come before this one, as bits; 'ancs': those of the ones before it, the last one first. -/
def maskOf (i : Nat) (ancs : List Nat) : List Edge → Nat → Nat
  | [], acc => acc
  | e :: es, acc => match Region.binds .any e with
    | true => maskOf i ancs es (acc ||| (1 <<< e.on) ||| ancs.getD (i - 1 - e.on) 0)
    | false => maskOf i ancs es acc
/-- Whichever order the tape draws: the marked operations can change places, all others stand. -/
def goodGo (ops : Array Oper) (h : Nat) : Nat → Option Nat → List (Nat × Oper) → List Nat → List Bool → List Oper → Bool
  | _, _, _, _, _, [] => true
  | i, bar, seg, ancs, qs, o :: os =>
    (o.after.toList.all fun e => !Region.binds .any e || decide (e.on < i)) &&
    (match bar with | some b => (maskOf i ancs o.after.toList 0).testBit b | none => true) &&
    match qs.headD false with
    | true => (seg.all fun p => ((maskOf i ancs o.after.toList 0).testBit p.1 || p.2.apart ops o) && apartDst p.2.dst o.dst) && goodGo ops h (i + 1) bar ((i, o) :: seg) (maskOf i ancs o.after.toList 0 :: ancs) qs.tail os
    | false => ((List.range i).all fun m => decide (m < h) || (maskOf i ancs o.after.toList 0).testBit m) && goodGo ops h (i + 1) (some i) [] (maskOf i ancs o.after.toList 0 :: ancs) qs.tail os
/-- Values that are kept at the beginning: nothing is lost if they are first. -/
def isLead (q hf : Bool) (o : Oper) : Bool := !q && o.guard.isNone && match o.op with | .move _ => true | _ => hf
def leadN : List Bool → List Bool → List Oper → Nat
  | qs, hs, o :: os => match isLead (qs.headD false) (hs.headD false) o with | true => leadN qs.tail hs.tail os + 1 | false => 0
  | _, _, [] => 0
def leadOk (ops : Array Oper) : Nat → Nat → List Oper → Bool
  | 0, _, _ => true
  | h + 1, i, o :: os => (o.after.toList.all fun e => !Region.binds .any e || decide (e.on < i)) && (os.all fun o' => hasEdge o' i || o.apart ops o') && leadOk ops h (i + 1) os
  | _ + 1, _, [] => true
def goodReg (ops : Array Oper) (qs hs : List Bool) : Bool :=
  Region.noSelect ops && leadOk ops (leadN qs hs ops.toList) 0 ops.toList &&
    goodGo ops (leadN qs hs ops.toList) (leadN qs hs ops.toList) none [] (List.replicate (leadN qs hs ops.toList) 0) (qs.drop (leadN qs hs ops.toList)) (ops.toList.drop (leadN qs hs ops.toList))
/-- The masks of what comes before each operation, the last one first. -/
def ancsOf : Nat → List Nat → List Oper → List Nat
  | _, ancs, [] => ancs
  | i, ancs, o :: os => ancsOf (i + 1) (maskOf i ancs o.after.toList 0 :: ancs) os
/-- A new slice. -/
def isBuild : Op → Bool
  | .buildSlice _ _ _ => true
  | _ => false
/-- An operation that makes memory, and leaves what the frame has of its own: a call, or a new slice that is not the frame's own. -/
def isMaker (T : Tab) (f : FuncId) (o : Oper) : Bool := isCallF o.op || isBuild o.op && match o.dst with
  | some d => !T.loc f d
  | none => false
def stillTo (st : Op → Bool) (mk : Oper → Bool) : List Bool → List Bool → List Oper → Bool
  | qs, hs, o :: os => match qs.headD false with
    | true => (match hs.headD false with | true => o.guard.isNone | false => st o.op || mk o) && stillTo st mk qs.tail hs.tail os
    | false => true
  | _, _, [] => true
/-- A half bar: all others ahead of it in the text come before it, behind it nothing is made till the next bar, but by other half bars, or by makers behind the only one. -/
def halfGo (st : Op → Bool) (mk : Oper → Bool) (h n : Nat) (ancs : List Nat) : Nat → List Bool → List Bool → List Oper → Bool
  | _, _, _, [] => true
  | i, qs, hs, _ :: os =>
    (match hs.headD false with
     | true => decide (i < h) || qs.headD false && ((List.range i).all fun m => decide (m < h) || (ancs.getD (n - 1 - i) 0).testBit m) && stillTo st mk qs.tail hs.tail os
     | false => true) && halfGo st mk h n ancs (i + 1) qs.tail hs.tail os
/-- There is one half bar, and it is a call. -/
def oneHalf (h : Nat) (ops : Array Oper) (hs : List Bool) : Bool :=
  (List.range hs.length).all fun i => decide (i < h) || !hs.getD i false || (match ops[i]? with | some o => isCallF o.op | none => false) && (List.range hs.length).all fun j => decide (j < h) || !hs.getD j false || decide (j = i)
def halfReg (st : Op → Bool) (mk : Oper → Bool) (ops : Array Oper) (qs hs : List Bool) : Bool :=
  match hs with
  | [] => true
  | hs => decide (hs.length ≤ ops.size) && (ops.toList.zipIdx.all fun p => p.1.after.toList.all fun e => !Region.binds .any e || decide (e.on < p.2)) && halfGo st (fun o => mk o && oneHalf (leadN qs hs ops.toList) ops hs) (leadN qs hs ops.toList) ops.size (ancsOf 0 [] ops.toList) 0 qs hs ops.toList
/-- Is this another order of n places? -/
def permOk (π : List Nat) (ops : Array Oper) : Bool :=
  match π with
  | [] => true
  | π => decide (π.length = ops.size) &&
    ((List.range ops.size).all fun i => decide (π.idxOf i < ops.size) && decide (π[π.idxOf i]? = some i) && (match π[i]? with | some j => decide (j < ops.size) && decide (π.idxOf j = i) | none => false)) &&
    (ops.toList.all fun o => (o.after.toList.all fun e => decide (e.on < ops.size)) && (match o.guard with | some (g, _) => decide (g < ops.size) | none => true))
def goodCode (T : Tab) (f : FuncId) : Code → Bool
  | .region id ops draw => match draw with
    | true => goodReg (permOps (T.perm f id) ops) (T.quiet f id) (T.half f id) && halfReg (still T) (isMaker T f) (permOps (T.perm f id) ops) (T.quiet f id) (T.half f id) && permOk (T.perm f id) ops
    | false => true
  | .seq a b => goodCode T f a && goodCode T f b
  | .cond _ a b => goodCode T f a && goodCode T f b
  | .block _ c => goodCode T f c
  | .loop c => goodCode T f c
  | _ => true

structure TabOK (P : Program) (T : Tab) : Prop where
  ti : ∀ t i, T.ti t = some i → tiOk P T t i = true
  fn : ∀ f fn, T.fn f = some fn → P.funcs[f]? = some fn ∧ (fn.name == "runtime.NumGoroutine") = false
  eq : ∀ t i, T.eq t = true → T.ti t = some i → eqOk P 40 t i.shape = true ∧ P.eqGuardType P.depth t = false
  mixed : P.follows .mixedOrders = true
  good : ∀ f fn c, T.fn f = some fn → fn.body = some c → goodCode T f c = true
  byt : ∀ pt e, T.byt pt = some e → P.underlying pt = some (.pointer e) ∧ P.cellsOf e = 1
  conc : ∀ t, T.conc t = true → ∃ d, P.underlying t = some d ∧ (match d with | .interface _ => false | _ => true) = true
  meth : ∀ t nm g, T.meth t nm = some g → ∀ (v : Value) (w : World), (Go.method (P.types.size + Made.depth) t v nm).run P w = Result.ok (g, v) w

theorem ba_empty {s : ByteArray} (h : s.size = 0) : s = ⟨#[]⟩ := by
  cases s with
  | mk d =>
    congr
    exact Array.eq_empty_of_size_eq_zero h

theorem Sh.zeroOk_rel {s : Sh} {v : Value} (h : s.zeroOk v = true) (ρ : Mp) (lm : Lp) : VRel ρ lm s.zero v := by
  unfold Sh.zeroOk at h
  split at h
  · simp only [Bool.and_eq_true, decide_eq_true_eq] at h
    simp only [Sh.zero, VRel]
    rw [h.1, h.2]
  · simp only [Sh.zero, VRel]
    simpa using h
  · simp only [Sh.zero, VRel]
    rw [ba_empty (of_decide_eq_true h)]
  · simp only [Sh.zero, VRel]
  · simp only [Sh.zero, VRel]
    exact ⟨trivial, trivial, trivial⟩
  · simp only [Sh.zero, VRel]
  · simp only [Sh.zero, VRel]
  · simp only [Sh.zero, VRel]
  · simp only [Sh.zero, VRel]
    rw [of_decide_eq_true h]
  · simp only [Sh.zero, VRel]
    simp only [Bool.and_eq_true, decide_eq_true_eq] at h
    rw [h.1, h.2]
  · cases h

theorem zerosOk_rel : ∀ {ss : List Sh} {vs : List Value}, zerosOk ss vs = true → ∀ (ρ : Mp) (lm : Lp), VRels ρ lm (ss.map Sh.zero) vs
  | [], [], _, _, _ => by simp [VRels]
  | [], _ :: _, h, _, _ => by simp [zerosOk] at h
  | _ :: _, [], h, _, _ => by simp [zerosOk] at h
  | s :: ss, v :: vs, h, ρ, lm => by
    simp only [zerosOk, Bool.and_eq_true] at h
    simp only [List.map_cons, VRels]
    exact ⟨v, vs, rfl, Sh.zeroOk_rel h.1 ρ lm, zerosOk_rel h.2 ρ lm⟩

theorem Sh.zeroOk_one {s : Sh} {v : Value} (h : s.zeroOk v = true) : v.oneCell' = true := by
  unfold Sh.zeroOk at h
  split at h <;> first | rfl | (cases h)
theorem zerosOk_ones : ∀ {ss : List Sh} {vs : List Value}, zerosOk ss vs = true → ∀ v ∈ vs, v.oneCell' = true
  | [], [], _, v, hv => by cases hv
  | [], _ :: _, h, _, _ => by simp [zerosOk] at h
  | _ :: _, [], h, _, _ => by simp [zerosOk] at h
  | s :: ss, u :: us, h, v, hv => by
    simp only [zerosOk, Bool.and_eq_true] at h
    rcases List.mem_cons.1 hv with rfl | hv
    · exact Sh.zeroOk_one h.1
    · exact zerosOk_ones h.2 v hv

/-- What is known of a type of the table. -/
structure TIs (P : Program) (T : Tab) (t : TypeId) (i : TI) (inf : TypeInfo) (d : TypeDesc) (z : Value) : Prop where
  info : P.info? t = some inf
  und : P.underlying t = some d
  size : inf.size = i.size
  bytes : inf.bytes = i.bytes
  zero : inf.zero = some z
  rel : ∀ (ρ : Mp) (lm : Lp), VRels ρ lm i.zeros z.cells.toList
  zagg : isAggV z = i.agg
  ones : Ones z.cells
  kind : tkOk P T d i = true

theorem TabOK.tis {P : Program} {T : Tab} (ok : TabOK P T) {t : TypeId} {i : TI} (h : T.ti t = some i) : ∃ inf d z, TIs P T t i inf d z := by
  have h := ok.ti t i h
  unfold tiOk at h
  split at h
  · rename_i inf d h1 h2
    simp only [Bool.and_eq_true, decide_eq_true_eq] at h
    obtain ⟨⟨⟨a1, a2⟩, a3⟩, a4⟩ := h
    split at a3
    · rename_i z hz
      simp only [Bool.and_eq_true, beq_iff_eq] at a3
      exact ⟨inf, d, z, h1, h2, a1, a2, hz, zerosOk_rel a3.1, a3.2, zerosOk_ones a3.1, a4⟩
    · cases a3
  · cases h

section
variable {P : Program} {T : Tab} {t : TypeId} {i : TI} {inf : TypeInfo} {d : TypeDesc} {z : Value}
theorem TIs.run_typeInfo (h : TIs P T t i inf d z) (w : World) : (typeInfo t).run P w = .ok inf w := by simp [typeInfo, h.info]
theorem TIs.run_underlying (h : TIs P T t i inf d z) (w : World) : (underlying t).run P w = .ok d w := Go.run_underlying h.und w
theorem TIs.run_sizeOf (h : TIs P T t i inf d z) (w : World) : (sizeOf t).run P w = .ok i.size w := by simp [sizeOf, h.run_typeInfo, h.size]
theorem TIs.run_zeroValue (h : TIs P T t i inf d z) (w : World) : (zeroValue t).run P w = .ok z w := by simp [zeroValue, h.run_typeInfo, h.zero]
theorem TIs.run_isAgg (h : TIs P T t i inf d z) (w : World) : (isAgg t).run P w = .ok i.agg w := by
  have hk := h.kind
  unfold tkOk at hk
  unfold isAgg
  simp only [Sem.run_bind, h.run_underlying, Result.andThen_ok]
  split at hk <;> simp_all
theorem TIs.slice (h : TIs P T t i inf d z) {e : TypeId} (hk : i.kind = .slice e) : d = .slice e ∧ i.agg = false ∧ ∃ ie, T.ti e = some ie ∧ i.shape = [.slice ie.size] := by
  have h' := h.kind
  unfold tkOk at h'
  rw [hk] at h'
  split at h' <;> rename_i hs he <;> try (first | (cases h'; done) | (cases he; done) | (cases hs; done))
  rename_i e1 e2 z1
  simp only [Bool.and_eq_true, Bool.not_eq_true', decide_eq_true_eq] at h'
  obtain ⟨⟨e3, e4⟩, e5⟩ := h'
  injection hs with hs
  subst e3; subst hs
  split at e5
  · rename_i ie hie
    simp only [decide_eq_true_eq] at e5
    exact ⟨rfl, e4, ie, hie, by rw [he, e5]⟩
  · cases e5
theorem TIs.arr (h : TIs P T t i inf d z) {n : Nat} {e : TypeId} (hk : i.kind = .array n e) : d = .array n e ∧ i.agg = true := by
  have h' := h.kind
  unfold tkOk at h'
  rw [hk] at h'
  split at h' <;> simp_all
theorem TIs.struct (h : TIs P T t i inf d z) {fs : List (Nat × TypeId)} (hk : i.kind = .struct fs) : ∃ fs', d = .struct fs' ∧ i.agg = true ∧ fieldsOk P fs'.toList fs = true := by
  have h' := h.kind
  unfold tkOk at h'
  rw [hk] at h'
  split at h' <;> simp_all
theorem TIs.int (h : TIs P T t i inf d z) {k : IntKind} (hk : i.shape = [.int k]) (ha : i.agg = false) : d = .int k := by
  have h' := h.kind
  unfold tkOk at h'
  rw [hk] at h'
  split at h' <;> simp_all
theorem TIs.bool (h : TIs P T t i inf d z) (hk : i.shape = [.bool]) (ha : i.agg = false) : d = .bool := by
  have h' := h.kind
  unfold tkOk at h'
  rw [hk] at h'
  split at h' <;> simp_all
theorem TIs.ptr (h : TIs P T t i inf d z) (hk : i.shape = [.ptr]) (ha : i.agg = false) : ∃ e, d = .pointer e := by
  have h' := h.kind
  unfold tkOk at h'
  rw [hk] at h'
  split at h' <;> simp_all
theorem TIs.iface (h : TIs P T t i inf d z) (hk : i.shape = [.iface]) (ha : i.agg = false) : ∃ ms, d = .interface ms := by
  have h' := h.kind
  unfold tkOk at h'
  rw [hk] at h'
  split at h' <;> simp_all
theorem TIs.aggStruct (h : TIs P T t i inf d z) (hq : eqOk P 40 t i.shape = true) (ha : i.agg = true) : ∃ fs, d = .struct fs := by
  unfold eqOk at hq
  split at hq
  · rename_i h1 h2 h3
    have h' := h.kind
    rw [h.und] at h1; injection h1 with h1; subst h1
    unfold tkOk at h'
    split at h' <;> simp_all
  · rename_i h1 h2 h3
    have h' := h.kind
    rw [h.und] at h1; injection h1 with h1; subst h1
    unfold tkOk at h'
    split at h' <;> simp_all
  · rename_i h1 h2 h3
    have h' := h.kind
    rw [h.und] at h1; injection h1 with h1; subst h1
    unfold tkOk at h'
    split at h' <;> simp_all
  · rename_i fs _ h1 h2
    rw [h.und] at h1; injection h1 with h1
    exact ⟨fs, h1⟩
  · cases hq
theorem TIs.str (h : TIs P T t i inf d z) (hk : i.shape = [.str]) (ha : i.agg = false) : d = .string := by
  have h' := h.kind
  unfold tkOk at h'
  rw [hk] at h'
  split at h' <;> simp_all
theorem TIs.f64 (h : TIs P T t i inf d z) (hk : i.shape = [.f64]) (ha : i.agg = false) : d = .float .f64 := by
  have h' := h.kind
  unfold tkOk at h'
  rw [hk] at h'
  split at h' <;> simp_all
end

theorem exists_list {α : Type} (p : Nat → α → Prop) : ∀ (n : Nat), (∀ m, m < n → ∃ v, p m v) → ∃ l : List α, l.length = n ∧ ∀ m v, l[m]? = some v → p m v
  | 0, _ => ⟨[], rfl, fun m v h => by simp at h⟩
  | n + 1, h => by
    obtain ⟨l, hl, hp⟩ := exists_list p n fun m hm => h m (by omega)
    obtain ⟨v, hv⟩ := h n (by omega)
    refine ⟨l ++ [v], by simp [hl], fun m u hm => ?_⟩
    rw [getElem?_snoc] at hm
    by_cases e : m = l.length
    · rw [if_pos e] at hm
      injection hm with hm
      subst hm
      rw [e, hl]; exact hv
    · rw [if_neg e] at hm
      exact hp m u hm

/-! ### Values told by their kinds -/
def Refines (x y : AVal) : Prop := ∀ (ρ : Mp) (lm : Lp) (v : Value), VRel ρ lm x v → VRel ρ lm y v
theorem Refines.refl (x : AVal) : Refines x x := fun _ _ _ h => h

variable {R : Type}
theorem fetch_some {s : Sh} {x : Option AVal} {k : AVal → Option R} {r : R} (h : s.fetch x k = some r) : ∃ y z, x = some y ∧ Refines y z ∧ k z = some r := by
  cases s <;> simp only [Sh.fetch] at h <;> obtain ⟨q, hq, hk⟩ := Option.bind_eq_some_iff.1 h
  case int k0 =>
    unfold int? at hq
    split at hq
    · rename_i k' n
      split at hq
      · rename_i e
        injection hq with hq
        subst hq; subst e
        exact ⟨_, _, rfl, Refines.refl _, hk⟩
      · cases hq
    · cases hq
  case bool =>
    unfold bool? at hq
    split at hq
    · injection hq with hq; subst hq; exact ⟨_, _, rfl, Refines.refl _, hk⟩
    · cases hq
  case str =>
    unfold str? at hq
    split at hq
    · injection hq with hq; subst hq; exact ⟨_, _, rfl, Refines.refl _, hk⟩
    · cases hq
  case ptr =>
    unfold ptr? at hq
    split at hq
    · injection hq with hq; subst hq; exact ⟨_, _, rfl, Refines.refl _, hk⟩
    · cases hq
  case map =>
    unfold map? at hq
    split at hq
    · injection hq with hq; subst hq; exact ⟨_, _, rfl, Refines.refl _, hk⟩
    · cases hq
  case func =>
    unfold func? at hq
    split at hq
    · injection hq with hq; subst hq; exact ⟨_, _, rfl, Refines.refl _, hk⟩
    · injection hq with hq; subst hq; exact ⟨_, _, rfl, Refines.refl _, hk⟩
    · cases hq
  case iface =>
    unfold iface? at hq
    split at hq
    · injection hq with hq; subst hq; exact ⟨_, _, rfl, Refines.refl _, hk⟩
    · injection hq with hq; subst hq; exact ⟨_, _, rfl, Refines.refl _, hk⟩
    · injection hq with hq; subst hq; exact ⟨_, _, rfl, Refines.refl _, hk⟩
    · cases hq
  case f64 =>
    unfold flt? at hq
    split at hq
    · injection hq with hq; subst hq; exact ⟨_, _, rfl, Refines.refl _, hk⟩
    · cases hq
  case c128 =>
    unfold cpx? at hq
    split at hq
    · injection hq with hq; subst hq; exact ⟨_, _, rfl, Refines.refl _, hk⟩
    · cases hq
  case slice z =>
    unfold slice? at hq
    split at hq
    · split at hq
      · rename_i e
        simp only [decide_eq_true_eq] at e
        injection hq with hq
        subst hq; subst e
        exact ⟨_, _, rfl, Refines.refl _, hk⟩
      · split at hq
        · injection hq with hq
          subst hq
          refine ⟨_, _, rfl, fun ρ lm v hv => ?_, hk⟩
          simpa only [VRel] using hv
        · cases hq
    · cases hq

theorem fetches_some : ∀ {ss : List Sh} {g : Nat → Option AVal} {j : Nat} {k : List AVal → Option R} {r : R}, fetches ss g j k = some r →
    ∃ zs, k zs = some r ∧ zs.length = ss.length ∧ ∀ m z, zs[m]? = some z → ∃ y, g (j + m) = some y ∧ Refines y z
  | [], _, _, _, _, h => ⟨[], h, rfl, fun m z hz => by simp at hz⟩
  | s :: ss, g, j, k, r, h => by
    simp only [fetches] at h
    obtain ⟨y, z, hy, hr, h⟩ := fetch_some h
    obtain ⟨zs, hk, hl, hz⟩ := fetches_some h
    refine ⟨z :: zs, hk, by simp [hl], fun m u hu => ?_⟩
    cases m with
    | zero => simp at hu; subst hu; exact ⟨y, hy, hr⟩
    | succ m =>
      obtain ⟨y', h1, h2⟩ := hz m u (by simpa using hu)
      exact ⟨y', by rw [show j + (m + 1) = j + 1 + m by omega]; exact h1, h2⟩

end Go.Abs
namespace Go.Abs
open Go

theorem add_none (b o n : Nat) : (⟨b, o, none⟩ : Addr).add n = ⟨b, o + n, none⟩ := by
  unfold Addr.add; split <;> simp_all

theorem overwrite_length : ∀ (vs cs : List AVal) (o : Nat), (overwrite cs o vs).length = cs.length
  | [], _, _ => rfl
  | v :: vs, cs, o => by simp [overwrite, overwrite_length vs]
theorem overwrite_get : ∀ (vs cs : List AVal) (o j : Nat), o + vs.length ≤ cs.length → (overwrite cs o vs)[j]? = if o ≤ j ∧ j < o + vs.length then vs[j - o]? else cs[j]?
  | [], cs, o, j, _ => by simp [overwrite]; intro h1 h2; omega
  | v :: vs, cs, o, j, h => by
    simp only [List.length_cons] at h
    rw [overwrite, overwrite_get vs _ _ _ (by simp; omega)]
    by_cases h1 : j = o
    · subst h1
      rw [if_neg (by omega), if_pos (by simp)]
      simp [show j < cs.length by omega]
    · by_cases h2 : o + 1 ≤ j ∧ j < o + 1 + vs.length
      · rw [if_pos h2, if_pos (by simp; omega)]
        rw [show j - o = j - (o + 1) + 1 by omega]
        simp
      · rw [if_neg h2, if_neg (by simp; omega)]
        simp [List.getElem?_set_ne (Ne.symm h1)]

/-- Cells of a block written. -/
structure Wrote (w w' : World) (b o : Nat) (vs : List Value) (c c' : Array Value) (ty : TypeId) (fr : Nat × Nat) : Prop where
  os : w'.os = w.os
  tape : w'.tape = w.tape
  output : w'.output = w.output
  hsize : w'.heap.size = w.heap.size
  heap : w'.heap[b]? = some (.cells c' ty fr)
  size : c'.size = c.size
  at_ : ∀ j, c'[j]? = if o ≤ j ∧ j < o + vs.length then vs[j - o]? else c[j]?
  old : ∀ k, k ≠ b → w'.heap[k]? = w.heap[k]?

theorem Wrote.onesAt {w w' : World} {b o : Nat} {vs : List Value} {c c' : Array Value} {ty : TypeId} {fr : Nat × Nat} (h : Wrote w w' b o vs c c' ty fr) {m m' : Mode} {off n off' n' : Nat} (hc : OnesAt m c off n) (hv : ∀ v ∈ vs, v.oneCell' = true)
    (hw : ∀ j, j < n' → (o ≤ off' + j ∧ off' + j < o + vs.length) ∨ (off ≤ off' + j ∧ off' + j < off + n)) : OnesAt m' c' off' n' := by
  intro j hj v hv'
  rw [h.at_] at hv'
  split at hv'
  · exact hv v (List.mem_of_getElem? hv')
  · rename_i hne
    rcases hw j hj with h1 | h1
    · exact absurd h1 hne
    · exact hc (off' + j - off) (by omega) v (by rw [show off + (off' + j - off) = off' + j by omega]; exact hv')
theorem Wrote.ones {w w' : World} {b o : Nat} {vs : List Value} {c c' : Array Value} {ty : TypeId} {fr : Nat × Nat} (h : Wrote w w' b o vs c c' ty fr) (hc : Ones c) (hv : ∀ v ∈ vs, v.oneCell' = true) : Ones c' := by
  intro v hv'
  obtain ⟨j, hj⟩ := List.mem_iff_getElem?.1 hv'
  rw [Array.getElem?_toList, h.at_] at hj
  split at hj
  · exact hv v (List.mem_of_getElem? hj)
  · exact hc v (List.mem_of_getElem? (by rw [Array.getElem?_toList]; exact hj))

theorem setCells_wrote : ∀ (vs : List Value) (w : World) (b o : Nat) (c : Array Value) (ty : TypeId) (fr : Nat × Nat), w.heap[b]? = some (.cells c ty fr) → o + vs.length ≤ c.size →
    ∃ c', Wrote w (w.setCells b o vs) b o vs c c' ty fr
  | [], w, b, o, c, ty, fr, hb, _ => ⟨c, rfl, rfl, rfl, rfl, hb, rfl, fun j => by simp; intro h1 h2; omega, fun _ _ => rfl⟩
  | v :: vs, w, b, o, c, ty, fr, hb, hl => by
    simp only [List.length_cons] at hl
    have hb1 : (w.setCell ⟨b, o, none⟩ v).heap[b]? = some (.cells (c.setIfInBounds o v) ty fr) := by
      simp [World.setCell, Array.getElem?_modify, hb]
    obtain ⟨c', h⟩ := setCells_wrote vs (w.setCell ⟨b, o, none⟩ v) b (o + 1) (c.setIfInBounds o v) ty fr hb1 (by simp; omega)
    refine ⟨c', h.os, h.tape, h.output, h.hsize.trans (by simp [World.setCell]), h.heap, h.size.trans (by simp), fun j => ?_, fun k hk => ?_⟩
    · rw [h.at_ j]
      by_cases h1 : j = o
      · subst h1
        rw [if_neg (by omega), if_pos (by simp)]
        simp [show j < c.size by omega]
      · by_cases h2 : o + 1 ≤ j ∧ j < o + 1 + vs.length
        · rw [if_pos h2, if_pos (by simp; omega)]
          rw [show j - o = j - (o + 1) + 1 by omega]
          simp
        · rw [if_neg h2, if_neg (by simp; omega)]
          simp [Array.getElem?_setIfInBounds_ne (Ne.symm h1)]
    · rw [World.setCells, h.old k hk]
      simp only [World.setCell, Array.getElem?_modify]
      rw [if_neg (by omega)]

/-- Cells that are there and not frozen can be written. -/
theorem run_store_block {P : Program} (w : World) (b o : Nat) (vs : List Value) (c : Array Value) (ty : TypeId) (fr : Nat × Nat) (hb : w.heap[b]? = some (.cells c ty fr)) (hl : o + vs.length ≤ c.size)
    (hf : Unfrozen fr c.size) (h1 : ∀ v ∈ vs, v.oneCell' = true) : (storeCells ⟨b, o, none⟩ vs).run P w = .ok () (w.setCells b o vs) := by
  have := run_storeCells_cells (P := P) b o vs 0 w (fun j hj => by simp [World.cell?, hb]; omega)
    (fun j hj => by
      have := hf.2 (o + j) (by omega)
      simp [World.frozen?, hb]; omega) h1
  simpa using this

theorem row?_some {σ : Heap} {b : Nat} {cs : List AVal} (h : σ.row? b = some cs) : ∃ m, σ[b]? = some (.row cs m) ∧ m ≠ .dead := by
  unfold Heap.row? at h
  split at h
  · rename_i cs' h'; injection h with h; subst h; exact ⟨.ro, h', by simp⟩
  · rename_i cs' h'; injection h with h; subst h; exact ⟨.rw, h', by simp⟩
  · cases h

section
variable {ρ : Mp} {σ : Heap} {w : World}
theorem row_rel (hH : HRel ρ σ w) {b : Nat} {pl : Pl} (hb : ρ b = some pl) {cs : List AVal} (h : σ.row? b = some cs) :
    ∃ c ty fr, w.heap[pl.blk]? = some (.cells c ty fr) ∧ c.size = pl.size ∧ pl.off + cs.length ≤ c.size ∧ (∀ j x, cs[j]? = some x → ∃ v, c[pl.off + j]? = some v ∧ VRel ρ noL x v) ∧ (∀ j, j < cs.length → ∀ v, c[pl.off + j]? = some v → v.oneCell' = true) := by
  obtain ⟨m, hm, hd⟩ := row?_some h
  obtain ⟨x, hx, hB⟩ := hH.blk b pl hb
  rw [hm] at hx
  injection hx with hx
  subst hx
  cases m with
  | dead => exact absurd rfl hd
  | ro => obtain ⟨c, ty, fr, h1, h2, h3, h4, _, h6⟩ := hB; exact ⟨c, ty, fr, h1, h2, h3, h4, h6.1.win⟩
  | rw => obtain ⟨c, ty, fr, h1, h2, h3, h4, _, h6⟩ := hB; exact ⟨c, ty, fr, h1, h2, h3, h4, h6.1.win⟩
theorem cell_rel (hH : HRel ρ σ w) {b : Nat} {pl : Pl} (hb : ρ b = some pl) {j : Nat} {y : AVal} (h : σ.cell? b j = some y) :
    ∃ v, w.cell? ⟨pl.blk, pl.off + j, none⟩ = some v ∧ VRel ρ noL y v := by
  obtain ⟨cs, h1, h2⟩ := Option.bind_eq_some_iff.1 h
  obtain ⟨c, ty, fr, g1, _, _, g4, _⟩ := row_rel hH hb h1
  obtain ⟨v, e, hr⟩ := g4 j y h2
  exact ⟨v, by simp [World.cell?, g1, e], hr⟩
end

theorem VRel.any {ρ : Mp} {x : AVal} {v : Value} (lm : Lp) (h : VRel ρ noL x v) : VRel ρ lm x v := h.mono (fun _ _ h => h) (fun _ _ h => by cases h)
theorem VRels.any {ρ : Mp} {x : List AVal} {v : List Value} (lm : Lp) (h : VRels ρ noL x v) : VRels ρ lm x v := h.mono (fun _ _ h => h) (fun _ _ h => by cases h)

section
variable {P : Program} {T : Tab} {t : TypeId} {i : TI} {inf : TypeInfo} {d : TypeDesc} {z : Value}
theorem TIs.len1 (h : TIs P T t i inf d z) (ha : i.agg = false) : i.size = 1 := by
  have h' := h.kind
  unfold tkOk at h'
  unfold TI.size
  split at h' <;> simp_all
theorem TIs.run_loadVar (h : TIs P T t i inf d z) (w : World) (a : Addr) (cs : List Value) (hl : cs.length = i.size) (hc : ∀ j v, cs[j]? = some v → w.cell? (a.add j) = some v) :
    (loadVar t a).run P w = .ok (if i.agg then .agg cs.toArray else cs.headD Go.undef) w := by
  unfold loadVar
  simp only [Sem.run_bind, h.run_isAgg, Result.andThen_ok]
  cases ha : i.agg with
  | true =>
    simp only [if_true, Sem.run_bind, h.run_sizeOf, Result.andThen_ok]
    rw [← hl, run_loadCells_list w a cs hc]
    rfl
  | false =>
    have := h.len1 ha
    obtain ⟨v, rfl⟩ : ∃ v, cs = [v] := by
      rw [this] at hl
      match cs, hl with
      | [v], _ => exact ⟨v, rfl⟩
    have hv := hc 0 v rfl
    simp only [Addr.add, if_true] at hv
    simp [run_load, hv]
theorem TIs.val_rel (h : TIs P T t i inf d z) {ρ : Mp} {lm : Lp} {vs : List AVal} {cs : List Value} (hl : vs.length = i.size) (hr : VRels ρ lm vs cs) :
    VRel ρ lm (i.val vs) (if i.agg then .agg cs.toArray else cs.headD Go.undef) := by
  unfold TI.val
  cases ha : i.agg with
  | true => simp only [if_true, VRel]; exact ⟨cs, rfl, hr⟩
  | false =>
    have h1 := h.len1 ha
    rw [h1] at hl
    match vs, hl with
    | [v], _ =>
      obtain ⟨u, us, rfl, hu, _⟩ := by simpa only [VRels] using hr
      simpa using hu
end

/-- What cells hold, told by their kinds. -/
theorem zs_rel {ρ : Mp} {lm : Lp} {zs : List AVal} {g : Nat → Option AVal} {cell : Nat → Option Value} (hg : ∀ m y, g m = some y → ∃ v, cell m = some v ∧ VRel ρ lm y v)
    (hz : ∀ m z, zs[m]? = some z → ∃ y, g (0 + m) = some y ∧ Refines y z) :
    ∃ vs, vs.length = zs.length ∧ VRels ρ lm zs vs ∧ ∀ m v, vs[m]? = some v → cell m = some v := by
  obtain ⟨vs, hvl, hv⟩ := exists_list (fun m v => cell m = some v ∧ ∀ u, zs[m]? = some u → VRel ρ lm u v) zs.length fun m hm => by
    obtain ⟨y, h1, h2⟩ := hz m zs[m] (by simp [hm])
    rw [Nat.zero_add] at h1
    obtain ⟨v, e, hr⟩ := hg m y h1
    refine ⟨v, e, fun u hu => ?_⟩
    simp [hm] at hu
    subst hu
    exact h2 ρ lm v hr
  refine ⟨vs, by omega, VRels.of_get (by omega) fun j x hx => ?_, fun m v hm => (hv m v hm).1⟩
  have hj := (List.getElem?_eq_some_iff.1 hx).1
  refine ⟨vs[j], by simp [hvl, hj], (hv j vs[j] (by simp [hvl, hj])).2 x hx⟩

/-! ### What is to be shown of an operation -/
/-- The program's variables are where they were. -/
def GRel (T : Tab) (ρ : Mp) : Prop := ∀ g, T.glob g = true → ∃ ty, ρ g = some ⟨g, 0, T.gsz g, ty⟩
def LExt (lm lm' : Lp) (l : Locs) (w : World) (dst : Option Nat) : Prop := (∀ t k, lm t = some k → lm' t = some k) ∧ ∀ t k, lm t = none → lm' t = some k → dst = some t ∧ l[t]? = some .none ∧ w.heap.size ≤ k
theorem LExt.refl (lm : Lp) (l : Locs) (w : World) (dst : Option Nat) : LExt lm lm l w dst := ⟨fun _ _ h => h, fun _ _ h h' => by rw [h] at h'; cases h'⟩

def OpSound (P : Program) (T : Tab) (o : Oper) (e : Env) (l : Locs) (σ : Heap) (v : AVal) (l' : Locs) (σ' : Heap) : Prop :=
  ∀ (ρ : Mp) (lm : Lp) (a : Act) (w : World), HRel ρ σ w → LRel ρ lm l σ w → GRel T ρ → (∀ x ∈ o.op.operands.toList, VRel ρ lm (ev T e x) (a.eval x)) →
    ∀ (next : Act → World → Prop) (Q : Exit → Act → World → Prop),
      (∀ cv w' ρ' lm', HRel ρ' σ' w' → LRel ρ' lm' l' σ' w' → VRel ρ' lm' v cv → Step ρ lm l σ w ρ' lm' l' σ' w' → LExt lm lm' l w o.dst → next (a.put o.dst cv) w') → o.wp P a w next Q

section
variable {P : Program} {T : Tab} {o : Oper} {e : Env} {l l' : Locs} {σ σ' : Heap} {v : AVal}

theorem OpSound.of_run
    (h : ∀ (ρ : Mp) (lm : Lp) (a : Act) (w : World), HRel ρ σ w → LRel ρ lm l σ w → (∀ x ∈ o.op.operands.toList, VRel ρ lm (ev T e x) (a.eval x)) →
      ∃ n cv w' ρ' lm', (execOp a.eval o).run P w = .ok n w' ∧ (n = .value cv ∨ n = .skip ∧ cv = Go.undef) ∧ HRel ρ' σ' w' ∧ LRel ρ' lm' l' σ' w' ∧ VRel ρ' lm' v cv ∧ Step ρ lm l σ w ρ' lm' l' σ' w' ∧ LExt lm lm' l w o.dst) :
    OpSound P T o e l σ v l' σ' := by
  intro ρ lm a w hH hL _ ho next Q hn
  obtain ⟨n, cv, w', ρ', lm', hr, hv, h1, h2, h3, h4, h5⟩ := h ρ lm a w hH hL ho
  unfold Oper.wp
  rw [hr]
  rcases hv with rfl | ⟨rfl, rfl⟩
  · exact hn cv w' ρ' lm' h1 h2 h3 h4 h5
  · exact hn _ w' ρ' lm' h1 h2 h3 h4 h5

/-- Operations that leave all as it is. -/
theorem OpSound.pure
    (h : ∀ (ρ : Mp) (lm : Lp) (a : Act) (w : World), HRel ρ σ w → LRel ρ lm l σ w → (∀ x ∈ o.op.operands.toList, VRel ρ lm (ev T e x) (a.eval x)) →
      ∃ cv, (execOp a.eval o).run P w = .ok (.value cv) w ∧ VRel ρ lm v cv) : OpSound P T o e l σ v l σ :=
  OpSound.of_run fun ρ lm a w hH hL ho => by
    obtain ⟨cv, hr, hv⟩ := h ρ lm a w hH hL ho
    exact ⟨_, cv, w, ρ, lm, hr, .inl rfl, hH, hL, hv, Step.refl .., LExt.refl ..⟩
end

end Go.Abs
namespace Go.Abs
open Go

def eqV : List Sh → List Value → List Value → Option Bool
  | [], [], [] => some true
  | .bool :: ss, .bool a :: xs, .bool b :: ys => (eqV ss xs ys).map fun r => (a == b) && r
  | .int k :: ss, .int k1 a :: xs, .int k2 b :: ys => if k1 = k then if k2 = k then (eqV ss xs ys).map fun r => (a == b) && r else none else none
  | .str :: ss, .string a :: xs, .string b :: ys => (eqV ss xs ys).map fun r => (a.toList == b.toList) && r
  | _, _, _ => none

theorem eqCells_eqV {ρ : Mp} {lm : Lp} : ∀ {ss : List Sh} {xs ys : List AVal} {r : Bool} {vx vy : List Value}, eqCells ss xs ys = some r → VRels ρ lm xs vx → VRels ρ lm ys vy → eqV ss vx vy = some r
  | ss, xs, ys, r, vx, vy, h, hx, hy => by
    unfold eqCells at h
    split at h
    · simp only [VRels] at hx hy; subst hx; subst hy; simpa [eqV] using h
    · obtain ⟨v, vs, rfl, h1, h2⟩ := by simpa only [VRels] using hx
      obtain ⟨u, us, rfl, g1, g2⟩ := by simpa only [VRels] using hy
      simp only [VRel] at h1 g1
      subst h1; subst g1
      obtain ⟨r', h', e⟩ := Option.map_eq_some_iff.1 h
      simp [eqV, eqCells_eqV h' h2 g2, e]
    · obtain ⟨v, vs, rfl, h1, h2⟩ := by simpa only [VRels] using hx
      obtain ⟨u, us, rfl, g1, g2⟩ := by simpa only [VRels] using hy
      simp only [VRel] at h1 g1
      subst h1; subst g1
      split at h
      · rename_i e0
        split at h
        · rename_i e1
          obtain ⟨r', h', e⟩ := Option.map_eq_some_iff.1 h
          simp [eqV, e0, e1, eqCells_eqV h' h2 g2, e]
        · cases h
      · cases h
    · obtain ⟨v, vs, rfl, h1, h2⟩ := by simpa only [VRels] using hx
      obtain ⟨u, us, rfl, g1, g2⟩ := by simpa only [VRels] using hy
      simp only [VRel] at h1 g1
      subst h1; subst g1
      obtain ⟨r', h', e⟩ := Option.map_eq_some_iff.1 h
      simp [eqV, eqCells_eqV h' h2 g2, e]
    · cases h

theorem eqV_len : ∀ {ss : List Sh} {a c : List Value} {r : Bool}, eqV ss a c = some r → a.length = ss.length ∧ c.length = ss.length
  | ss, a, c, r, h => by
    unfold eqV at h
    split at h
    · simp
    · obtain ⟨r', h', e⟩ := Option.map_eq_some_iff.1 h
      have := eqV_len h'
      simp; omega
    · split at h
      · split at h
        · obtain ⟨r', h', e⟩ := Option.map_eq_some_iff.1 h
          have := eqV_len h'
          simp; omega
        · cases h
      · cases h
    · obtain ⟨r', h', e⟩ := Option.map_eq_some_iff.1 h
      have := eqV_len h'
      simp; omega
    · cases h

theorem eqV_cut : ∀ (n : Nat) {ss : List Sh} {a c : List Value} {r : Bool}, n ≤ ss.length → eqV ss a c = some r → ∃ r1 r2, eqV (ss.take n) (a.take n) (c.take n) = some r1 ∧ eqV (ss.drop n) (a.drop n) (c.drop n) = some r2 ∧ r = (r1 && r2)
  | 0, ss, a, c, r, _, h => ⟨true, r, by simp [eqV], by simpa using h, by simp⟩
  | n + 1, ss, a, c, r, hn, h => by
    unfold eqV at h
    split at h
    · simp at hn
    · obtain ⟨r', h', e⟩ := Option.map_eq_some_iff.1 h
      obtain ⟨r1, r2, q1, q2, q3⟩ := eqV_cut n (by simpa using hn) h'
      refine ⟨_, r2, by simp only [List.take_succ_cons, eqV, q1, Option.map_some]; rfl, by simpa using q2, ?_⟩
      subst q3; rw [← e, Bool.and_assoc]
    · split at h
      · rename_i e0
        split at h
        · rename_i e1
          obtain ⟨r', h', e⟩ := Option.map_eq_some_iff.1 h
          obtain ⟨r1, r2, q1, q2, q3⟩ := eqV_cut n (by simpa using hn) h'
          refine ⟨_, r2, by simp only [List.take_succ_cons, eqV, q1, Option.map_some, e0, e1, if_true]; rfl, by simpa using q2, ?_⟩
          subst q3; rw [← e, Bool.and_assoc]
        · cases h
      · cases h
    · obtain ⟨r', h', e⟩ := Option.map_eq_some_iff.1 h
      obtain ⟨r1, r2, q1, q2, q3⟩ := eqV_cut n (by simpa using hn) h'
      refine ⟨_, r2, by simp only [List.take_succ_cons, eqV, q1, Option.map_some]; rfl, by simpa using q2, ?_⟩
      subst q3; rw [← e, Bool.and_assoc]
    · cases h

/-- A value of a type out of its cells. -/
def valOf (P : Program) (t : TypeId) (cs : List Value) : Value :=
  match P.underlying t with
  | some (.struct _) => .agg cs.toArray
  | _ => cs.headD Go.undef

theorem run_part_eq {P : Program} {n : Nat} {t : TypeId} {i : TypeInfo} {ss : List Sh} (h : eqOk P n t ss = true) (hi : P.info? t = some i) (w : World) (xs : List Value) (o : Nat) (hl : o + i.size ≤ xs.length) :
    (part t xs.toArray o).run P w = .ok (valOf P t ((xs.drop o).take i.size)) w := by
  have one : i.size = 1 → xs[o]? = some (((xs.drop o).take i.size).headD Go.undef) := fun e => by
    rw [e]
    have ho : o < xs.length := by omega
    rw [List.drop_eq_getElem_cons ho, List.take_succ_cons, List.headD_cons]
    simp [ho]
  cases n with
  | zero => simp [eqOk] at h
  | succ n =>
    unfold eqOk at h
    split at h
    · rename_i k i' k' hu hi'
      rw [hi] at hi'; injection hi' with hi'; subst hi'
      simp only [Bool.and_eq_true, decide_eq_true_eq] at h
      have := one h.1
      simp [part, isAgg, run_underlying hu, valOf, hu, this]
    · rename_i i' hu hi'
      rw [hi] at hi'; injection hi' with hi'; subst hi'
      have := one (of_decide_eq_true h)
      simp [part, isAgg, run_underlying hu, valOf, hu, this]
    · rename_i i' hu hi'
      rw [hi] at hi'; injection hi' with hi'; subst hi'
      have := one (of_decide_eq_true h)
      simp [part, isAgg, run_underlying hu, valOf, hu, this]
    · rename_i fs i' ss' hu hi'
      rw [hi] at hi'; injection hi' with hi'; subst hi'
      simp only [part, isAgg, Sem.run_bind, run_underlying hu, Result.andThen_ok, Sem.run_pure, if_true, sizeOf, typeInfo, run_program, hi, valOf, hu]
      congr 2
      apply Array.ext'
      simp only [Array.toList_extract, List.extract_eq_take_drop]
      congr 1
      omega
    · cases h

theorem eq_run {P : Program} (w : World) : ∀ (n : Nat),
    (∀ (t : TypeId) (ss : List Sh), eqOk P n t ss = true → ∀ (D : Nat), n ≤ D → ∀ (vx vy : List Value) (r : Bool), eqV ss vx vy = some r →
      (Op.equalIn D t (valOf P t vx) (valOf P t vy)).run P w = .ok r w) ∧
    (∀ (fs : List Field) (o : Nat) (ss : List Sh), eqFs P n fs o ss = true → ∀ (D : Nat), n ≤ D → ∀ (vx vy : List Value) (r : Bool), eqV ss (vx.drop o) (vy.drop o) = some r →
      (Op.eqFields D vx.toArray vy.toArray fs).run P w = .ok r w)
  | 0 => by
    refine ⟨fun t i h => by simp [eqOk] at h, fun fs o ss h D _ vx vy r hr => ?_⟩
    cases fs with
    | nil =>
      simp only [eqFs, List.isEmpty_iff] at h
      subst h
      unfold eqV at hr
      split at hr <;> simp_all [Op.eqFields]
    | cons f fs => simp [eqFs] at h
  | n + 1 => by
    obtain ⟨ih1, ih2⟩ := eq_run w n
    constructor
    · intro t ss h D hD vx vy r hr
      obtain ⟨D, rfl⟩ : ∃ D', D = D' + 1 := ⟨D - 1, by omega⟩
      unfold eqOk at h
      split at h
      · rename_i k i' k' hu hi'
        simp only [Bool.and_eq_true, decide_eq_true_eq] at h
        simp only [valOf, hu]
        unfold eqV at hr
        split at hr <;> rename_i h1 <;> try (first | (cases h1; done) | (cases hr; done))
        injection h1 with h1 h2
        injection h1 with h1
        subst h1; subst h2
        split at hr <;> try (cases hr; done)
        split at hr <;> try (cases hr; done)
        rename_i xs ys e1 e2
        subst e1; subst e2
        obtain ⟨r', h', e⟩ := Option.map_eq_some_iff.1 hr
        have : r' = true := by
          unfold eqV at h'
          split at h' <;> simp_all
        subst this; subst e
        simp [run_equalIn_int w D t _ _ _ _ hu]
      · rename_i i' hu hi'
        simp only [valOf, hu]
        unfold eqV at hr
        split at hr <;> rename_i h1 <;> try (first | (cases h1; done) | (cases hr; done))
        injection h1 with h1 h2
        subst h2
        obtain ⟨r', h', e⟩ := Option.map_eq_some_iff.1 hr
        have : r' = true := by
          unfold eqV at h'
          split at h' <;> simp_all
        subst this; subst e
        simp [run_equalIn_bool' w D t _ _ hu]
      · rename_i i' hu hi'
        simp only [valOf, hu]
        unfold eqV at hr
        split at hr <;> rename_i h1 <;> try (first | (cases h1; done) | (cases hr; done))
        injection h1 with h1 h2
        subst h2
        obtain ⟨r', h', e⟩ := Option.map_eq_some_iff.1 hr
        have : r' = true := by
          unfold eqV at h'
          split at h' <;> simp_all
        subst this; subst e
        simp [run_equalIn_string w D t _ _ hu]
      · rename_i _ fs i' hu hi'
        simp only [Bool.and_eq_true, Bool.not_eq_true'] at h
        have hf : P.fieldsOf t = fs := by simp [Program.fieldsOf, hu]
        have hu' : P.underlying t = some (.struct (P.fieldsOf t)) := by rw [hf]; exact hu
        simp only [valOf, hu]
        rw [run_equalIn_struct w D t _ _ hu' h.1.1, hf]
        exact ih2 fs.toList 0 _ h.2 D (by omega) vx vy r (by simpa using hr)
      · cases h
    · intro fs o ss h D hD vx vy r hr
      cases fs with
      | nil =>
        simp only [eqFs, List.isEmpty_iff] at h
        subst h
        unfold eqV at hr
        split at hr <;> simp_all [Op.eqFields]
      | cons f fs =>
        simp only [eqFs, Bool.and_eq_true, bne_iff_ne, ne_eq, decide_eq_true_eq] at h
        obtain ⟨⟨h1, h2⟩, h4⟩ := h
        split at h4
        · rename_i i hi
          simp only [Bool.and_eq_true, decide_eq_true_eq] at h4
          obtain ⟨⟨⟨h5, h0⟩, h6⟩, h7⟩ := h4
          obtain ⟨l1, l2⟩ := eqV_len hr
          rw [List.length_drop] at l1 l2
          obtain ⟨r1, r2, q1, q2, q3⟩ := eqV_cut i.size h5 hr
          have p1 := run_part_eq h6 hi w vx o (by omega)
          have p2 := run_part_eq h6 hi w vy o (by omega)
          have p3 := ih1 f.type (ss.take i.size) h6 D (by omega) _ _ r1 q1
          have p4 := ih2 fs (o + i.size) (ss.drop i.size) h7 D (by omega) vx vy r2 (by simpa [List.drop_drop, Nat.add_comm] using q2)
          rw [← h2] at p1 p2
          simp only [Op.eqFields]
          rw [if_pos h1]
          simp only [Sem.run_bind, p1, p2, Result.andThen_ok]
          rw [h2, p3]
          simp only [Result.andThen_ok]
          subst q3
          cases r1
          · rfl
          · simpa using p4
        · cases h4

end Go.Abs
namespace Go.Abs
open Go

def Snd (P : Program) (T : Tab) (o : Oper) (e : Env) (l : Locs) (σ : Heap) {R : Type} (k : AVal → Locs → Heap → Option R) (r : R) : Prop :=
  ∃ v l' σ', k v l' σ' = some r ∧ OpSound P T o e l σ v l' σ'

section
variable {P : Program} {T : Tab} {R : Type} {o : Oper} {e : Env} {l : Locs} {σ : Heap} {k : AVal → Locs → Heap → Option R} {r : R}

theorem fixV_rel {t : TypeId} {ρ : Mp} {lm : Lp} {x : AVal} {v : Value} (h : VRel ρ lm x v) : VRel ρ lm (fixV T t x) v := by
  unfold fixV
  split
  · split
    · split
      · split
        · simpa only [VRel] using h
        · exact h
      · exact h
    · exact h
  · exact h
theorem snd_move {x : Operand} (hop : o.op = .move x) (h : k (fixV T o.type (ev T e x)) l σ = some r) : Snd P T o e l σ k r :=
  ⟨_, _, _, h, .pure fun ρ lm a w _ _ ho => ⟨a.eval x, by simp [execOp, hop], fixV_rel (ho x (by simp [hop, Op.operands]))⟩⟩
theorem snd_assign {x : Operand} (hop : o.op = .assign x) (h : k (fixV T o.type (ev T e x)) l σ = some r) : Snd P T o e l σ k r :=
  ⟨_, _, _, h, .pure fun ρ lm a w _ _ ho => ⟨a.eval x, by simp [execOp, hop], fixV_rel (ho x (by simp [hop, Op.operands]))⟩⟩

theorem pickB_some {c a b : AVal} {k : AVal → Option R} (h : pickB c a b k = some r) : ∃ t v, c = .bool t ∧ k v = some r ∧ ∀ (ρ : Mp) (lm : Lp) (u : Value), VRel ρ lm (if t then a else b) u → VRel ρ lm v u := by
  unfold pickB at h
  split at h
  · rename_i t
    split at h
    · refine ⟨t, _, rfl, h, fun ρ lm u hu => ?_⟩
      cases t <;> simpa using hu
    · split at h
      · rename_i e
        subst e
        refine ⟨t, _, rfl, h, fun ρ lm u hu => ?_⟩
        cases t <;> simpa using hu
      · cases h
    · cases t
      · exact ⟨false, _, rfl, h, fun ρ lm u hu => by simpa using hu⟩
      · exact ⟨true, _, rfl, h, fun ρ lm u hu => by simpa using hu⟩
  · cases h

theorem snd_pick {c a b : Operand} (hop : o.op = .pick c a b) (h : (pickB (ev T e c) (ev T e a) (ev T e b) fun v => k v l σ) = some r) : Snd P T o e l σ k r := by
  obtain ⟨t, v, hc, hk, hv⟩ := pickB_some h
  refine ⟨v, l, σ, hk, .pure fun ρ lm A w _ _ ho => ?_⟩
  have h1 := ho c (by simp [hop, Op.operands])
  have h2 := ho a (by simp [hop, Op.operands])
  have h3 := ho b (by simp [hop, Op.operands])
  rw [hc] at h1
  simp only [VRel] at h1
  refine ⟨if t then A.eval a else A.eval b, by simp [execOp, hop, h1, asBool], hv ρ lm _ ?_⟩
  cases t
  · simpa using h3
  · simpa using h2

/-- A number, a bool, a text as it is in the model. -/
def embS : AVal → Value
  | .bool b => .bool b
  | .int k n => .int k n
  | .str s => .string s
  | _ => Go.undef

theorem snd_unOp {op : UnOp} {t : TypeId} {x : Operand} (hop : o.op = .unOp op t x) (h : ((unC op (ev T e x)).bind fun v => k v l σ) = some r) : Snd P T o e l σ k r := by
  obtain ⟨v, hv, hk⟩ := Option.bind_eq_some_iff.1 h
  refine ⟨v, l, σ, hk, .pure fun ρ lm A w _ _ ho => ⟨embS v, ?_⟩⟩
  have h1 := ho x (by simp [hop, Op.operands])
  unfold unC at hv
  split at hv
  · rename_i b hx
    rw [hx] at h1
    simp only [VRel] at h1
    injection hv with hv
    subst hv
    exact ⟨by simp [execOp, hop, h1, Op.unary, embS], by simp [VRel, embS]⟩
  · rename_i kd n hx
    rw [hx] at h1
    simp only [VRel] at h1
    injection hv with hv
    subst hv
    exact ⟨by simp [execOp, hop, h1, Op.unary, Op.intArith, embS], by simp [VRel, embS]⟩
  · rename_i kd n hx
    rw [hx] at h1
    simp only [VRel] at h1
    injection hv with hv
    subst hv
    exact ⟨by simp [execOp, hop, h1, Op.unary, Op.intBits, embS], by simp [VRel, embS]⟩
  · cases hv

theorem intBin_run {op : BinOp} {kd : IntKind} {a b : Int} {v : AVal} {P : Program} (h : intBin op kd a b = some v) (t : TypeId) (w : World) :
    (binOp op t (.int kd a) (.int kd b)).run P w = .ok (embS v) w ∧ ∀ (ρ : Mp) (lm : Lp), VRel ρ lm v (embS v) := by
  cases op <;> simp only [intBin] at h <;> try (cases h; done)
  all_goals first
    | (injection h with h
       subst h
       exact ⟨by simp [binOp, Op.intArith, Op.intBits, Op.intCmp, embS], fun ρ lm => by simp [VRel, embS]⟩)
    | (split at h
       · cases h
       · rename_i hb
         injection h with h
         subst h
         exact ⟨by simp [binOp, Op.intDiv, hb, embS], fun ρ lm => by simp [VRel, embS]⟩)

theorem strBin_run {op : BinOp} {a b : ByteArray} {v : AVal} {P : Program} (h : strBin op a b = some v) (t : TypeId) (w : World) :
    (binOp op t (.string a) (.string b)).run P w = .ok (embS v) w ∧ ∀ (ρ : Mp) (lm : Lp), VRel ρ lm v (embS v) := by
  cases op <;> simp only [strBin] at h <;> try (cases h; done)
  all_goals first
    | (injection h with h
       subst h
       exact ⟨by simp [binOp, Op.stringOp, embS], fun ρ lm => by simp [VRel, embS]⟩)
    | (split at h
       · rename_i hb
         injection h with h
         subst h
         refine ⟨?_, fun ρ lm => by simp [VRel, embS]⟩
         simp only [binOp, Op.stringOp]
         have e63 : IntKind.i64.max = 9223372036854775807 := by decide
         rw [if_neg (by rw [e63]; omega)]
         rfl
       · cases h)

theorem equal_eq (t : TypeId) (x y : Value) : Op.equal t x y = Op.equalIn (9999 + 1) t x y := rfl
theorem run_equalIn_slice {P : Program} {t et : TypeId} (h : P.underlying t = some (.slice et)) (D : Nat) (a : Option Addr) (n c : Nat) (w : World) :
    (Op.equalIn (D + 1) t (.slice a n c) (.slice none 0 0)).run P w = .ok a.isNone w := by
  cases a <;> simp [Op.equalIn, run_underlying h]
theorem run_equalIn_ptr {P : Program} {t et : TypeId} (h : P.underlying t = some (.pointer et)) (D : Nat) (a : Option Addr) (w : World) :
    (Op.equalIn (D + 1) t (.pointer a) (.pointer none)).run P w = .ok a.isNone w := by
  cases a <;> simp [Op.equalIn, run_underlying h]

/-- '==' or '!=' where the model asks 'equal'. -/
theorem isNil_run {P : Program} {op : BinOp} {b : Bool} {v : AVal} (h : isNilBin op b = some v) {t : TypeId} {x y : Value} {w : World} (hq : (Op.equal t x y).run P w = .ok b w)
    (hb : binOp .eql t x y = do pure (.bool (← Op.equal t x y))) (hb' : binOp .neq t x y = do pure (.bool (!(← Op.equal t x y)))) :
    (binOp op t x y).run P w = .ok (embS v) w ∧ ∀ (ρ : Mp) (lm : Lp), VRel ρ lm v (embS v) := by
  unfold isNilBin at h
  split at h
  · injection h with h; subst h
    rw [hb, Sem.run_bind, hq]
    exact ⟨rfl, fun ρ lm => by simp [VRel, embS]⟩
  · injection h with h; subst h
    rw [hb', Sem.run_bind, hq]
    exact ⟨rfl, fun ρ lm => by simp [VRel, embS]⟩
  · cases h

theorem bin_struct (ok : TabOK P T) {op : BinOp} {t : TypeId} {xs ys : List AVal} {v : AVal} {i : TI} {b : Bool} (hq : T.eq t = true) (hi : T.ti t = some i) (ha : i.agg = true) (hb : eqCells i.shape xs ys = some b) (h : isNilBin op b = some v)
    {ρ : Mp} {lm : Lp} {x y : Value} (hx : VRel ρ lm (.agg xs) x) (hy : VRel ρ lm (.agg ys) y) (u u' : Operand) (w : World) :
    (do eqGuard op t u u' x y; binOp op t x y : Sem Value).run P w = .ok (embS v) w ∧ VRel ρ lm v (embS v) := by
  obtain ⟨inf, d, z, ti⟩ := ok.tis hi
  obtain ⟨q1, q2⟩ := ok.eq t i hq hi
  obtain ⟨vx, ex, rx⟩ := by simpa only [VRel] using hx
  obtain ⟨vy, ey, ry⟩ := by simpa only [VRel] using hy
  subst ex; subst ey
  have hv := eqCells_eqV hb rx ry
  obtain ⟨fs, rfl⟩ := ti.aggStruct q1 ha
  have hval : ∀ cs : List Value, valOf P t cs = .agg cs.toArray := fun cs => by simp [valOf, ti.und]
  have hrun := (eq_run w 40).1 t i.shape q1 10000 (by omega) vx vy b hv
  rw [hval, hval] at hrun
  rw [Sem.run_bind, run_eqGuard_agg w op t u u' _ _ q2, Result.andThen_ok]
  obtain ⟨h1, h2⟩ := isNil_run (P := P) (w := w) (t := t) (x := .agg vx.toArray) (y := .agg vy.toArray) h hrun rfl rfl
  exact ⟨h1, h2 ρ lm⟩

theorem bin_slice (ok : TabOK P T) {op : BinOp} {t : TypeId} {b : Option Nat} {o1 n1 z1 o2 n2 z2 : Nat} {v : AVal} {i : TI} {et : TypeId} (hi : T.ti t = some i) (hk : i.kind = .slice et) (h : isNilBin op b.isNone = some v)
    {ρ : Mp} {lm : Lp} {x y : Value} (hx : VRel ρ lm (.slice b o1 n1 z1) x) (hy : VRel ρ lm (.slice none o2 n2 z2) y) (u u' : Operand) (w : World) :
    (do eqGuard op t u u' x y; binOp op t x y : Sem Value).run P w = .ok (embS v) w ∧ VRel ρ lm v (embS v) := by
  obtain ⟨inf, d, z, ti⟩ := ok.tis hi
  obtain ⟨rfl, _, _⟩ := ti.slice hk
  have hy' : y = .slice none 0 0 := by simp only [VRel] at hy; exact hy.2.2
  subst hy'
  obtain ⟨a, n, c, rfl, hab⟩ : ∃ a n c, x = .slice a n c ∧ a.isNone = b.isNone := by
    cases b with
    | none => simp only [VRel] at hx; exact ⟨_, _, _, hx.2.2, rfl⟩
    | some b => simp only [VRel] at hx; obtain ⟨_, _, _, _, h, _⟩ := hx; exact ⟨_, _, _, h, rfl⟩
  rw [eqGuard_at_slice, pure_bind]
  rw [← hab] at h
  obtain ⟨h1, h2⟩ := isNil_run (P := P) (w := w) (t := t) (x := .slice a n c) (y := .slice none 0 0) h (by rw [equal_eq]; exact run_equalIn_slice ti.und _ a n c w) rfl rfl
  exact ⟨h1, h2 ρ lm⟩

theorem bin_ptr (ok : TabOK P T) {op : BinOp} {t : TypeId} {p : Option (Nat × Nat)} {v : AVal} {i : TI} (hi : T.ti t = some i) (ha : i.agg = false) (hs : i.shape = [.ptr]) (h : isNilBin op p.isNone = some v)
    {ρ : Mp} {lm : Lp} {x y : Value} (hx : VRel ρ lm (.ptr p) x) (hy : VRel ρ lm (.ptr none) y) (u u' : Operand) (w : World) :
    (do eqGuard op t u u' x y; binOp op t x y : Sem Value).run P w = .ok (embS v) w ∧ VRel ρ lm v (embS v) := by
  obtain ⟨inf, d, z, ti⟩ := ok.tis hi
  obtain ⟨pe, rfl⟩ := ti.ptr hs ha
  have hy' : y = .pointer none := by simpa only [VRel] using hy
  subst hy'
  obtain ⟨a, rfl, hab⟩ : ∃ a, x = .pointer a ∧ a.isNone = p.isNone := by
    cases p with
    | none => simp only [VRel] at hx; exact ⟨_, hx, rfl⟩
    | some p => obtain ⟨b, o⟩ := p; simp only [VRel] at hx; obtain ⟨_, _, h⟩ := hx; exact ⟨_, h, rfl⟩
  rw [eqGuard_at_pointer, pure_bind]
  rw [← hab] at h
  obtain ⟨h1, h2⟩ := isNil_run (P := P) (w := w) (t := t) (x := .pointer a) (y := .pointer none) h (by rw [equal_eq]; exact run_equalIn_ptr ti.und _ a w) rfl rfl
  exact ⟨h1, h2 ρ lm⟩

theorem run_equalIn_iface {P : Program} {t : TypeId} {ms : Array (String × TypeId)} (h : P.underlying t = some (.interface ms)) (D : Nat) (d : TypeId) (u : Value) (w : World) :
    (Op.equalIn (D + 1) t (.iface d u) .nilIface).run P w = .ok false w := by
  simp [Op.equalIn, run_underlying h]
theorem run_equalIn_nilIface {P : Program} {t : TypeId} {ms : Array (String × TypeId)} (h : P.underlying t = some (.interface ms)) (D : Nat) (w : World) :
    (Op.equalIn (D + 1) t .nilIface .nilIface).run P w = .ok true w := by
  simp [Op.equalIn, run_underlying h]
theorem eqGuard_lit (op : BinOp) (t : TypeId) (u u' : Operand) (h : isLit u' = true) : eqGuard op t u u' .nilIface .nilIface = pure () := by
  cases u' with
  | const v =>
    unfold eqGuard
    cases op <;> simp
  | tmp _ => cases h
  | global _ => cases h
  | func _ => cases h
theorem bin_iface (ok : TabOK P T) {op : BinOp} {t : TypeId} {d : TypeId} {u : AVal} {v : AVal} {i : TI} (hi : T.ti t = some i) (ha : i.agg = false) (hs : i.shape = [.iface]) (h : isNilBin op false = some v)
    {ρ : Mp} {lm : Lp} {x y : Value} (hx : VRel ρ lm (.iface d u) x) (hy : VRel ρ lm .niliface y) (o o' : Operand) (w : World) :
    (do eqGuard op t o o' x y; binOp op t x y : Sem Value).run P w = .ok (embS v) w ∧ VRel ρ lm v (embS v) := by
  obtain ⟨inf, de, z, ti⟩ := ok.tis hi
  obtain ⟨ms, rfl⟩ := ti.iface hs ha
  simp only [VRel] at hx hy
  obtain ⟨y', rfl, _⟩ := hx
  subst hy
  rw [eqGuard_at_iface, pure_bind]
  obtain ⟨h1, h2⟩ := isNil_run (P := P) (w := w) (t := t) (x := .iface d y') (y := .nilIface) h (by rw [equal_eq]; exact run_equalIn_iface ti.und _ d y' w) rfl rfl
  exact ⟨h1, h2 ρ lm⟩
theorem bin_nilIface (ok : TabOK P T) {op : BinOp} {t : TypeId} {v : AVal} {i : TI} (hi : T.ti t = some i) (ha : i.agg = false) (hs : i.shape = [.iface]) (h : isNilBin op true = some v)
    {ρ : Mp} {lm : Lp} {x y : Value} (hx : VRel ρ lm .niliface x) (hy : VRel ρ lm .niliface y) (o o' : Operand) (hl : isLit o' = true) (w : World) :
    (do eqGuard op t o o' x y; binOp op t x y : Sem Value).run P w = .ok (embS v) w ∧ VRel ρ lm v (embS v) := by
  obtain ⟨inf, de, z, ti⟩ := ok.tis hi
  obtain ⟨ms, rfl⟩ := ti.iface hs ha
  simp only [VRel] at hx hy
  subst hx; subst hy
  rw [eqGuard_lit op t o o' hl, pure_bind]
  obtain ⟨h1, h2⟩ := isNil_run (P := P) (w := w) (t := t) (x := .nilIface) (y := .nilIface) h (by rw [equal_eq]; exact run_equalIn_nilIface ti.und _ w) rfl rfl
  exact ⟨h1, h2 ρ lm⟩

theorem binC_run (ok : TabOK P T) {op : BinOp} {t : TypeId} {X Y v : AVal} {lit : Bool} (h : binC op (T.ti t) (T.eq t) lit X Y = some v)
    {ρ : Mp} {lm : Lp} {x y : Value} (hx : VRel ρ lm X x) (hy : VRel ρ lm Y y) (u u' : Operand) (hlit : lit = isLit u') (w : World) :
    (do eqGuard op t u u' x y; binOp op t x y : Sem Value).run P w = .ok (embS v) w ∧ VRel ρ lm v (embS v) := by
  unfold binC at h
  split at h
  · -- numbers
    rename_i kd a kd' b
    simp only [VRel] at hx hy
    subst hx; subst hy
    rw [eqGuard_at_int, pure_bind]
    split at h
    · split at h
      · cases h
      · rename_i hb
        injection h with h
        subst h
        exact ⟨by simp [binOp, Op.shift, hb, embS], by simp [VRel, embS]⟩
    · split at h
      · cases h
      · rename_i hb
        injection h with h
        subst h
        exact ⟨by simp [binOp, Op.shift, hb, embS], by simp [VRel, embS]⟩
    · split at h
      · rename_i e
        subst e
        obtain ⟨h1, h2⟩ := intBin_run (P := P) h t w
        exact ⟨h1, h2 ρ lm⟩
      · cases h
  · rename_i a b
    simp only [VRel] at hx hy
    subst hx; subst hy
    rw [eqGuard_at_string, pure_bind]
    obtain ⟨h1, h2⟩ := strBin_run (P := P) h t w
    exact ⟨h1, h2 ρ lm⟩
  · -- bools
    rename_i a b
    simp only [VRel] at hx hy
    subst hx; subst hy
    rw [eqGuard_at_bool, pure_bind]
    obtain ⟨i, hi, h⟩ := Option.bind_eq_some_iff.1 h
    obtain ⟨inf, d, z, ti⟩ := ok.tis hi
    split at h
    · rename_i ha hs
      obtain rfl := ti.bool hs ha
      obtain ⟨h1, h2⟩ := isNil_run (P := P) (w := w) (t := t) (x := .bool a) (y := .bool b) h (run_equal_bool w t a b ti.und) rfl rfl
      exact ⟨h1, h2 ρ lm⟩
    · cases h
  · -- structs
    split at h
    · rename_i hq
      obtain ⟨i, hi, h⟩ := Option.bind_eq_some_iff.1 h
      split at h
      · rename_i ha
        obtain ⟨b, hb, h⟩ := Option.bind_eq_some_iff.1 h
        exact bin_struct ok hq hi ha hb h hx hy u u' w
      · cases h
    · cases h
  · -- nil slices
    obtain ⟨i, hi, h⟩ := Option.bind_eq_some_iff.1 h
    split at h
    · rename_i et hk
      exact bin_slice ok hi hk h hx hy u u' w
    · cases h
  · -- nil pointers
    obtain ⟨i, hi, h⟩ := Option.bind_eq_some_iff.1 h
    split at h
    · rename_i ha hs
      exact bin_ptr ok hi ha hs h hx hy u u' w
    · cases h
  · -- an interface
    obtain ⟨i, hi, h⟩ := Option.bind_eq_some_iff.1 h
    split at h
    · rename_i ha hs
      exact bin_iface ok hi ha hs h hx hy u u' w
    · cases h
  · -- an error that is told by halves
    rename_i b
    split at h
    · obtain ⟨i, hi, h⟩ := Option.bind_eq_some_iff.1 h
      split at h
      · rename_i ha hs
        cases b with
        | true => exact bin_nilIface ok hi ha hs h (by simpa only [VRel] using hx) hy u u' hlit.symm w
        | false =>
          simp only [VRel] at hx
          obtain ⟨d, y', e⟩ := hx
          exact bin_iface (d := d) (u := .undef) ok hi ha hs h (by simp only [VRel]; exact ⟨y', e, trivial⟩) hy u u' w
      · cases h
    · cases h
  · -- nil interfaces
    split at h
    · obtain ⟨i, hi, h⟩ := Option.bind_eq_some_iff.1 h
      split at h
      · rename_i ha hs
        exact bin_nilIface ok hi ha hs h hx hy u u' hlit.symm w
      · cases h
    · cases h
  · cases h

theorem snd_binOp (ok : TabOK P T) {op : BinOp} {t yt : TypeId} {x y : Operand} (hop : o.op = .binOp op t x y yt)
    (h : binK op (T.ti t) (T.eq t) (isLit y) (ev T e x) (ev T e y) (fun v => k v l σ) = some r) : Snd P T o e l σ k r := by
  rw [binK_eq] at h
  obtain ⟨v, hv, hk⟩ := Option.bind_eq_some_iff.1 h
  refine ⟨v, l, σ, hk, .pure fun ρ lm A w _ _ ho => ⟨embS v, ?_⟩⟩
  have h1 := ho x (by simp [hop, Op.operands])
  have h2 := ho y (by simp [hop, Op.operands])
  obtain ⟨g1, g2⟩ := binC_run ok hv h1 h2 x y rfl w
  refine ⟨?_, g2⟩
  simp only [execOp, hop]
  rw [Sem.run_bind, g1]
  rfl
end
end Go.Abs
namespace Go.Abs
open Go

section
variable {P : Program} {T : Tab} {R : Type} {o : Oper} {e : Env} {l : Locs} {σ : Heap} {k : AVal → Locs → Heap → Option R} {r : R}

theorem snd_nilCheck {x : Operand} (hop : o.op = .nilCheck x) (h : (match ev T e x with
      | .ptr p => p.bind fun q => k (.ptr (some q)) l σ
      | .lptr s o => k (.lptr s o) l σ
      | .func (.func g) cs => k (.func (.func g) cs) l σ
      | _ => none) = some r) : Snd P T o e l σ k r := by
  split at h
  · rename_i p hx
    obtain ⟨q, hq, h⟩ := Option.bind_eq_some_iff.1 h
    refine ⟨_, _, _, h, .pure fun ρ lm a w _ _ ho => ⟨a.eval x, ?_⟩⟩
    have h1 := ho x (by simp [hop, Op.operands])
    rw [hx, hq] at h1
    obtain ⟨b, o'⟩ := q
    obtain ⟨pl, hp, hv⟩ := by simpa only [VRel] using h1
    exact ⟨by simp [execOp, hop, hv], h1⟩
  · rename_i s o' hx
    refine ⟨_, _, _, h, .pure fun ρ lm a w _ _ ho => ⟨a.eval x, ?_⟩⟩
    have h1 := ho x (by simp [hop, Op.operands])
    rw [hx] at h1
    obtain ⟨k', hp, hv⟩ := by simpa only [VRel] using h1
    exact ⟨by simp [execOp, hop, hv], h1⟩
  · rename_i g cs hx
    refine ⟨_, _, _, h, .pure fun ρ lm a w _ _ ho => ⟨a.eval x, ?_⟩⟩
    have h1 := ho x (by simp [hop, Op.operands])
    rw [hx] at h1
    obtain ⟨vs, hv, _⟩ := by simpa only [VRel] using h1
    exact ⟨by simp [execOp, hop, hv], h1⟩
  · cases h

theorem LOne.of_cells {ρ : Mp} {k : Nat} {w : World} {l : Locs} {s : Nat} {cs : List AVal} (h : LOne ρ k w (l.getD s .none)) (hs : (l[s]?).bind LBlk.cells? = some cs) :
    ∃ c ty fr, w.heap[k]? = some (.cells c ty fr) ∧ Unfrozen fr c.size ∧ VRels ρ noL cs c.toList ∧ Ones c := by
  obtain ⟨x, hx, hc⟩ := Option.bind_eq_some_iff.1 hs
  have hs' : l.getD s .none = x := by simp [List.getD, hx]
  rw [hs'] at h
  unfold LBlk.cells? at hc
  split at hc
  · injection hc with hc; subst hc; exact h
  · injection hc with hc; subst hc; exact h
  · cases hc

theorem snd_load (ok : TabOK P T) {t : TypeId} {a : Operand} (hop : o.op = .load t a) (h : ((T.ti t).bind fun i =>
      match ev T e a with
      | .ptr p => p.bind fun q => fetches i.shape (fun j => σ.cell? q.1 (q.2 + j)) 0 fun vs => k (i.val vs) l σ
      | .lptr s o => match (l[s]?).bind LBlk.cells? with
        | some cs => fetches i.shape (fun j => cs[o + j]?) 0 fun vs => k (i.val vs) l σ
        | _ => none
      | _ => none) = some r) : Snd P T o e l σ k r := by
  obtain ⟨i, hi, h⟩ := Option.bind_eq_some_iff.1 h
  obtain ⟨inf, d, z, ti⟩ := ok.tis hi
  split at h
  · rename_i p hx
    obtain ⟨⟨b, o'⟩, hq, h⟩ := Option.bind_eq_some_iff.1 h
    obtain ⟨zs, hk, hl, hz⟩ := fetches_some h
    refine ⟨_, _, _, hk, .pure fun ρ lm A w hH hL ho => ?_⟩
    have h1 := ho a (by simp [hop, Op.operands])
    rw [hx, hq] at h1
    obtain ⟨pl, hp, hv⟩ := by simpa only [VRel] using h1
    obtain ⟨vs, l2, hr, hc⟩ := zs_rel (ρ := ρ) (lm := noL) (cell := fun m => w.cell? ⟨pl.blk, pl.off + (o' + m), none⟩) (fun m y hy => cell_rel hH hp hy) hz
    refine ⟨if i.agg then .agg vs.toArray else vs.headD Go.undef, ?_, ti.val_rel hl (hr.any lm)⟩
    have := ti.run_loadVar w ⟨pl.blk, pl.off + o', none⟩ vs (l2.trans hl) (fun j v hj => by rw [add_none, Nat.add_assoc]; exact hc j v hj)
    simp [execOp, hop, hv, Instr.loadAt, Instr.sureAddr, this]
  · rename_i s o' hx
    split at h
    · rename_i cs hs
      obtain ⟨zs, hk, hl, hz⟩ := fetches_some h
      refine ⟨_, _, _, hk, .pure fun ρ lm A w hH hL ho => ?_⟩
      have h1 := ho a (by simp [hop, Op.operands])
      rw [hx] at h1
      obtain ⟨b, hb, hv⟩ := by simpa only [VRel] using h1
      obtain ⟨_, h2⟩ := hL.loc s b hb
      obtain ⟨c, ty, fr, g1, g2, g3, _⟩ := h2.of_cells hs
      obtain ⟨vs, l2, hr, hc⟩ := zs_rel (ρ := ρ) (lm := noL) (cell := fun m => w.cell? ⟨b, o' + m, none⟩) (fun m y hy => by
        obtain ⟨v, e, hr⟩ := g3.get _ y hy
        exact ⟨v, by simpa [World.cell?, g1] using e, hr⟩) hz
      refine ⟨if i.agg then .agg vs.toArray else vs.headD Go.undef, ?_, ti.val_rel hl (hr.any lm)⟩
      have := ti.run_loadVar w ⟨b, o', none⟩ vs (l2.trans hl) (fun j v hj => by rw [add_none]; exact hc j v hj)
      simp [execOp, hop, hv, Instr.loadAt, Instr.sureAddr, this]
    · cases h
  · cases h

/-- The cells of a value, on both sides. -/
theorem cells_rel {ρ : Mp} {lm : Lp} {x : AVal} {v : Value} (h : VRel ρ lm x v) (hc : cellAll x.cells = true) : VRels ρ lm x.cells v.cells.toList := by
  cases x with
  | agg cs =>
    obtain ⟨vs, rfl, hr⟩ := by simpa only [VRel] using h
    simpa [AVal.cells, Value.cells] using hr
  | _ =>
    simp only [AVal.cells, cellAll, Bool.and_true] at hc
    have h1 := VRel.oneCell h hc
    have h2 : v.cells = #[v] := by cases v <;> simp_all [Value.oneCell', Value.cells]
    rw [h2]
    simp only [AVal.cells, VRels]
    exact ⟨v, [], rfl, h, rfl⟩

theorem cellAll_mem : ∀ {cs : List AVal}, cellAll cs = true → ∀ x ∈ cs, x.isCell = true
  | [], _, x, hx => by cases hx
  | c :: cs, h, x, hx => by
    simp only [cellAll, Bool.and_eq_true] at h
    rcases List.mem_cons.1 hx with rfl | hx
    · exact h.1
    · exact cellAll_mem h.2 x hx
theorem noLocs_of_cellAll : ∀ {cs : List AVal}, cellAll cs = true → noLocs cs = true
  | [], _ => rfl
  | c :: cs, h => by
    simp only [cellAll, Bool.and_eq_true] at h
    simp [noLocs, AVal.isCell_noLoc h.1, noLocs_of_cellAll h.2]
theorem oneCells {ρ : Mp} {lm : Lp} : ∀ {cs : List AVal} {vs : List Value}, VRels ρ lm cs vs → cellAll cs = true → ∀ v ∈ vs, v.oneCell' = true
  | [], _, h, _, v, hv => by simp only [VRels] at h; subst h; cases hv
  | c :: cs, _, h, hc, v, hv => by
    obtain ⟨u, us, rfl, h1, h2⟩ := by simpa only [VRels] using h
    simp only [cellAll, Bool.and_eq_true] at hc
    rcases List.mem_cons.1 hv with rfl | hv
    · exact VRel.oneCell h1 hc.1
    · exact oneCells h2 hc.2 v hv

theorem brel_write {ρ : Mp} {pl : Pl} {w w' : World} {cs xs : List AVal} {vs : List Value} {o' : Nat} {c c' : Array Value} {ty : TypeId} {fr : Nat × Nat}
    (h2 : c.size = pl.size) (h3 : pl.off + cs.length ≤ c.size) (h4 : ∀ j x, cs[j]? = some x → ∃ v, c[pl.off + j]? = some v ∧ VRel ρ noL x v) (h5 : Unfrozen fr c.size) (h6 : OnesAt .rw c pl.off cs.length) (h7 : ty = pl.ty)
    (hl : o' + xs.length ≤ cs.length) (hr : VRels ρ noL xs vs) (h1 : ∀ v ∈ vs, v.oneCell' = true) (hw : Wrote w w' pl.blk (pl.off + o') vs c c' ty fr) : BRel ρ pl w' (.row (overwrite cs o' xs) .rw) := by
  have hvl := hr.length
  refine ⟨c', ty, fr, hw.heap, hw.size.trans h2, by rw [overwrite_length, hw.size]; exact h3, fun j x hx => ?_, fun _ => by rw [hw.size]; exact h5, hw.onesAt h6 h1 (fun j hj => .inr (by rw [overwrite_length] at hj; omega)), h7⟩
  rw [overwrite_get _ _ _ _ hl] at hx
  rw [hw.at_]
  by_cases hj : o' ≤ j ∧ j < o' + xs.length
  · rw [if_pos hj] at hx
    rw [if_pos (by omega)]
    obtain ⟨v, e, r⟩ := hr.get _ x hx
    exact ⟨v, by rw [show pl.off + j - (pl.off + o') = j - o' by omega]; exact e, r⟩
  · rw [if_neg hj] at hx
    rw [if_neg (by omega)]
    exact h4 j x hx

theorem store_some {σ σ' : Heap} {b o' : Nat} {xs : List AVal} (h : σ.store b o' xs = some σ') : ∃ cs, σ[b]? = some (.row cs .rw) ∧ o' + xs.length ≤ cs.length ∧ σ' = σ.set b (.row (overwrite cs o' xs) .rw) := by
  unfold Heap.store at h
  split at h
  · rename_i cs hb
    split at h
    · rename_i hl
      injection h with h
      exact ⟨cs, hb, hl, h.symm⟩
    · cases h
  · cases h

/-- A STORE INTO A BLOCK. -/
theorem heap_store {ρ : Mp} {lm : Lp} {l : Locs} {σ σ' : Heap} {w : World} (hH : HRel ρ σ w) (hL : LRel ρ lm l σ w) {b o' : Nat} {xs : List AVal} {vs : List Value} {pl : Pl} (hp : ρ b = some pl)
    (h : σ.store b o' xs = some σ') (hr : VRels ρ noL xs vs) (h1 : ∀ v ∈ vs, v.oneCell' = true) :
    (storeCells ⟨pl.blk, pl.off + o', none⟩ vs).run P w = .ok () (w.setCells pl.blk (pl.off + o') vs) ∧
      HRel ρ σ' (w.setCells pl.blk (pl.off + o') vs) ∧ LRel ρ lm l σ' (w.setCells pl.blk (pl.off + o') vs) ∧ Step ρ lm l σ w ρ lm l σ' (w.setCells pl.blk (pl.off + o') vs) := by
  obtain ⟨cs, hb, hl, rfl⟩ := store_some h
  obtain ⟨x, hx, hB⟩ := hH.blk b pl hp
  rw [hb] at hx
  injection hx with hx
  subst hx
  obtain ⟨c, ty, fr, g1, g2, g3, g4, g5, g6, g7⟩ := hB
  have hvl := hr.length
  obtain ⟨c', hw⟩ := setCells_wrote vs w pl.blk (pl.off + o') c ty fr g1 (by omega)
  refine ⟨run_store_block w pl.blk (pl.off + o') vs c ty fr g1 (by omega) (g5 rfl) h1, ?_⟩
  exact turn_block hH hL b pl _ (.row (overwrite cs o' xs) .rw) hp hb rfl (brel_write g2 g3 g4 (g5 rfl) g6 g7 hl hr h1 hw) (.inl rfl) hw.os hw.tape hw.output hw.hsize hw.old

/-- A store into a place of the frame's own. -/
theorem local_store {ρ : Mp} {lm : Lp} {l : Locs} {σ : Heap} {w : World} (hH : HRel ρ σ w) (hL : LRel ρ lm l σ w) {t b o' : Nat} {cs xs : List AVal} {vs : List Value} (hp : lm t = some b) (ht : l[t]? = some (.cells cs))
    (hl : o' + xs.length ≤ cs.length) (hr : VRels ρ noL xs vs) (h1 : ∀ v ∈ vs, v.oneCell' = true) :
    (storeCells ⟨b, o', none⟩ vs).run P w = .ok () (w.setCells b o' vs) ∧
      HRel ρ σ (w.setCells b o' vs) ∧ LRel ρ lm (l.set t (.cells (overwrite cs o' xs))) σ (w.setCells b o' vs) ∧ Step ρ lm l σ w ρ lm (l.set t (.cells (overwrite cs o' xs))) σ (w.setCells b o' vs) := by
  obtain ⟨_, h2⟩ := hL.loc t b hp
  have hs' : l.getD t .none = .cells cs := by simp [List.getD, ht]
  rw [hs'] at h2
  obtain ⟨c, ty, fr, g1, g2, g3, g6⟩ := h2
  have hvl := hr.length
  have hcl := g3.length
  simp at hcl
  obtain ⟨c', hw⟩ := setCells_wrote vs w b o' c ty fr g1 (by omega)
  refine ⟨run_store_block w b o' vs c ty fr g1 (by omega) g2 h1, ?_⟩
  refine turn_local hH hL t b _ hp (List.getElem?_eq_some_iff.1 ht).1 (by rw [hs']; rfl) ⟨c', ty, fr, hw.heap, by rw [hw.size]; exact g2, ?_, hw.ones g6 h1⟩ hw.os hw.tape hw.output hw.hsize hw.old
  refine VRels.of_get (by simp [hw.size, overwrite_length, hcl]) fun j x hx => ?_
  rw [overwrite_get _ _ _ _ hl] at hx
  rw [Array.getElem?_toList, hw.at_]
  by_cases hj : o' ≤ j ∧ j < o' + xs.length
  · rw [if_pos hj] at hx
    rw [if_pos (by omega)]
    exact hr.get _ x hx
  · rw [if_neg hj] at hx
    rw [if_neg (by omega)]
    simpa using g3.get j x hx

theorem snd_store (ok : TabOK P T) {t : TypeId} {a x : Operand} (hop : o.op = .store t a x) (h : ((T.ti t).bind fun i =>
      match cellAll (ev T e x).cells && decide ((ev T e x).cells.length = i.size) with
      | true => match ev T e a with
        | .ptr p => p.bind fun q => (σ.store q.1 q.2 (ev T e x).cells).bind fun σ' => k .void l σ'
        | .lptr s o => match l[s]? with
          | some (.cells cs) => match decide (o + i.size ≤ cs.length) with
            | true => k .void (l.set s (.cells (overwrite cs o (ev T e x).cells))) σ
            | false => none
          | _ => none
        | _ => none
      | false => none) = some r) : Snd P T o e l σ k r := by
  obtain ⟨i, hi, h⟩ := Option.bind_eq_some_iff.1 h
  obtain ⟨inf, d, z, ti⟩ := ok.tis hi
  split at h
  · rename_i hc
    simp only [Bool.and_eq_true, decide_eq_true_eq] at hc
    split at h
    · rename_i p hx
      obtain ⟨⟨b, o'⟩, hq, h⟩ := Option.bind_eq_some_iff.1 h
      obtain ⟨σ', hs, h⟩ := Option.bind_eq_some_iff.1 h
      refine ⟨_, _, _, h, .of_run fun ρ lm A w hH hL ho => ?_⟩
      have h1 := ho a (by simp [hop, Op.operands])
      have h2 := ho x (by simp [hop, Op.operands])
      rw [hx, hq] at h1
      obtain ⟨pl, hp, hv⟩ := by simpa only [VRel] using h1
      have hr := cells_rel h2 hc.1
      have hr' : VRels ρ noL (ev T e x).cells (A.eval x).cells.toList := hr.noLoc (noLocs_of_cellAll hc.1)
      obtain ⟨q1, q2, q3, q4⟩ := heap_store (P := P) hH hL hp hs hr' (oneCells hr hc.1)
      have hl := hr.length
      refine ⟨.skip, Go.undef, _, ρ, lm, ?_, .inr ⟨rfl, rfl⟩, q2, q3, by simp [VRel], q4, LExt.refl ..⟩
      simp only [execOp, hop, hv, Instr.storeAt, Instr.sureAddr, storeVar, Sem.run_bind, Sem.run_pure, Result.andThen_ok, ti.run_sizeOf]
      rw [if_neg (by rw [← Array.length_toList, hl, hc.2]; simp)]
      rw [q1]
      rfl
    · rename_i s o' hx
      split at h
      · rename_i cs hs
        split at h
        · rename_i hb
          simp only [decide_eq_true_eq] at hb
          refine ⟨_, _, _, h, .of_run fun ρ lm A w hH hL ho => ?_⟩
          have h1 := ho a (by simp [hop, Op.operands])
          have h2 := ho x (by simp [hop, Op.operands])
          rw [hx] at h1
          obtain ⟨b, hp, hv⟩ := by simpa only [VRel] using h1
          have hr := cells_rel h2 hc.1
          have hr' : VRels ρ noL (ev T e x).cells (A.eval x).cells.toList := hr.noLoc (noLocs_of_cellAll hc.1)
          obtain ⟨q1, q2, q3, q4⟩ := local_store (P := P) hH hL hp hs (by rw [hc.2]; exact hb) hr' (oneCells hr hc.1)
          have hl := hr.length
          refine ⟨.skip, Go.undef, _, ρ, lm, ?_, .inr ⟨rfl, rfl⟩, q2, q3, by simp [VRel], q4, LExt.refl ..⟩
          simp only [execOp, hop, hv, Instr.storeAt, Instr.sureAddr, storeVar, Sem.run_bind, Sem.run_pure, Result.andThen_ok, ti.run_sizeOf]
          rw [if_neg (by rw [← Array.length_toList, hl, hc.2]; simp)]
          rw [q1]
          rfl
        · cases h
      · cases h
    · cases h
  · cases h

end
end Go.Abs
