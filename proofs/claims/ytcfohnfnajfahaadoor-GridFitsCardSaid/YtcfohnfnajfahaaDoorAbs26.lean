/-
Helpers for lifted functions: places in code, slices as one, types told by Lean's.
-/
import Derived.Test.YtcfohnfnajfahaaDoorAbs25
namespace Go.Abs
open Go

/-! ### Places in code -/
def Code.sub : Code → List Nat → Code
  | c, [] => c
  | .seq a _, 0 :: p => Code.sub a p
  | .seq _ b, _ :: p => Code.sub b p
  | .cond _ a _, 0 :: p => Code.sub a p
  | .cond _ _ b, _ :: p => Code.sub b p
  | .block _ c, _ :: p => Code.sub c p
  | .loop c, _ :: p => Code.sub c p
  | c, _ => c
section
variable {R : Type}
/-- What is done behind a place; 'fs': the rounds that are left of the loops around it. -/
def ctxK (T : Tab) (n : Nat) (f : FuncId) (callF : CallF R) : Code → List Nat → List Nat → Cont R → Cont R
  | _, [], _, K => K
  | .seq a b, 0 :: p, fs, K => ctxK T n f callF a p fs fun x e l σ =>
      match x with
      | .normal => codeC T n f callF b (maskE (T.join f (firstRegion b)) e) (maskL (maskE (T.join f (firstRegion b)) e) (T.join f (firstRegion b)) l) σ K
      | x => K x e l σ
  | .seq _ b, _ :: p, fs, K => ctxK T n f callF b p fs K
  | .cond _ a _, 0 :: p, fs, K => ctxK T n f callF a p fs K
  | .cond _ _ b, _ :: p, fs, K => ctxK T n f callF b p fs K
  | .block id c, _ :: p, fs, K => ctxK T n f callF c p fs fun x e l σ =>
      match x with
      | .exit id' => if id' = id then K .normal e l σ else K (.exit id') e l σ
      | x => K x e l σ
  | .loop c, _ :: p, m :: fs, K => ctxK T n f callF c p fs fun x e l σ =>
      match x with
      | .normal => iterC (T.mask f (firstRegion c)) (codeC T n f callF c) m (maskE (T.mask f (firstRegion c)) e) (maskL (maskE (T.mask f (firstRegion c)) e) (T.mask f (firstRegion c)) l) σ K
      | x => K x e l σ
  | _, _, _, K => K
/-- A function's end. -/
def finK (T : Tab) (rs : List ResultVar) (K : AVal → Heap → Option R) : Cont R := fun x e l σ' =>
  match x with
  | .exit _ => none
  | _ => resultsC T e l σ' rs fun vs =>
      match vs with
      | [v] => K v σ'
      | vs => K (.tuple vs) σ'
def bodyOf (fn : Func) : Code := match fn.body with | some c => c | none => .skip
/-- The loop at a place, with so many rounds left. -/
def loopAt (T : Tab) (O : Known) (L n : Nat) (f : FuncId) (fn : Func) (p fs : List Nat) (m : Nat) (e : Env) (l : Locs) (σ : Heap) (K : AVal → Heap → Option R) : Option R :=
  iterC (T.mask f (firstRegion (Code.sub (bodyOf fn) p))) (codeC T L f (callC T O L n) (Code.sub (bodyOf fn) (p ++ [0]))) m e l σ (ctxK T L f (callC T O L n) (bodyOf fn) p fs (finK T fn.results.toList K))
/-- The code at a place. -/
def codeAt (T : Tab) (O : Known) (L n : Nat) (f : FuncId) (fn : Func) (p fs : List Nat) (e : Env) (l : Locs) (σ : Heap) (K : AVal → Heap → Option R) : Option R :=
  codeC T L f (callC T O L n) (Code.sub (bodyOf fn) p) e l σ (ctxK T L f (callC T O L n) (bodyOf fn) p fs (finK T fn.results.toList K))
/-- A new row. -/
def alloc (σ : Heap) (cs : List AVal) (k : Nat → Heap → Option R) : Option R := k σ.length (σ ++ [.row cs .rw])
end

/-! ### Types -/
structure Ty (α : Type) where
  av : α → AVal
  de : AVal → Option α
  ok : ∀ {x a}, de x = some a → Refines x (av a)
/-- A slice. -/
structure Sl where
  b : Option Nat
  o : Nat
  n : Nat
  deriving DecidableEq, Inhabited
abbrev Pt := Option (Nat × Nat)
def tInt (k : IntKind) : Ty Int where
  av n := .int k n
  de x := match x with | .int k' n => if k' = k then some n else none | _ => none
  ok := by
    intro x a h
    split at h
    · split at h
      · rename_i e
        injection h with h; subst h; subst e; exact Refines.refl _
      · cases h
    · cases h
def tBool : Ty Bool where
  av b := .bool b
  de x := match x with | .bool b => some b | _ => none
  ok := by
    intro x a h
    split at h
    · injection h with h; subst h; exact Refines.refl _
    · cases h
def tStr : Ty ByteArray where
  av b := .str b
  de x := match x with | .str b => some b | _ => none
  ok := by
    intro x a h
    split at h
    · injection h with h; subst h; exact Refines.refl _
    · cases h
def tPtr : Ty Pt where
  av b := .ptr b
  de x := match x with | .ptr b => some b | _ => none
  ok := by
    intro x a h
    split at h
    · injection h with h; subst h; exact Refines.refl _
    · cases h
def tSl (z : Nat) : Ty Sl where
  av s := .slice s.b s.o s.n z
  de x := match x with
    | .slice b o n z' => match decide (z' = z) with
      | true => some ⟨b, o, n⟩
      | false => match b with | none => some ⟨none, o, n⟩ | some _ => none
    | _ => none
  ok := by
    intro x a h
    split at h
    · split at h
      · rename_i e
        simp only [decide_eq_true_eq] at e
        injection h with h; subst h; subst e; exact Refines.refl _
      · split at h
        · injection h with h; subst h
          intro ρ lm v hv
          simpa only [VRel] using hv
        · cases h
    · cases h
def tVoid : Ty Unit where
  av _ := .tuple []
  de x := match x with | .tuple [] => some () | _ => none
  ok := by
    intro x a h
    split at h
    · exact Refines.refl _
    · cases h
/-- A slice of slices, told flat: fields of an aggregate. -/
def tStruct {α : Type} (cells : α → List AVal) (mk : List AVal → Option α) (h : ∀ {xs a}, mk xs = some a → ∀ ρ lm vs, VRels ρ lm xs vs → VRels ρ lm (cells a) vs) : Ty α where
  av a := .agg (cells a)
  de x := match x with | .agg xs => mk xs | _ => none
  ok := by
    intro x a e
    split at e
    · intro ρ lm v hv
      simp only [VRel] at hv ⊢
      obtain ⟨vs, e1, e2⟩ := hv
      exact ⟨vs, e1, h e ρ lm vs e2⟩
    · cases e
def tPair {α β : Type} (a : Ty α) (b : Ty β) : Ty (α × β) where
  av p := .tuple [a.av p.1, b.av p.2]
  de x := match x with | .tuple [u, v] => (a.de u).bind fun p => (b.de v).bind fun q => some (p, q) | _ => none
  ok := by
    intro x p h
    split at h
    · obtain ⟨p1, h1, h⟩ := Option.bind_eq_some_iff.1 h
      obtain ⟨p2, h2, h⟩ := Option.bind_eq_some_iff.1 h
      injection h with h; subst h
      intro ρ lm v hv
      simp only [VRel, VRels] at hv ⊢
      obtain ⟨vs, rfl, v1, vs1, rfl, r1, v2, vs2, rfl, r2, rfl⟩ := hv
      exact ⟨_, rfl, v1, [v2], rfl, a.ok h1 _ _ _ r1, v2, [], rfl, b.ok h2 _ _ _ r2, rfl⟩
    · cases h
def tTrip {α β γ : Type} (a : Ty α) (b : Ty β) (c : Ty γ) : Ty (α × β × γ) where
  av p := .tuple [a.av p.1, b.av p.2.1, c.av p.2.2]
  de x := match x with | .tuple [u, v, w] => (a.de u).bind fun p => (b.de v).bind fun q => (c.de w).bind fun r => some (p, q, r) | _ => none
  ok := by
    intro x p h
    split at h
    · obtain ⟨p1, h1, h⟩ := Option.bind_eq_some_iff.1 h
      obtain ⟨p2, h2, h⟩ := Option.bind_eq_some_iff.1 h
      obtain ⟨p3, h3, h⟩ := Option.bind_eq_some_iff.1 h
      injection h with h; subst h
      intro ρ lm v hv
      simp only [VRel, VRels] at hv ⊢
      obtain ⟨vs, rfl, v1, vs1, rfl, r1, v2, vs2, rfl, r2, v3, vs3, rfl, r3, rfl⟩ := hv
      exact ⟨_, rfl, v1, [v2, v3], rfl, a.ok h1 _ _ _ r1, v2, [v3], rfl, b.ok h2 _ _ _ r2, v3, [], rfl, c.ok h3 _ _ _ r3, rfl⟩
    · cases h

def known0 : Known := fun _ => none
theorem known0_ok {P : Program} {T : Tab} : KnownOK P T known0 := known_none

/-! ### Contracts out of Lean functions -/
section
variable {P : Program} {T : Tab}
theorem CallOK.refine {f : FuncId} {xs ys : List AVal} {σ σ' : Heap} {v : AVal} (h : CallOK P T f ys σ v σ') (hr : ∀ ρ lm vs, VRels ρ lm xs vs → VRels ρ lm ys vs) : CallOK P T f xs σ v σ' :=
  fun ρ ws w hH hG hw => h ρ ws w hH hG (hr ρ noL ws hw)
theorem refines_nil : ∀ (ρ : Mp) (lm : Lp) (vs : List Value), VRels ρ lm [] vs → VRels ρ lm [] vs := fun _ _ _ h => h
theorem refines_cons {x y : AVal} {xs ys : List AVal} (h : Refines x y) (hs : ∀ (ρ : Mp) (lm : Lp) (vs : List Value), VRels ρ lm xs vs → VRels ρ lm ys vs) :
    ∀ (ρ : Mp) (lm : Lp) (vs : List Value), VRels ρ lm (x :: xs) vs → VRels ρ lm (y :: ys) vs := fun ρ lm vs hv => by
  simp only [VRels] at hv ⊢
  obtain ⟨v, vs', rfl, h1, h2⟩ := hv
  exact ⟨v, vs', rfl, h ρ lm v h1, hs ρ lm vs' h2⟩
abbrev W0 (β : Type) := Heap → Option (β × Heap)
def g0 {β : Type} (r : Ty β) (w : Heap → Option (β × Heap)) : ∀ R : Type, CallF1 R := fun _ xs σ K =>
  match xs with
  | [] => (w σ).bind fun q => K (r.av q.1) q.2
  | _ => none
def g1 {α β : Type} (a : Ty α) (r : Ty β) (w : α → Heap → Option (β × Heap)) : ∀ R : Type, CallF1 R := fun _ xs σ K =>
  match xs with
  | [x] => (a.de x).bind fun x => (w x σ).bind fun q => K (r.av q.1) q.2
  | _ => none
def g2 {α α2 β : Type} (a : Ty α) (a2 : Ty α2) (r : Ty β) (w : α → α2 → Heap → Option (β × Heap)) : ∀ R : Type, CallF1 R := fun _ xs σ K =>
  match xs with
  | [x, y] => (a.de x).bind fun x => (a2.de y).bind fun y => (w x y σ).bind fun q => K (r.av q.1) q.2
  | _ => none
def g3 {α α2 α3 β : Type} (a : Ty α) (a2 : Ty α2) (a3 : Ty α3) (r : Ty β) (w : α → α2 → α3 → Heap → Option (β × Heap)) : ∀ R : Type, CallF1 R := fun _ xs σ K =>
  match xs with
  | [x, y, z] => (a.de x).bind fun x => (a2.de y).bind fun y => (a3.de z).bind fun z => (w x y z σ).bind fun q => K (r.av q.1) q.2
  | _ => none
def g4 {α α2 α3 α4 β : Type} (a : Ty α) (a2 : Ty α2) (a3 : Ty α3) (a4 : Ty α4) (r : Ty β) (w : α → α2 → α3 → α4 → Heap → Option (β × Heap)) : ∀ R : Type, CallF1 R := fun _ xs σ K =>
  match xs with
  | [x, y, z, u] => (a.de x).bind fun x => (a2.de y).bind fun y => (a3.de z).bind fun z => (a4.de u).bind fun u => (w x y z u σ).bind fun q => K (r.av q.1) q.2
  | _ => none
def g5 {α α2 α3 α4 α5 β : Type} (a : Ty α) (a2 : Ty α2) (a3 : Ty α3) (a4 : Ty α4) (a5 : Ty α5) (r : Ty β) (w : α → α2 → α3 → α4 → α5 → Heap → Option (β × Heap)) : ∀ R : Type, CallF1 R := fun _ xs σ K =>
  match xs with
  | [x, y, z, u, t] => (a.de x).bind fun x => (a2.de y).bind fun y => (a3.de z).bind fun z => (a4.de u).bind fun u => (a5.de t).bind fun t => (w x y z u t σ).bind fun q => K (r.av q.1) q.2
  | _ => none
section
variable {f : FuncId} {α α2 α3 α4 α5 β : Type} {a : Ty α} {a2 : Ty α2} {a3 : Ty α3} {a4 : Ty α4} {a5 : Ty α5} {r : Ty β}
theorem g0_ok {w : Heap → Option (β × Heap)} (h : ∀ σ v σ', w σ = some (v, σ') → CallOK P T f [] σ (r.av v) σ') :
    ∀ (R : Type) xs σ (K : AVal → Heap → Option R) t, g0 r w R xs σ K = some t → ∃ v σ', K v σ' = some t ∧ CallOK P T f xs σ v σ' := by
  intro R xs σ K t e
  unfold g0 at e
  split at e
  · obtain ⟨⟨v, σ'⟩, e3, e⟩ := Option.bind_eq_some_iff.1 e
    exact ⟨_, _, e, h σ v σ' e3⟩
  · cases e
theorem g1_ok {w : α → Heap → Option (β × Heap)} (h : ∀ x σ v σ', w x σ = some (v, σ') → CallOK P T f [a.av x] σ (r.av v) σ') :
    ∀ (R : Type) xs σ (K : AVal → Heap → Option R) t, g1 a r w R xs σ K = some t → ∃ v σ', K v σ' = some t ∧ CallOK P T f xs σ v σ' := by
  intro R xs σ K t e
  unfold g1 at e
  split at e
  · obtain ⟨x, e1, e⟩ := Option.bind_eq_some_iff.1 e
    obtain ⟨⟨v, σ'⟩, e3, e⟩ := Option.bind_eq_some_iff.1 e
    exact ⟨_, _, e, (h x σ v σ' e3).refine (refines_cons (a.ok e1) refines_nil)⟩
  · cases e
theorem g2_ok {w : α → α2 → Heap → Option (β × Heap)} (h : ∀ x y σ v σ', w x y σ = some (v, σ') → CallOK P T f [a.av x, a2.av y] σ (r.av v) σ') :
    ∀ (R : Type) xs σ (K : AVal → Heap → Option R) t, g2 a a2 r w R xs σ K = some t → ∃ v σ', K v σ' = some t ∧ CallOK P T f xs σ v σ' := by
  intro R xs σ K t e
  unfold g2 at e
  split at e
  · obtain ⟨x, e1, e⟩ := Option.bind_eq_some_iff.1 e
    obtain ⟨y, e2, e⟩ := Option.bind_eq_some_iff.1 e
    obtain ⟨⟨v, σ'⟩, e3, e⟩ := Option.bind_eq_some_iff.1 e
    exact ⟨_, _, e, (h x y σ v σ' e3).refine (refines_cons (a.ok e1) (refines_cons (a2.ok e2) refines_nil))⟩
  · cases e
theorem g3_ok {w : α → α2 → α3 → Heap → Option (β × Heap)} (h : ∀ x y z σ v σ', w x y z σ = some (v, σ') → CallOK P T f [a.av x, a2.av y, a3.av z] σ (r.av v) σ') :
    ∀ (R : Type) xs σ (K : AVal → Heap → Option R) t, g3 a a2 a3 r w R xs σ K = some t → ∃ v σ', K v σ' = some t ∧ CallOK P T f xs σ v σ' := by
  intro R xs σ K t e
  unfold g3 at e
  split at e
  · obtain ⟨x, e1, e⟩ := Option.bind_eq_some_iff.1 e
    obtain ⟨y, e2, e⟩ := Option.bind_eq_some_iff.1 e
    obtain ⟨z, e4, e⟩ := Option.bind_eq_some_iff.1 e
    obtain ⟨⟨v, σ'⟩, e3, e⟩ := Option.bind_eq_some_iff.1 e
    exact ⟨_, _, e, (h x y z σ v σ' e3).refine (refines_cons (a.ok e1) (refines_cons (a2.ok e2) (refines_cons (a3.ok e4) refines_nil)))⟩
  · cases e
theorem g4_ok {w : α → α2 → α3 → α4 → Heap → Option (β × Heap)} (h : ∀ x y z u σ v σ', w x y z u σ = some (v, σ') → CallOK P T f [a.av x, a2.av y, a3.av z, a4.av u] σ (r.av v) σ') :
    ∀ (R : Type) xs σ (K : AVal → Heap → Option R) t, g4 a a2 a3 a4 r w R xs σ K = some t → ∃ v σ', K v σ' = some t ∧ CallOK P T f xs σ v σ' := by
  intro R xs σ K t e
  unfold g4 at e
  split at e
  · obtain ⟨x, e1, e⟩ := Option.bind_eq_some_iff.1 e
    obtain ⟨y, e2, e⟩ := Option.bind_eq_some_iff.1 e
    obtain ⟨z, e4, e⟩ := Option.bind_eq_some_iff.1 e
    obtain ⟨u, e5, e⟩ := Option.bind_eq_some_iff.1 e
    obtain ⟨⟨v, σ'⟩, e3, e⟩ := Option.bind_eq_some_iff.1 e
    exact ⟨_, _, e, (h x y z u σ v σ' e3).refine (refines_cons (a.ok e1) (refines_cons (a2.ok e2) (refines_cons (a3.ok e4) (refines_cons (a4.ok e5) refines_nil))))⟩
  · cases e
theorem g5_ok {w : α → α2 → α3 → α4 → α5 → Heap → Option (β × Heap)} (h : ∀ x y z u q σ v σ', w x y z u q σ = some (v, σ') → CallOK P T f [a.av x, a2.av y, a3.av z, a4.av u, a5.av q] σ (r.av v) σ') :
    ∀ (R : Type) xs σ (K : AVal → Heap → Option R) t, g5 a a2 a3 a4 a5 r w R xs σ K = some t → ∃ v σ', K v σ' = some t ∧ CallOK P T f xs σ v σ' := by
  intro R xs σ K t e
  unfold g5 at e
  split at e
  · obtain ⟨x, e1, e⟩ := Option.bind_eq_some_iff.1 e
    obtain ⟨y, e2, e⟩ := Option.bind_eq_some_iff.1 e
    obtain ⟨z, e4, e⟩ := Option.bind_eq_some_iff.1 e
    obtain ⟨u, e5, e⟩ := Option.bind_eq_some_iff.1 e
    obtain ⟨q, e6, e⟩ := Option.bind_eq_some_iff.1 e
    obtain ⟨⟨v, σ'⟩, e3, e⟩ := Option.bind_eq_some_iff.1 e
    exact ⟨_, _, e, (h x y z u q σ v σ' e3).refine (refines_cons (a.ok e1) (refines_cons (a2.ok e2) (refines_cons (a3.ok e4) (refines_cons (a4.ok e5) (refines_cons (a5.ok e6) refines_nil)))))⟩
  · cases e
end
end
end Go.Abs
