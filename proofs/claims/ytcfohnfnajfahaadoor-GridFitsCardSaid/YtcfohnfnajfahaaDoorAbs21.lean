/-
Tables out of lists.
-/
import Derived.Test.YtcfohnfnajfahaaDoorAbs20
namespace Go.Abs
open Go

def look {α : Type} : List (Nat × α) → Nat → Option α
  | [], _ => none
  | (m, a) :: r, n => match Nat.beq m n with | true => some a | false => look r n
def memN : List Nat → Nat → Bool
  | [], _ => false
  | m :: r, n => match Nat.beq m n with | true => true | false => memN r n
theorem look_mem {α : Type} : ∀ {l : List (Nat × α)} {n : Nat} {a : α}, look l n = some a → (n, a) ∈ l
  | [], _, _, h => by simp [look] at h
  | (m, b) :: r, n, a, h => by
    unfold look at h
    split at h
    · rename_i e
      injection h with h
      subst h
      rw [Nat.eq_of_beq_eq_true e]
      exact List.mem_cons_self
    · exact List.mem_cons_of_mem _ (look_mem h)
theorem memN_mem : ∀ {l : List Nat} {n : Nat}, memN l n = true → n ∈ l
  | [], _, h => by simp [memN] at h
  | m :: r, n, h => by
    unfold memN at h
    split at h
    · rename_i e
      rw [Nat.eq_of_beq_eq_true e]
      exact List.mem_cons_self
    · exact List.mem_cons_of_mem _ (memN_mem h)

structure Lists where
  tis : List (Nat × TI)
  tups : List (Nat × List Nat)
  fns : List (Nat × Func)
  locs : List (Nat × List Nat)
  masks : List (Nat × List (Nat × List Nat))
  joins : List (Nat × List (Nat × List Nat))
  quiets : List (Nat × List (Nat × List Bool))
  globs : List Nat
  eqs : List Nat

def Lists.tab (l : Lists) : Tab where
  ti := look l.tis
  fn := look l.fns
  loc := fun f t => match look l.locs f with | some l => memN l t | none => false
  mask := fun f r => match look l.masks f with | some m => (look m r).getD [] | none => []
  join := fun f r => match look l.joins f with | some m => (look m r).getD [] | none => []
  quiet := fun f r => match look l.quiets f with | some m => (look m r).getD [] | none => []
  glob := memN l.globs
  eq := memN l.eqs
  tup := look l.tups

def fnGood (T : Tab) (p : Nat × Func) : Bool := match p.2.body with | some c => goodCode T p.1 c | none => true
def FnAll (P : Program) (T : Tab) : List (Nat × Func) → Prop
  | [] => True
  | p :: l => (P.funcs[p.1]? = some p.2 ∧ (p.2.name == "runtime.NumGoroutine") = false ∧ fnGood T p = true) ∧ FnAll P T l
theorem FnAll.of {P : Program} {T : Tab} : ∀ {l : List (Nat × Func)}, FnAll P T l → ∀ p ∈ l, P.funcs[p.1]? = some p.2 ∧ (p.2.name == "runtime.NumGoroutine") = false ∧ fnGood T p = true
  | [], _, p, hp => by cases hp
  | q :: l, h, p, hp => by
    rcases List.mem_cons.1 hp with rfl | hp
    · exact h.1
    · exact h.2.of p hp
def eqAll (P : Program) (l : Lists) : Bool := l.eqs.all fun t => (match look l.tis t with | some i => eqOk P 40 t i.shape | none => true) && !P.eqGuardType P.depth t

theorem tab_ok {P : Program} {l : Lists} (h1 : (l.tis.all fun p => tiOk P l.tab p.1 p.2) = true) (h2 : FnAll P l.tab l.fns) (h3 : eqAll P l = true) (h4 : P.follows .mixedOrders = true) : TabOK P l.tab where
  ti := fun t i h => List.all_eq_true.1 h1 (t, i) (look_mem h)
  fn := fun f fn h => let ⟨a, b, _⟩ := h2.of (f, fn) (look_mem h); ⟨a, b⟩
  eq := fun t i ht hi => by
    have := List.all_eq_true.1 h3 t (memN_mem ht)
    have hi' : look l.tis t = some i := hi
    simp only [hi', Bool.and_eq_true, Bool.not_eq_true'] at this
    exact this
  mixed := h4
  good := fun f fn c h hb => by
    have := (h2.of (f, fn) (look_mem h)).2.2
    simpa [fnGood, hb] using this
end Go.Abs
