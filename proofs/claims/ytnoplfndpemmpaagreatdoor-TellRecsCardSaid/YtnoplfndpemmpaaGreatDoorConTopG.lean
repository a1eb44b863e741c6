/-
No function of the program starts a goroutine.
-/
import Derived.Test.YtnoplfndpemmpaaGreatDoorConTopV
import Derived.JoinedCond
namespace Go.Abs
open Go
theorem goes_none {P : Program} (h : P.funcs.any Func.goes = false) (c : OpenClaim) (hs : c.start = .entering) : c.goesBy P = false := by
  have h0 : ∀ (g : Nat) (fn : Func), P.funcs[g]? = some fn → fn.goes = false := fun g fn hg => by
    rw [Array.any_eq_false] at h
    obtain ⟨hlt, rfl⟩ := Array.getElem?_eq_some_iff.1 hg
    simpa using h g hlt
  have hf : ∀ f, P.goes f = false := fun f => by
    unfold Program.goes
    have h1 : ((P.closure f).any fun g => (P.funcs[g]?).any Func.goes) = false := by
      rw [Bool.eq_false_iff]
      intro hc
      simp only [List.any_eq_true] at hc
      obtain ⟨g, _, hg⟩ := hc
      cases hq : P.funcs[g]? with
      | none => rw [hq] at hg; cases hg
      | some fn => rw [hq] at hg; simp [h0 g fn hq] at hg
    rw [h1, h, Bool.and_false]
    rfl
  unfold OpenClaim.goesBy Program.goesAt Program.goesFrom
  rw [hs]
  cases P.funcNamed c.func with
  | none => rfl
  | some f => simp [hf]
end Go.Abs
namespace Go.Abs.TE
open Go Go.Proofs
theorem noGoes : Tryz.prog.funcs.any Func.goes = false := by kernel_rfl
end Go.Abs.TE
