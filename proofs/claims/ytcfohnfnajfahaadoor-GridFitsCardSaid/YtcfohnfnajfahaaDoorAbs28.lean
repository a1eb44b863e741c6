/-
A list that a function makes for itself, and what was there ahead of it.
-/
import Derived.Test.YtcfohnfnajfahaaDoorAbs27
namespace Go.Abs
open Go
variable {α : Type}
/-- 'out' is the function's own, with these elements; all that was there first is as it was. -/
structure Mine (E : El α) (σ0 : Heap) (out : Sl) (σ : Heap) (ys : List α) : Prop where
  pre : σ0 <+: σ
  own : out.Own E σ ys
  new : ∀ c, out.b = some c → σ0.length ≤ c
section
variable {E : El α} {σ0 σ σ' : Heap} {out : Sl} {ys zs : List α}
theorem Kept.pre {s : Sl} (hp : σ0 <+: σ) (hk : Kept s σ σ') (hn : ∀ c, s.b = some c → σ0.length ≤ c) : σ0 <+: σ' := by
  have hl := hp.length_le
  refine pre_of_get (Nat.le_trans hl hk.len) fun b hb => ?_
  rw [hk.at_ b (by omega) fun h => by have := hn b h; omega]
  exact get_pre hp hb
theorem Mine.start (σ0 : Heap) : Mine E σ0 ⟨none, 0, 0⟩ σ0 [] := ⟨List.prefix_rfl, .nil rfl rfl rfl rfl, fun c h => by cases h⟩
theorem Mine.append (h : Mine E σ0 out σ ys) {bytes : Nat} {vs : List AVal} {k : Nat} (hv : vs = E.all zs) (hk : k = zs.length) (hb1 : (ys.length + zs.length) * bytes ≤ 70368744177664) (hb2 : ys.length + zs.length ≤ 70368744177664) :
    ∃ q σ', σ.append out.b out.o out.n E.z bytes vs k = some (q, σ') ∧ Mine E σ0 ⟨q.1, q.2.1, q.2.2⟩ σ' (ys ++ zs) := by
  obtain ⟨q, σ', h1, h2, h3, h4⟩ := append_own h.own hv hk hb1 hb2
  refine ⟨q, σ', h1, h3.pre h.pre h.new, h2, fun c hc => ?_⟩
  rcases h4 c hc with h5 | h5
  · exact h.new c h5
  · have := h.pre.length_le; omega
theorem Mine.step (h : Mine E σ0 out σ ys) (hp : σ <+: σ') : Mine E σ0 out σ' ys := ⟨h.pre.trans hp, h.own.pre hp, h.new⟩
theorem Own.some_of_ne {s : Sl} (h : s.Own E σ ys) (hy : ys ≠ []) : s.b.isNone = false := by
  cases h with
  | nil _ _ _ hx => exact absurd hx hy
  | row b hb _ _ _ => rw [hb]; rfl
theorem call_mine {P : Program} {T : Tab} {f : FuncId} {args : List AVal} {z : Nat} {σ1 : Heap} (h : CallOK P T f args σ0 (.slice out.b out.o out.n z) σ1) (hm : Mine E σ0 out σ1 ys) {nil : Bool} (hn : nil = out.b.isNone) :
    CallOK P T f args σ0 (.slice (fresh E σ0 nil ys).1.b (fresh E σ0 nil ys).1.o (fresh E σ0 nil ys).1.n z) (fresh E σ0 nil ys).2 :=
  call_fresh h hm.own (fun _ hb => get_pre hm.pre hb) hm.new hn
end
end Go.Abs
