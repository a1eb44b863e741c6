/-
A row's arguments, as the abstract machine has them.
-/
import Derived.Test.YtcfohnfnajfahaaDoorAbs21
import Derived.Deep.Slices
import Derived.Lib.LaidTab
import Derived.Carry
import Derived.OpenShut
namespace Go.Abs
open Go Go.ChangeShapes Go.WideShapes Go.RowKit

def ShOK : Sh → AVal → Prop
  | .int k, x => ∃ n, x = .int k n ∧ (Lit.int k n).wf = true
  | .bool, x => ∃ b, x = .bool b
  | .str, x => ∃ s : ByteArray, x = .str s ∧ s.size ≤ maxLen
  | _, _ => False
def ShOKs : List Sh → List AVal → Prop
  | [], xs => xs = []
  | s :: ss, xs => ∃ x xs', xs = x :: xs' ∧ ShOK s x ∧ ShOKs ss xs'

theorem ShOKs.length : ∀ {ss : List Sh} {xs : List AVal}, ShOKs ss xs → xs.length = ss.length
  | [], _, h => by simp only [ShOKs] at h; subst h; rfl
  | s :: ss, _, h => by
    obtain ⟨x, xs', rfl, _, h⟩ := h
    simp [h.length]
theorem ShOKs.append : ∀ {ss : List Sh} {xs : List AVal} {ss' : List Sh} {ys : List AVal}, ShOKs ss xs → ShOKs ss' ys → ShOKs (ss ++ ss') (xs ++ ys)
  | [], _, ss', ys, h, h' => by simp only [ShOKs] at h; subst h; exact h'
  | s :: ss, _, ss', ys, h, h' => by
    obtain ⟨x, xs', rfl, h1, h⟩ := h
    exact ⟨x, xs' ++ ys, rfl, h1, h.append h'⟩
theorem ShOKs.cells : ∀ {ss : List Sh} {xs : List AVal}, ShOKs ss xs → ∀ {ρ : Mp} {lm : Lp} {vs : List Value}, VRels ρ lm xs vs → ∀ v ∈ vs, v.oneCell' = true
  | [], _, h, ρ, lm, vs, hv, v, hm => by simp only [ShOKs] at h; subst h; simp only [VRels] at hv; subst hv; cases hm
  | s :: ss, _, h, ρ, lm, vs, hv, v, hm => by
    obtain ⟨x, xs', rfl, h1, h⟩ := h
    simp only [VRels] at hv
    obtain ⟨u, us, rfl, r1, r2⟩ := hv
    rcases List.mem_cons.1 hm with rfl | hm
    · unfold ShOK at h1
      split at h1
      · obtain ⟨n, rfl, _⟩ := h1; simp only [VRel] at r1; subst r1; rfl
      · obtain ⟨n, rfl⟩ := h1; simp only [VRel] at r1; subst r1; rfl
      · obtain ⟨n, rfl, _⟩ := h1; simp only [VRel] at r1; subst r1; rfl
      · exact h1.elim
    · exact h.cells r2 v hm
theorem ShOK.any {s : Sh} {x : AVal} (h : ShOK s x) {ρ ρ' : Mp} {lm lm' : Lp} {v : Value} (hv : VRel ρ lm x v) : VRel ρ' lm' x v := by
  unfold ShOK at h
  split at h
  · obtain ⟨n, rfl, _⟩ := h; simpa only [VRel] using hv
  · obtain ⟨n, rfl⟩ := h; simpa only [VRel] using hv
  · obtain ⟨n, rfl, _⟩ := h; simpa only [VRel] using hv
  · exact h.elim
theorem ShOKs.any : ∀ {ss : List Sh} {xs : List AVal}, ShOKs ss xs → ∀ {ρ ρ' : Mp} {lm lm' : Lp} {vs : List Value}, VRels ρ lm xs vs → VRels ρ' lm' xs vs
  | [], _, h, _, _, _, _, vs, hv => by simp only [ShOKs] at h; subst h; simpa only [VRels] using hv
  | s :: ss, _, h, _, _, _, _, vs, hv => by
    obtain ⟨x, xs', rfl, h1, h⟩ := h
    simp only [VRels] at hv ⊢
    obtain ⟨u, us, rfl, r1, r2⟩ := hv
    exact ⟨u, us, rfl, h1.any r1, h.any r2⟩

section
variable {P : Program} {H : Type} {enc : TypeId × Value → H} {W : World} {base : Nat} {sp : Nat → Bool} {hd : Bool}

mutual
theorem flat_open : ∀ (n : Nat) (t : TypeId) (ss : List Sh), eqOk P n t ss = true → ∀ {fuel : Nat} {cs : List Value} {x : DataW H × List MemPlace}, DataW.trod enc P W base sp hd fuel t cs = some x →
    ∃ xs, VRels (fun _ => none) noL xs cs ∧ ShOKs ss xs
  | 0, t, ss, h, _, _, _, _ => by simp [eqOk] at h
  | n + 1, t, ss, h, fuel, cs, x, hx => by
    unfold eqOk at h
    split at h
    · rename_i k i k' hu hi
      simp only [Bool.and_eq_true, decide_eq_true_eq] at h
      obtain ⟨_, rfl⟩ := h
      obtain ⟨m, rfl, _, hw⟩ := DataW.trod_int hu hx
      exact ⟨[.int k m], by simp [VRels, VRel], ⟨_, _, rfl, ⟨m, rfl, hw⟩, rfl⟩⟩
    · rename_i i hu hi
      obtain ⟨b, rfl, _⟩ := DataW.trod_bool hu hx
      exact ⟨[.bool b], by simp [VRels, VRel], ⟨_, _, rfl, ⟨b, rfl⟩, rfl⟩⟩
    · rename_i i hu hi
      cases fuel with
      | zero => simp [DataW.trod] at hx
      | succ fuel =>
        simp only [DataW.trod, hu] at hx
        split at hx
        all_goals first
          | (simp_all; done)
          | (simp_all; rename_i s; exact ⟨[.str s], by simp [VRels, VRel], ⟨_, _, rfl, ⟨s, rfl, hx.1⟩, rfl⟩⟩)
    · rename_i ss _ _ _ fs i hu hi
      simp only [Bool.and_eq_true, decide_eq_true_eq] at h
      obtain ⟨⟨_, hsz⟩, hfs⟩ := h
      cases fuel with
      | zero => simp [DataW.trod] at hx
      | succ fuel =>
        simp only [DataW.trod, hu] at hx
        split at hx
        · rename_i hl
          obtain ⟨ys, hm, _⟩ := Option.map_eq_some_iff.1 hx
          have hc : P.cellsOf t = i.size := by simp [Program.cellsOf, hi]
          obtain ⟨xs, r1, r2⟩ := flat_fields n fs.toList 0 ss hfs (cs := cs) (by omega) hm
          exact ⟨xs, by simpa using r1, r2⟩
        · cases hx
    · cases h
theorem flat_fields : ∀ (n : Nat) (fs : List Field) (o : Nat) (ss : List Sh), eqFs P n fs o ss = true → ∀ {fuel : Nat} {cs : List Value} {ys : List (DataW H × List MemPlace)}, cs.length = o + ss.length →
    (fs.mapM fun f => DataW.trod enc P W base sp hd fuel f.type ((cs.drop f.offset).take (P.cellsOf f.type))) = some ys → ∃ xs, VRels (fun _ => none) noL xs (cs.drop o) ∧ ShOKs ss xs
  | n, [], o, ss, h, fuel, cs, ys, hl, _ => by
    unfold eqFs at h
    simp only [List.isEmpty_iff] at h
    subst h
    refine ⟨[], ?_, rfl⟩
    rw [List.drop_of_length_le (by simp at hl; omega)]
    simp [VRels]
  | 0, f :: fs, o, ss, h, _, _, _, _, _ => by simp [eqFs] at h
  | n + 1, f :: fs, o, ss, h, fuel, cs, ys, hl, hm => by
    simp only [eqFs, Bool.and_eq_true, decide_eq_true_eq] at h
    obtain ⟨⟨_, ho⟩, h⟩ := h
    split at h
    · rename_i i hi
      simp only [Bool.and_eq_true, decide_eq_true_eq] at h
      obtain ⟨⟨⟨h1, h2⟩, h3⟩, h4⟩ := h
      have hc : P.cellsOf f.type = i.size := by simp [Program.cellsOf, hi]
      simp only [List.mapM_cons, Option.bind_eq_bind, Option.bind_eq_some_iff, Option.pure_def, Option.some.injEq] at hm
      obtain ⟨y, hy, ys', hys, rfl⟩ := hm
      rw [ho, hc] at hy
      obtain ⟨xs1, a1, a2⟩ := flat_open n f.type (ss.take i.size) h3 hy
      obtain ⟨xs2, b1, b2⟩ := flat_fields n fs (o + i.size) (ss.drop i.size) h4 (cs := cs) (by simp; omega) hys
      refine ⟨xs1 ++ xs2, ?_, ?_⟩
      · have e : cs.drop o = (cs.drop o).take i.size ++ cs.drop (o + i.size) := by
          rw [← List.drop_drop, List.take_append_drop]
        rw [e]
        exact a1.append b1
      · have e : ss = ss.take i.size ++ ss.drop i.size := (List.take_append_drop _ _).symm
        rw [e]
        exact a2.append b2
    · cases h
end
end
end Go.Abs
