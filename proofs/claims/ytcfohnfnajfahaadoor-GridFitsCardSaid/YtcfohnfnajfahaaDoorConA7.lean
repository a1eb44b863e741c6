/-
The contract of Whole; mended lines are whole.
-/
import Derived.Test.YtcfohnfnajfahaaDoorConA6
namespace Go.Abs.TA
open Go Go.Abs Go.Proofs

def wholeAt (xs : List api_Cell) (i : Nat) (c : api_Cell) : Bool := if c.Rune = 0 then paired xs ((i : Int) - 1) else rightC c && (!wide c.Rune || paired xs i)
def wholes (xs : List api_Cell) : Nat → List api_Cell → Bool
  | _, [] => true
  | i, c :: cs => wholeAt xs i c && wholes xs (i + 1) cs
def whole (xs : List api_Cell) : Bool := wholes xs 0 xs
theorem wholes_iff (xs : List api_Cell) : ∀ (i : Nat) (cs : List api_Cell), wholes xs i cs = true ↔ ∀ j c, cs[j]? = some c → wholeAt xs (i + j) c = true
  | i, [] => by simp [wholes]
  | i, c :: cs => by
    simp only [wholes, Bool.and_eq_true, wholes_iff xs (i + 1) cs]
    constructor
    · rintro ⟨h1, h2⟩ j d hj
      cases j with
      | zero => simp at hj; subst hj; exact h1
      | succ j =>
        simp at hj
        rw [show i + (j + 1) = i + 1 + j by omega]
        exact h2 j d hj
    · intro h
      refine ⟨h 0 c rfl, fun j d hj => ?_⟩
      rw [show i + 1 + j = i + (j + 1) by omega]
      exact h (j + 1) d (by simpa using hj)
theorem whole_iff (xs : List api_Cell) : whole xs = true ↔ ∀ (j : Nat) (c : api_Cell), xs[j]? = some c → wholeAt xs j c = true := by
  unfold whole
  rw [wholes_iff]
  simp only [Nat.zero_add]

noncomputable def c_cell_Whole : C_cell_Whole := { cell_Right := w_cell_Right, cell_paired := w_cell_paired, glyph_Wide := w_glyph_Wide }
theorem cell_Whole_loop {R : Type} {L : Nat} {l : Sl} {σ : Heap} {K : AVal → Heap → Option R} {xs : List api_Cell} (hl : l.Is eCell σ xs) (hw : WideOK σ) :
    ∀ (d i m : Nat), i + d = xs.length → d < m → cell_Whole_L2 c_cell_Whole L m l (i : Int) σ K = K (.bool (wholes xs i (xs.drop i))) σ
  | d, i, 0, _, h => by omega
  | 0, i, m + 1, h, _ => by
    rw [cell_Whole_L2_eq, hl.n, lt_false (by omega), cond_false, List.drop_eq_nil_of_le (by omega)]
    rfl
  | d + 1, i, m + 1, h, hm => by
    have hi : i < xs.length := by omega
    have hs := hl.small
    obtain ⟨b, hb, f0, f1, f2, f3, f4, f5⟩ := cell_at hl (List.getElem?_eq_getElem hi)
    have ih := cell_Whole_loop (L := L) (K := K) hl hw d (i + 1) m (by omega) (by omega)
    have p1 : c_cell_Whole.cell_Right = w_cell_Right := rfl
    have p2 : c_cell_Whole.cell_paired = w_cell_paired := rfl
    have p3 : c_cell_Whole.glyph_Wide = w_glyph_Wide := rfl
    rw [cell_Whole_L2_eq]
    simp only [hl.n, dec0, lt_true hi, Bool.and_self, cond_true, hb, Option.bind_some, Int.toNat_natCast, f0, f1, f2, f3, f4, f5, int?, bool?, if_true, p1, p2, p3, w_glyph_Wide_eq hw, w_cell_Right, wrap_i64_succ i (by omega),
      wrap_i64_of (show -9223372036854775808 ≤ (i : Int) - 1 by omega) (by omega), w_cell_paired_eq hl hw (show (i : Int) - 1 ≤ 1099511627776 by omega), w_cell_paired_eq hl hw (show (i : Int) ≤ 1099511627776 by omega), ih]
    rw [List.drop_eq_getElem_cons hi, wholes, wholeAt]
    by_cases c0 : xs[i].Rune = 0
    · rw [if_pos c0, show (xs[i].Rune == 0) = true by simp [c0], cond_true]
      cases paired xs ((i : Int) - 1) <;> rfl
    · rw [if_neg c0, show (xs[i].Rune == 0) = false by simp [c0], cond_false]
      cases rightC xs[i] <;> cases wide xs[i].Rune <;> cases paired xs i <;> rfl
noncomputable def w_cell_Whole (l : Sl) (σ : Heap) : Option (Bool × Heap) := wOf (fun xs => l.Is eCell σ xs ∧ WideOK σ) fun xs => (whole xs, σ)
theorem w_cell_Whole_eq {l : Sl} {σ : Heap} {xs : List api_Cell} (h : l.Is eCell σ xs) (hw : WideOK σ) : w_cell_Whole l σ = some (whole xs, σ) :=
  wOf_eq ⟨h, hw⟩ fun y hy => by rw [hy.1.uniq (by decide) h]
theorem ok_cell_Whole : Ok_cell_Whole w_cell_Whole := fun s σ v σ' h => by
  obtain ⟨xs, ⟨hs, hw⟩, e⟩ := wOf_some h
  injection e with e1 e2
  subst e1; subst e2
  exact call_ok ok (K_cell_Whole c_cell_Whole ok_cell_Right ok_cell_paired ok_glyph_Wide) (L := xs.length + 1) (n := 2) ((cell_Whole_eq c_cell_Whole (xs.length + 1) s σ _).trans (cell_Whole_loop hs hw xs.length 0 (xs.length + 1) (by simp) (by omega)))

/-! ### Plain facts -/
/-- Cells that are right, or rests. -/
def Tamed (xs : List api_Cell) : Prop := ∀ c ∈ xs, okS c.Style = true ∧ (c.Rune = 0 ∨ rightR c.Rune = true)
theorem tamed_map (xs : List api_Cell) : Tamed (xs.map tameC) := by
  intro c hc
  obtain ⟨d, _, rfl⟩ := List.mem_map.1 hc
  constructor
  · simp only [tameC]
    split
    · assumption
    · decide
  · simp only [tameC]
    split
    · right; decide
    · rename_i h
      by_cases h0 : d.Rune = 0
      · exact .inl h0
      · right
        cases hr : rightR d.Rune with
        | true => rfl
        | false => exact absurd ⟨h0, hr⟩ h
theorem mend_get {xs : List api_Cell} {i : Nat} {c : api_Cell} (h : xs[i]? = some c) : (mend xs)[i]? = some (mendAt xs i c) := by
  simp [mend, List.getElem?_mapIdx, h]
theorem mend_get' {xs : List api_Cell} {i : Nat} {d : api_Cell} (h : (mend xs)[i]? = some d) : ∃ c, xs[i]? = some c ∧ d = mendAt xs i c := by
  rw [mend, List.getElem?_mapIdx] at h
  obtain ⟨c, h1, h2⟩ := Option.map_eq_some_iff.1 h
  exact ⟨c, h1, h2.symm⟩
theorem wide_ne {r : Int} (h : wide r = true) : r ≠ 0 ∧ r ≠ 32 := by
  constructor <;> (intro e; subst e; revert h; decide)
theorem pairedN_iff {xs : List api_Cell} {k : Nat} : pairedN xs k = true ↔ ∃ a, xs[k]? = some a ∧ wide a.Rune = true ∧ xs[k + 1]? = some ⟨0, a.Style⟩ := by
  unfold pairedN
  constructor
  · intro h
    split at h
    · rename_i a b h1 h2
      simp only [Bool.and_eq_true, decide_eq_true_eq] at h
      exact ⟨a, h1, h.1, by rw [h2, h.2]⟩
    · cases h
  · rintro ⟨a, h1, h2, h3⟩
    rw [h1, h3]
    simp [h2]
theorem mendAt_turned {xs : List api_Cell} {i : Nat} {c : api_Cell} : mendAt xs i c = c ∨ (mendAt xs i c = { c with Rune := 32 } ∧ ((c.Rune = 0 ∧ paired xs ((i : Int) - 1) = false) ∨ (wide c.Rune = true ∧ paired xs i = false))) := by
  unfold mendAt
  split
  · rename_i h; exact .inr ⟨rfl, h⟩
  · exact .inl rfl
theorem pairedN_mend (xs : List api_Cell) (k : Nat) : pairedN (mend xs) k = pairedN xs k := by
  rw [Bool.eq_iff_iff, pairedN_iff, pairedN_iff]
  constructor
  · rintro ⟨a, h1, h2, h3⟩
    obtain ⟨c, g1, g2⟩ := mend_get' h1
    obtain ⟨d, g3, g4⟩ := mend_get' h3
    rcases mendAt_turned (xs := xs) (i := k) (c := c) with h | ⟨h, _⟩
    · rcases mendAt_turned (xs := xs) (i := k + 1) (c := d) with h' | ⟨h', _⟩
      · rw [h] at g2
        rw [h'] at g4
        subst g2
        exact ⟨a, g1, h2, by rw [g3, g4]⟩
      · rw [h'] at g4
        have := congrArg api_Cell.Rune g4
        simp at this
    · rw [h] at g2
      rw [g2] at h2
      exact absurd rfl (wide_ne h2).2
  · rintro ⟨a, h1, h2, h3⟩
    have hp : pairedN xs k = true := pairedN_iff.2 ⟨a, h1, h2, h3⟩
    have e1 : mendAt xs k a = a := by
      unfold mendAt
      rw [if_neg]
      rw [paired_nat, hp]
      simp [(wide_ne h2).1]
    have e2 : mendAt xs (k + 1) ⟨0, a.Style⟩ = ⟨0, a.Style⟩ := by
      unfold mendAt
      rw [if_neg]
      rw [paired_pred, hp]
      simp [wide_zero]
    exact ⟨a, by rw [mend_get h1, e1], h2, by rw [mend_get h3, e2]⟩
theorem paired_mend (xs : List api_Cell) (i : Int) : paired (mend xs) i = paired xs i := by
  unfold paired
  rw [pairedN_mend]
theorem tamed_mend {xs : List api_Cell} (h : Tamed xs) : Tamed (mend xs) := by
  intro c hc
  obtain ⟨i, hi⟩ := List.mem_iff_getElem?.1 hc
  obtain ⟨d, g1, rfl⟩ := mend_get' hi
  have hd := h d (List.mem_of_getElem? g1)
  rcases mendAt_turned (xs := xs) (i := i) (c := d) with e | ⟨e, _⟩
  · rw [e]; exact hd
  · rw [e]; exact ⟨hd.1, .inr (show rightR 32 = true by decide)⟩
theorem whole_iff_mend {xs : List api_Cell} (h : Tamed xs) : whole xs = true ↔ mend xs = xs := by
  rw [whole_iff]
  constructor
  · intro hw
    apply List.ext_getElem?
    intro i
    cases hx : xs[i]? with
    | none => rw [List.getElem?_eq_none (by rw [mend_len]; exact List.getElem?_eq_none_iff.1 hx)]
    | some c =>
      rw [mend_get hx]
      have := hw i c hx
      unfold wholeAt at this
      congr 1
      unfold mendAt
      rw [if_neg]
      rintro (⟨h1, h2⟩ | ⟨h1, h2⟩)
      · rw [if_pos h1, h2] at this; cases this
      · rw [if_neg (wide_ne h1).1, h1, h2] at this; simp at this
  · intro hm i c hx
    have hc := h c (List.mem_of_getElem? hx)
    have e : mendAt xs i c = c := by
      have := mend_get hx
      rw [hm, hx] at this
      injection this with this
      exact this.symm
    unfold wholeAt
    have key : ¬ ((c.Rune = 0 ∧ paired xs ((i : Int) - 1) = false) ∨ (wide c.Rune = true ∧ paired xs i = false)) := by
      intro hk
      unfold mendAt at e
      rw [if_pos hk] at e
      have e2 := congrArg api_Cell.Rune e
      simp only at e2
      rcases hk with ⟨h1, _⟩ | ⟨h1, _⟩
      · rw [h1] at e2; cases e2
      · exact (wide_ne h1).2 e2.symm
    by_cases h0 : c.Rune = 0
    · rw [if_pos h0]
      cases hp : paired xs ((i : Int) - 1) with
      | true => rfl
      | false => exact absurd (.inl ⟨h0, hp⟩) key
    · rw [if_neg h0]
      have hr : rightC c = true := by
        unfold rightC
        rw [hc.1, hc.2.resolve_left h0]
        rfl
      rw [hr]
      cases hw : wide c.Rune with
      | false => rfl
      | true =>
        cases hp : paired xs i with
        | true => rfl
        | false => exact absurd (.inr ⟨hw, hp⟩) key
theorem mend_mend {xs : List api_Cell} : mend (mend xs) = mend xs := by
  apply List.ext_getElem?
  intro i
  cases hx : (mend xs)[i]? with
  | none => rw [List.getElem?_eq_none (by rw [mend_len]; exact List.getElem?_eq_none_iff.1 hx)]
  | some c =>
    rw [mend_get hx]
    congr 1
    obtain ⟨d, g1, rfl⟩ := mend_get' hx
    unfold mendAt
    split
    · simp [paired_mend, show wide 32 = false by decide]
    · rename_i h
      rw [paired_mend, paired_mend, if_neg h]
theorem whole_mend {xs : List api_Cell} (h : Tamed xs) : whole (mend xs) = true := (whole_iff_mend (tamed_mend h)).2 mend_mend
end Go.Abs.TA
