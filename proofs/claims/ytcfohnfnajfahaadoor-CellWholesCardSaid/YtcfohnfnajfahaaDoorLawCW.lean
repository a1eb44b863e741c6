/-
CellWholes answers true.
-/
import Derived.Test.YtcfohnfnajfahaaDoorConA7
namespace Go.Abs.TA
open Go Go.Abs Go.Proofs

noncomputable def c_CellWholes : C_law08_CellWholes := { law08_fit := w_law08_fit, ref08_Style := w_ref08_Style, cell_Whole := w_cell_Whole, ref07_Wide := w_ref07_Wide, ref07_Right := w_ref07_Right }
/-- What the law asks of a cell. -/
def askAt (xs : List api_Cell) (i : Nat) (c : api_Cell) : Bool :=
  if c.Rune = 0 then paired xs ((i : Int) - 1) else okS c.Style && (rightR c.Rune && (!wide c.Rune || (match xs[i + 1]? with | some d => decide (d.Rune = 0) | none => false)))
def asks (xs : List api_Cell) : Nat → List api_Cell → Bool
  | _, [] => true
  | i, c :: cs => askAt xs i c && asks xs (i + 1) cs
theorem asks_iff (xs : List api_Cell) : ∀ (i : Nat) (cs : List api_Cell), asks xs i cs = true ↔ ∀ j c, cs[j]? = some c → askAt xs (i + j) c = true
  | i, [] => by simp [asks]
  | i, c :: cs => by
    simp only [asks, Bool.and_eq_true, asks_iff xs (i + 1) cs]
    constructor
    · rintro ⟨h1, h2⟩ j d hj
      cases j with
      | zero => simp at hj; subst hj; exact h1
      | succ j =>
        simp at hj
        rw [show i + (j + 1) = i + 1 + j by omega]
        exact h2 j d hj
    · intro h
      refine ⟨h 0 c rfl, fun j d hj => ?_⟩
      rw [show i + 1 + j = i + (j + 1) by omega]
      exact h (j + 1) d (by simpa using hj)
theorem asks_whole (xs : List api_Cell) : asks xs 0 xs = whole xs := by
  rw [Bool.eq_iff_iff, asks_iff, whole_iff]
  simp only [Nat.zero_add]
  constructor
  · intro h i c hx
    have hi := h i c hx
    unfold askAt at hi
    unfold wholeAt
    by_cases h0 : c.Rune = 0
    · rw [if_pos h0] at hi ⊢; exact hi
    · rw [if_neg h0] at hi ⊢
      simp only [Bool.and_eq_true] at hi
      obtain ⟨h1, h2, h3⟩ := hi
      rw [show rightC c = true by unfold rightC; rw [h1, h2]; rfl, Bool.true_and]
      cases hw : wide c.Rune with
      | false => rfl
      | true =>
        rw [hw] at h3
        cases hx1 : xs[i + 1]? with
        | none => rw [hx1] at h3; cases h3
        | some d =>
          rw [hx1] at h3
          simp at h3
          have hd := h (i + 1) d hx1
          unfold askAt at hd
          rw [if_pos h3, paired_pred] at hd
          rw [paired_nat, hd]
          rfl
  · intro h i c hx
    have hi := h i c hx
    unfold wholeAt at hi
    unfold askAt
    by_cases h0 : c.Rune = 0
    · rw [if_pos h0] at hi ⊢; exact hi
    · rw [if_neg h0] at hi ⊢
      simp only [Bool.and_eq_true, rightC] at hi
      obtain ⟨⟨h1, h2⟩, h3⟩ := hi
      rw [h1, h2, Bool.true_and, Bool.true_and]
      cases hw : wide c.Rune with
      | false => rfl
      | true =>
        rw [hw, paired_nat] at h3
        simp at h3
        obtain ⟨a, _, _, h4⟩ := pairedN_iff.1 h3
        rw [h4]
        rfl
theorem CellWholes_loop {R : Type} {L : Nat} {l : Sl} {σ : Heap} {K : AVal → Heap → Option R} {xs : List api_Cell} (hl : l.Is eCell σ xs) (hw : WideOK σ) :
    ∀ (d i m : Nat) (want : Bool), i + d = xs.length → d < m → law08_CellWholes_L7 c_CellWholes L m l want (i : Int) σ K = K (.bool (whole xs == (want && asks xs i (xs.drop i)))) σ
  | d, i, 0, _, _, h => by omega
  | 0, i, m + 1, want, h, _ => by
    have p : c_CellWholes.cell_Whole = w_cell_Whole := rfl
    rw [law08_CellWholes_L7_eq, hl.n, lt_false (by omega), cond_false, List.drop_eq_nil_of_le (by omega), p, w_cell_Whole_eq hl hw, Option.bind_some, asks, Bool.and_true]
  | d + 1, i, m + 1, want, h, hm => by
    have hi : i < xs.length := by omega
    have hs := hl.small
    have hx := List.getElem?_eq_getElem hi
    obtain ⟨b, hb, f0, f1, f2, f3, f4, f5⟩ := cell_at hl hx
    have ih := fun want' => CellWholes_loop (L := L) (K := K) hl hw d (i + 1) m want' (by omega) (by omega)
    have p1 : c_CellWholes.ref08_Style = w_ref08_Style := rfl
    have p2 : c_CellWholes.ref07_Wide = w_ref07_Wide := rfl
    have p3 : c_CellWholes.ref07_Right = w_ref07_Right := rfl
    rw [law08_CellWholes_L7_eq]
    simp only [hl.n, dec0, lt_true hi, Bool.and_self, cond_true, hb, Option.bind_some, Int.toNat_natCast, f0, f1, f2, f3, f4, f5, int?, bool?, if_true, p1, p2, p3, w_ref08_Style, w_ref07_Wide, w_ref07_Right, wrap_i64_succ i (by omega), ih]
    rw [List.drop_eq_getElem_cons hi, asks, askAt]
    have es : (⟨xs[i].Style.Bold, xs[i].Style.Under, xs[i].Style.Turned, xs[i].Style.Fore, xs[i].Style.Back⟩ : api_Style) = xs[i].Style := rfl
    by_cases c0 : xs[i].Rune = 0
    · rw [if_pos c0, show (xs[i].Rune == 0) = true by simp [c0], cond_true]
      cases want with
      | false => rfl
      | true =>
        simp only [cond_true, Bool.true_and]
        cases i with
        | zero => rw [paired_neg]; rfl
        | succ k =>
          have hk : k < xs.length := by omega
          obtain ⟨b2, hb2, g0, g1, g2, g3, g4, g5⟩ := cell_at hl (List.getElem?_eq_getElem hk)
          rw [hb] at hb2
          injection hb2 with hb2
          subst hb2
          rw [show decide (((k + 1 : Nat) : Int) > 0) = true by simp, cond_true, show IntKind.i64.wrap (((k + 1 : Nat) : Int) - 1) = (k : Int) by rw [wrap_i64_of (by omega) (by omega)]; omega]
          simp only [dec0, lt_true hk, Bool.and_self, cond_true, Option.bind_some, Int.toNat_natCast, g0, g1, g2, g3, g4, g5, if_true, style_beq, paired_pred]
          have hp : pairedN xs k = (wide xs[k].Rune && decide (xs[k].Style = xs[k + 1].Style)) := by
            unfold pairedN
            rw [List.getElem?_eq_getElem hk, hx]
            show (wide xs[k].Rune && decide _) = _
            congr 1
            rw [decide_eq_decide]
            constructor
            · intro e; rw [e]
            · intro e; rw [e, ← c0]
          rw [hp]
          cases wide xs[k].Rune <;> simp only [cond_true, cond_false, Bool.true_and, Bool.false_and]
    · rw [if_neg c0, show (xs[i].Rune == 0) = false by simp [c0], cond_false]
      cases want with
      | false => cases wide xs[i].Rune <;> rfl
      | true =>
        simp only [cond_true, Bool.true_and]
        by_cases h1 : i + 1 < xs.length
        · have hx1 := List.getElem?_eq_getElem h1
          obtain ⟨b2, hb2, g0, _⟩ := cell_at hl hx1
          rw [hb] at hb2
          injection hb2 with hb2
          subst hb2
          simp only [lt_true h1, cond_true, g0, Option.bind_some, hx1, if_true]
          cases okS xs[i].Style <;> cases wide xs[i].Rune <;> cases rightR xs[i].Rune <;> first | rfl | (simp; done) | (simp; rfl)
        · simp only [lt_false h1, cond_false, List.getElem?_eq_none (show xs.length ≤ i + 1 by omega)]
          cases okS xs[i].Style <;> cases wide xs[i].Rune <;> cases rightR xs[i].Rune <;> first | rfl | (simp; done) | (simp; rfl)
theorem law_CellWholes (l : Sl) {σ : Heap} {xs : List api_Cell} (hn : l.n = xs.length) (hI : xs.length ≤ 1099511627776 → l.Is eCell σ xs) (hw : WideOK σ) :
    ∃ σ1, CallOK Tryd.prog T 6 [(tSl eCell.z).av l] σ (tBool.av true) σ1 := by
  have hK := K_law08_CellWholes c_CellWholes ok_law08_fit ok_ref08_Style ok_cell_Whole ok_ref07_Wide ok_ref07_Right
  have p1 : c_CellWholes.law08_fit = w_law08_fit := rfl
  have go : ∃ σ1, callC (R := AVal × Heap) T (O_law08_CellWholes c_CellWholes) (xs.length + 1) 2 6 [.slice l.b l.o l.n 6] σ (fun v σ => some (v, σ)) = some (.bool true, σ1) := by
    rw [law08_CellWholes_eq, p1, w_law08_fit_eq hw, Option.bind_some, hn]
    simp only [Bool.not_true, cond_false]
    by_cases h1 : xs.length ≤ 100
    · rw [show decide ((xs.length : Int) > 100) = false by simp; omega, cond_false]
      have := CellWholes_loop (R := AVal × Heap) (L := xs.length + 1) (K := fun v σ => some (v, σ)) (hI (by omega)) hw xs.length 0 (xs.length + 1) true (by simp) (by omega)
      refine ⟨σ, this.trans ?_⟩
      rw [Bool.true_and, List.drop_zero, asks_whole, beq_self_eq_true]
    · rw [show decide ((xs.length : Int) > 100) = true by simp; omega, cond_true]
      exact ⟨_, rfl⟩
  obtain ⟨σ1, h⟩ := go
  exact ⟨σ1, call_ok ok hK h⟩
end Go.Abs.TA
