/-
Contracts of cell's functions that go over lines.
-/
import Derived.Test.YtcfohnfnajfahaaDoorConA1
namespace Go.Abs.TA
open Go Go.Abs Go.Proofs

/-! ### Reading a cell -/
theorem cell_at {s : Sl} {σ : Heap} {xs : List api_Cell} (h : s.Is eCell σ xs) {i : Nat} {c : api_Cell} (hi : xs[i]? = some c) : ∃ b, s.b = some b ∧
    σ.cell? b (s.o + i * 6) = some (.int .i32 c.Rune) ∧ σ.cell? b (s.o + i * 6 + 1) = some (.bool c.Style.Bold) ∧ σ.cell? b (s.o + i * 6 + 2) = some (.bool c.Style.Under) ∧
    σ.cell? b (s.o + i * 6 + 3) = some (.bool c.Style.Turned) ∧ σ.cell? b (s.o + i * 6 + 4) = some (.int .i64 c.Style.Fore) ∧ σ.cell? b (s.o + i * 6 + 5) = some (.int .i64 c.Style.Back) := by
  obtain ⟨b, hb, hc⟩ := h.cell hi
  exact ⟨b, hb, hc 0 (by decide), hc 1 (by decide), hc 2 (by decide), hc 3 (by decide), hc 4 (by decide), hc 5 (by decide)⟩
theorem style_beq (a b : api_Style) : ((a.Bold == b.Bold) && ((a.Under == b.Under) && ((a.Turned == b.Turned) && (((a.Fore : Int) == b.Fore) && (((a.Back : Int) == b.Back) && true))))) = decide (a = b) := by
  obtain ⟨b0, b1, b2, f, k⟩ := a
  obtain ⟨b0', b1', b2', f', k'⟩ := b
  rw [Bool.eq_iff_iff]
  simp
theorem cell_beq (a b : api_Cell) : (((a.Rune : Int) == b.Rune) && ((a.Style.Bold == b.Style.Bold) && ((a.Style.Under == b.Style.Under) && ((a.Style.Turned == b.Style.Turned) && (((a.Style.Fore : Int) == b.Style.Fore) && (((a.Style.Back : Int) == b.Style.Back) && true)))))) = decide (a = b) := by
  rw [style_beq, Bool.eq_iff_iff]
  obtain ⟨r, s⟩ := a
  obtain ⟨r', s'⟩ := b
  simp
theorem and_idx {i n : Nat} (h : i < n) : (decide ((0 : Int) ≤ (i : Int)) && decide ((i : Int) < (n : Int))) = true := by simp; exact h
theorem dec0 (i : Nat) : decide ((0 : Int) ≤ (i : Int)) = true := by simp
theorem lt_true {i n : Nat} (h : i < n) : decide ((i : Int) < (n : Int)) = true := by simp; exact h
theorem lt_false {i n : Nat} (h : ¬ i < n) : decide ((i : Int) < (n : Int)) = false := by simp; omega

/-! ### slices.Clone -/
noncomputable def w_slices_Clone (s : Sl) (σ : Heap) : Option (Sl × Heap) := wOf (fun xs => s.Is eCell σ xs ∧ xs.length ≤ 1000000) fun xs => fresh eCell σ s.b.isNone xs
theorem w_slices_Clone_eq {s : Sl} {σ : Heap} {xs : List api_Cell} (h : s.Is eCell σ xs) (hl : xs.length ≤ 1000000) : w_slices_Clone s σ = some (fresh eCell σ s.b.isNone xs) :=
  wOf_eq ⟨h, hl⟩ fun y hy => by rw [hy.1.uniq (by decide) h]
theorem ok_slices_Clone : Ok_slices_Clone w_slices_Clone := fun s σ v σ' h => by
  obtain ⟨xs, ⟨hs, hl⟩, e⟩ := wOf_some h
  obtain ⟨rfl, rfl⟩ : v = (fresh eCell σ s.b.isNone xs).1 ∧ σ' = (fresh eCell σ s.b.isNone xs).2 := by rw [e]; exact ⟨rfl, rfl⟩
  cases hb : s.b with
  | none =>
    refine call_ok ok known0_ok (L := 0) (n := 2) ((slices_Clone_eq 0 s σ _).trans ?_)
    rw [hb]
    rfl
  | some b =>
    have hp : s.Is eCell (σ ++ [.row [] .rw]) xs := hs.pre (pre_push ..)
    obtain ⟨q, σ1, ha, ho, hk, hq⟩ := append_own (s := ⟨some σ.length, 0, 0⟩) (E := eCell) (σ := σ ++ [.row [] .rw]) (xs := []) (ys := xs) (.row σ.length rfl rfl rfl (get_push ..)) (bytes := 32) rfl rfl
      (by simp; omega) (by simp; omega)
    have hq0 : Option.isNone (some b) = q.1.isNone := by
      cases hq1 : q.1 with
      | some c => rfl
      | none =>
        cases xs with
        | nil =>
          simp [Heap.append] at ha
          rw [← ha.1] at hq1
          cases hq1
        | cons x xs =>
          cases ho with
          | nil _ _ _ hx => simp at hx
          | row b hb _ _ _ => rw [hq1] at hb; cases hb
    rw [← hb] at hq0 ⊢
    refine call_fresh (q := ⟨q.1, q.2.1, q.2.2⟩) (call_ok ok known0_ok (L := 0) (n := 2) (σ' := σ1) (v := .slice q.1 q.2.1 q.2.2 6) ((slices_Clone_eq 0 s σ _).trans ?_)) ho (fun b hb => ?_) (fun c hc => ?_) hq0
    · rw [hb]
      simp only [Option.isNone_some, cond_false, alloc]
      rw [← hb, show (6 : Nat) = eCell.z from rfl, hp.read, Option.bind_some, hs.n]
      rw [show (32 : Nat) = 32 from rfl, ha]
      rfl
    · rw [hk.at_ b (by simp; omega) (by simp; omega)]
      exact List.getElem?_append_left hb
    · rcases hq c hc with h | h
      · injection h with h; omega
      · simp at h; omega

/-! ### paired -/
def pairedN (xs : List api_Cell) (k : Nat) : Bool := match xs[k]?, xs[k + 1]? with
  | some a, some b => wide a.Rune && decide (b = ⟨0, a.Style⟩)
  | _, _ => false
def paired (xs : List api_Cell) (i : Int) : Bool := decide (0 ≤ i) && pairedN xs i.toNat
noncomputable def w_cell_paired (l : Sl) (i : Int) (σ : Heap) : Option (Bool × Heap) := wOf (fun xs => l.Is eCell σ xs ∧ WideOK σ ∧ i ≤ 1099511627776) fun xs => (paired xs i, σ)
theorem w_cell_paired_eq {s : Sl} {i : Int} {σ : Heap} {xs : List api_Cell} (h : s.Is eCell σ xs) (hw : WideOK σ) (hi : i ≤ 1099511627776) : w_cell_paired s i σ = some (paired xs i, σ) :=
  wOf_eq ⟨h, hw, hi⟩ fun y hy => by rw [hy.1.uniq (by decide) h]
noncomputable def c_cell_paired : C_cell_paired := ⟨w_glyph_Wide⟩
theorem ok_cell_paired : Ok_cell_paired w_cell_paired := fun s i σ v σ' h => by
  obtain ⟨xs, ⟨hs, hw, hi⟩, e⟩ := wOf_some h
  injection e with e1 e2
  subst e1; subst e2
  refine call_ok ok (K_cell_paired c_cell_paired ok_glyph_Wide) (L := 0) (n := 2) ((cell_paired_eq c_cell_paired 0 s i σ _).trans ?_)
  show _ = some (AVal.bool (paired xs i), σ)
  by_cases h0 : 0 ≤ i
  · obtain ⟨k, rfl⟩ := Int.eq_ofNat_of_zero_le h0
    have hk : k < 9223372036854775807 := by omega
    simp only [paired, ge_iff_le, h0, decide_true, cond_true, Bool.true_and, wrap_i64_succ k hk, hs.n, Int.toNat_natCast]
    by_cases h1 : k + 1 < xs.length
    · obtain ⟨b, hb, f0, f1, f2, f3, f4, f5⟩ := cell_at hs (List.getElem?_eq_getElem (show k < xs.length by omega))
      obtain ⟨b', hb', g0, g1, g2, g3, g4, g5⟩ := cell_at hs (List.getElem?_eq_getElem h1)
      rw [hb] at hb'
      injection hb' with hb'
      subst hb'
      have hkl : k < xs.length := by omega
      simp only [lt_true h1, lt_true hkl, cond_true, hb, Option.bind_some, f0, f1, f2, f3, f4, f5, g0, g1, g2, g3, g4, g5, int?, bool?, if_true, c_cell_paired, w_glyph_Wide_eq hw, Bool.and_self,
        show decide ((0 : Int) ≤ ((k + 1 : Nat) : Int)) = true by simp; omega, pairedN, List.getElem?_eq_getElem hkl, List.getElem?_eq_getElem h1]
      have e := cell_beq xs[k + 1] ⟨0, xs[k].Style⟩
      simp only at e
      rw [e]
      cases wide xs[k].Rune <;> rfl
    · rw [lt_false h1, cond_false]
      have : pairedN xs k = false := by
        unfold pairedN
        rw [List.getElem?_eq_none (show xs.length ≤ k + 1 by omega)]
        cases xs[k]? <;> rfl
      rw [this]
  · simp only [paired, ge_iff_le, h0, decide_false, cond_false, Bool.false_and]
end Go.Abs.TA
