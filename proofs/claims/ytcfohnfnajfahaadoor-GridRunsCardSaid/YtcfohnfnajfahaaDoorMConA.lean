/-
What the functions of cell and glyph compute, in plain Lean; their contracts.
Contracts of cell's functions that go over lines.
The function cell.Mend, and what fit needs.
Contracts: right runes and cells, the references' ones, fit.
Contracts of Tame, of the reference's Mend, of Whole.
Contracts of the reference's Mend, and of Whole.
The contract of Whole; mended lines are whole.
-/
import Derived.Test.YtcfohnfnajfahaaDoorEqA0
import Derived.Test.YtcfohnfnajfahaaDoorMAd
import Derived.Test.YtcfohnfnajfahaaDoorEqA1
namespace Go.Abs.TA
open Go Go.Abs Go.Proofs

/-! ### Elements -/
def eI64 : El Int := ⟨1, fun n => [.int .i64 n], fun _ => rfl, fun a b h => by simpa using h⟩
instance : El.Flat eI64 := ⟨fun _ => rfl⟩
def eCell : El api_Cell := ⟨6, api_Cell.cells, fun _ => rfl, fun a b h => by
  obtain ⟨r, b0, b1, b2, f, k⟩ := a
  obtain ⟨r', b0', b1', b2', f', k'⟩ := b
  simp [api_Cell.cells] at h
  obtain ⟨rfl, rfl, rfl, rfl, rfl, rfl⟩ := h
  rfl⟩
instance : El.Flat eCell := ⟨fun _ => rfl⟩

instance : DecidableEq api_Style := fun a b => decidable_of_iff (a.Bold = b.Bold ∧ a.Under = b.Under ∧ a.Turned = b.Turned ∧ a.Fore = b.Fore ∧ a.Back = b.Back) ⟨fun h => by
  obtain ⟨b0, b1, b2, f, k⟩ := a
  obtain ⟨b0', b1', b2', f', k'⟩ := b
  obtain ⟨h0, h1, h2, h3, h4⟩ := h
  simp only at h0 h1 h2 h3 h4
  rw [h0, h1, h2, h3, h4], fun h => by rw [h]; exact ⟨rfl, rfl, rfl, rfl, rfl⟩⟩
instance : DecidableEq api_Cell := fun a b => decidable_of_iff (a.Rune = b.Rune ∧ a.Style = b.Style) ⟨fun h => by
  obtain ⟨r, s⟩ := a
  obtain ⟨r', s'⟩ := b
  obtain ⟨h0, h1⟩ := h
  simp only at h0 h1
  rw [h0, h1], fun h => by rw [h]; exact ⟨rfl, rfl⟩⟩

/-! ### The table of wide runes -/
def wideInts : List Int := [4352, 4447, 11904, 42191, 44032, 55203, 63744, 64255, 65072, 65135, 65280, 65376, 65504, 65510, 127744, 128591, 131072, 262141]
def wideRow : List AVal := wideInts.map fun n => .int .i32 n
def WideOK (σ : Heap) : Prop := σ[0]? = some (.row wideRow .ro)
theorem WideOK.pre {σ σ' : Heap} (h : WideOK σ) (hp : σ <+: σ') : WideOK σ' := by
  unfold WideOK at h ⊢
  rw [get_pre hp (List.getElem?_eq_some_iff.1 h).1, h]
theorem WideOK.frz {σ : Heap} (h : WideOK σ) : WideOK σ.frz := by
  unfold WideOK at h ⊢
  simp [Heap.frz, List.getElem?_map, h, Blk.frz]
theorem WideOK.of_frz {σ : Heap} {cs : List AVal} (h : σ.frz.row? 0 = some cs) : σ.row? 0 = some cs := by rwa [Heap.row?_frz] at h
theorem WideOK.set {σ : Heap} (h : WideOK σ) {σ' : Heap} (hg : σ'[0]? = σ[0]?) : WideOK σ' := by
  unfold WideOK at h ⊢
  rw [hg, h]
theorem WideOK.cell {σ : Heap} (h : WideOK σ) (j : Nat) : σ.cell? 0 j = wideRow[j]? := by
  unfold Heap.cell?
  rw [row?_of h (by simp)]
  rfl

/-! ### Styles -/
def okS (s : api_Style) : Bool := decide (0 ≤ s.Fore ∧ s.Fore ≤ 8 ∧ 0 ≤ s.Back ∧ s.Back ≤ 8)
def chg (s : api_Style) (n : Int) : api_Style :=
  if n = 0 then ⟨false, false, false, 0, 0⟩ else
  if n = 1 then { s with Bold := true } else if n = 22 then { s with Bold := false } else
  if n = 4 then { s with Under := true } else if n = 24 then { s with Under := false } else
  if n = 7 then { s with Turned := true } else if n = 27 then { s with Turned := false } else
  if 30 ≤ n ∧ n ≤ 37 then { s with Fore := n - 29 } else
  if n = 39 then { s with Fore := 0 } else
  if 40 ≤ n ∧ n ≤ 47 then { s with Back := n - 39 } else
  if n = 49 then { s with Back := 0 } else s
def chgs (s : api_Style) (l : List Int) : api_Style := if l = [] then chg s 0 else l.foldl chg s

def w_cell_Style (s : api_Style) (σ : Heap) : Option (Bool × Heap) := some (okS s, σ)
theorem ok_cell_Style : Ok_cell_Style w_cell_Style := fun s σ v σ' h => by
  injection h with h; injection h with h1 h2; subst h1; subst h2
  refine call_ok ok known0_ok (L := 0) (n := 2) ((cell_Style_eq 0 s σ _).trans ?_)
  show _ = some (AVal.bool (okS s), σ)
  simp only [okS, cond_eq_ite, decide_eq_true_eq]
  repeat' split
  all_goals (simp only [Option.some.injEq, Prod.mk.injEq, AVal.bool.injEq, and_true]; first | (symm; rw [decide_eq_false_iff_not]; omega) | (rw [decide_eq_decide]; omega))

def w_cell_change (s : api_Style) (n : Int) (σ : Heap) : Option (api_Style × Heap) := some (chg s n, σ)
theorem ok_cell_change : Ok_cell_change w_cell_change := fun s n σ v σ' h => by
  injection h with h; injection h with h1 h2; subst h1; subst h2
  refine call_ok ok known0_ok (L := 0) (n := 2) ((cell_change_eq 0 s n σ _).trans ?_)
  simp only [cond_eq_ite, decide_eq_true_eq, beq_iff_eq, ge_iff_le]
  show _ = some (AVal.agg (chg s n).cells, σ)
  by_cases h0 : n = 0
  · subst h0; rfl
  by_cases h1 : n = 1
  · subst h1; rfl
  by_cases h2 : n = 22
  · subst h2; rfl
  by_cases h3 : n = 4
  · subst h3; rfl
  by_cases h4 : n = 24
  · subst h4; rfl
  by_cases h5 : n = 7
  · subst h5; rfl
  by_cases h6 : n = 27
  · subst h6; rfl
  by_cases h7 : n = 39
  · subst h7; rfl
  by_cases h8 : n = 49
  · subst h8; rfl
  unfold chg
  simp only [h0, h1, h2, h3, h4, h5, h6, h7, h8, if_false]
  by_cases g1 : 30 ≤ n
  · by_cases g2 : n ≤ 37
    · simp only [g1, g2, and_self, if_true, wrap_i64_of (show -9223372036854775808 ≤ n - 29 by omega) (by omega)]
      rfl
    · by_cases g3 : 40 ≤ n
      · by_cases g4 : n ≤ 47
        · simp only [g1, g2, g3, g4, and_self, and_false, if_true, if_false, wrap_i64_of (show -9223372036854775808 ≤ n - 39 by omega) (by omega)]
          rfl
        · simp only [g1, g2, g3, g4, and_false, if_true, if_false]
          rfl
      · simp only [g1, g2, g3, and_false, false_and, if_true, if_false]
        rfl
  · have g3 : ¬ 40 ≤ n := by omega
    simp only [g1, g3, false_and, if_false]
    rfl

theorem i64_cell {s : Sl} {σ : Heap} {l : List Int} (h : s.Is eI64 σ l) {i : Nat} {x : Int} (hi : l[i]? = some x) : ∃ b, s.b = some b ∧ σ.cell? b (s.o + i * 1) = some (.int .i64 x) := by
  obtain ⟨b, hb, hc⟩ := h.cell hi
  exact ⟨b, hb, hc 0 (by decide)⟩

def c_cell_Change : C_cell_Change := ⟨w_cell_change⟩
theorem cell_Change_loop {R : Type} {L : Nat} {p : Sl} {σ : Heap} {K : AVal → Heap → Option R} {l : List Int} (hp : p.Is eI64 σ l) :
    ∀ (d i : Nat) (s : api_Style) (m : Nat), i + d = l.length → d < m → cell_Change_L4 c_cell_Change L m p (l.length : Int) (i : Int) s σ K = K (.agg ((l.drop i).foldl chg s).cells) σ
  | d, i, s, 0, _, h => by omega
  | 0, i, s, m + 1, h, _ => by
    rw [cell_Change_L4_eq]
    have e : l.drop i = [] := List.drop_eq_nil_of_le (by omega)
    rw [e, show decide ((i : Int) < (l.length : Int)) = false by simp; omega]
    rfl
  | d + 1, i, s, m + 1, h, hm => by
    rw [cell_Change_L4_eq]
    have hi : i < l.length := by omega
    obtain ⟨b, hb, hc⟩ := i64_cell hp (List.getElem?_eq_getElem hi)
    have hs := hp.small
    simp only [hp.n, show decide ((i : Int) < (l.length : Int)) = true by simp; omega, show decide ((0 : Int) ≤ (i : Int)) = true by simp, Bool.and_self, cond_true, hb, Option.bind_some, Int.toNat_natCast, hc, int?, if_true, c_cell_Change, w_cell_change, wrap_i64_succ i (by omega)]
    rw [List.drop_eq_getElem_cons hi, List.foldl_cons]
    exact cell_Change_loop hp d (i + 1) (chg s l[i]) m (by omega) (by omega)

noncomputable def w_cell_Change (s : api_Style) (p : Sl) (σ : Heap) : Option (api_Style × Heap) := wOf (fun l => p.Is eI64 σ l) fun l => (chgs s l, σ)
theorem w_cell_Change_eq {s : api_Style} {p : Sl} {σ : Heap} {l : List Int} (h : p.Is eI64 σ l) : w_cell_Change s p σ = some (chgs s l, σ) :=
  wOf_eq h fun y hy => by rw [hy.uniq (by decide) h]
theorem ok_cell_Change : Ok_cell_Change w_cell_Change := fun s p σ v σ' h => by
  obtain ⟨l, hl, e⟩ := wOf_some h
  injection e with e1 e2
  subst e1; subst e2
  have hK := K_cell_Change c_cell_Change ok_cell_change
  cases l with
  | nil =>
    refine call_gc0 (call_ok ok hK (L := 2) (n := 2) (σ' := σ ++ [.row [.int .i64 0] .rw]) (v := t_api_Style.av (chgs s [])) ((cell_Change_eq c_cell_Change 2 s p σ _).trans ?_)) (fun b hb => List.getElem?_append_left hb) (by simp [t_api_Style, tStruct, api_Style.cells, AVal.refs, refss])
    simp only [hl.n, List.length_nil, beq_self_eq_true, Int.natCast_zero, cond_true, alloc]
    exact cell_Change_loop (l := [0]) (p := ⟨some σ.length, 0, 1⟩) (Sl.Is.new (E := eI64) (xs := [0]) (by decide)) 1 0 s 2 rfl (by omega)
  | cons x l =>
    refine call_ok ok hK (L := l.length + 2) (n := 2) ((cell_Change_eq c_cell_Change (l.length + 2) s p σ _).trans ?_)
    rw [hl.n, show (((x :: l).length : Int) == 0) = false by simp; omega, cond_false]
    exact cell_Change_loop hl (x :: l).length 0 s _ (by simp) (by simp)

/-! ### glyph -/
def wide (r : Int) : Bool := decide (r ≠ 12351) && (decide (4352 ≤ r ∧ r ≤ 4447) || decide (11904 ≤ r ∧ r ≤ 42191) || decide (44032 ≤ r ∧ r ≤ 55203) || decide (63744 ≤ r ∧ r ≤ 64255) || decide (65072 ≤ r ∧ r ≤ 65135) ||
  decide (65280 ≤ r ∧ r ≤ 65376) || decide (65504 ≤ r ∧ r ≤ 65510) || decide (127744 ≤ r ∧ r ≤ 128591) || decide (131072 ≤ r ∧ r ≤ 262141))
theorem wide_iff (r : Int) : wide r = true ↔ r ≠ 12351 ∧ ((4352 ≤ r ∧ r ≤ 4447) ∨ (11904 ≤ r ∧ r ≤ 42191) ∨ (44032 ≤ r ∧ r ≤ 55203) ∨ (63744 ≤ r ∧ r ≤ 64255) ∨ (65072 ≤ r ∧ r ≤ 65135) ∨ (65280 ≤ r ∧ r ≤ 65376) ∨ (65504 ≤ r ∧ r ≤ 65510) ∨ (127744 ≤ r ∧ r ≤ 128591) ∨ (131072 ≤ r ∧ r ≤ 262141)) := by
  unfold wide
  simp only [Bool.and_eq_true, Bool.or_eq_true, decide_eq_true_eq, or_assoc]
noncomputable def w_glyph_Wide (r : Int) (σ : Heap) : Option (Bool × Heap) := wIf (WideOK σ) (wide r, σ)
theorem w_glyph_Wide_eq {r : Int} {σ : Heap} (h : WideOK σ) : w_glyph_Wide r σ = some (wide r, σ) := wIf_eq h
theorem ite_kb {c : Prop} [Decidable c] {a b : Bool} {σ : Heap} : (if c then some (AVal.bool a, σ) else some (AVal.bool b, σ)) = some (AVal.bool (if c then a else b), σ) := by split <;> rfl
theorem ite_iff {c : Prop} [Decidable c] {a b : Bool} : (if c then a else b) = true ↔ (c ∧ a = true) ∨ (¬ c ∧ b = true) := by
  split <;> simp_all
theorem some_bool {a b : Bool} {σ : Heap} (h : a = b) : some (AVal.bool a, σ) = some (AVal.bool b, σ) := by rw [h]
set_option maxRecDepth 10000 in
theorem ok_glyph_Wide : Ok_glyph_Wide w_glyph_Wide := fun r σ v σ' h => by
  obtain ⟨hw, e⟩ := wIf_some h
  injection e with e1 e2
  subst e1; subst e2
  refine call_ok ok known0_ok (L := 10) (n := 2) ((glyph_Wide_eq 0 r σ _).trans ?_)
  simp only [hw.cell, wideRow, wideInts, List.map_cons, List.map_nil, List.getElem?_cons_zero, List.getElem?_cons_succ, int?, if_true, Option.bind_some]
  show _ = some (AVal.bool (wide r), σ)
  simp only [cond_eq_ite, beq_iff_eq, decide_eq_true_eq, ite_kb]
  refine some_bool ?_
  rw [Bool.eq_iff_iff, wide_iff]
  simp only [ite_iff, Bool.false_eq_true, and_false, and_true, false_or, or_false]
  omega
end Go.Abs.TA
namespace Go.Abs.TA
open Go Go.Abs Go.Proofs

/-! ### Reading a cell -/
theorem cell_at {s : Sl} {σ : Heap} {xs : List api_Cell} (h : s.Is eCell σ xs) {i : Nat} {c : api_Cell} (hi : xs[i]? = some c) : ∃ b, s.b = some b ∧
    σ.cell? b (s.o + i * 6) = some (.int .i32 c.Rune) ∧ σ.cell? b (s.o + i * 6 + 1) = some (.bool c.Style.Bold) ∧ σ.cell? b (s.o + i * 6 + 2) = some (.bool c.Style.Under) ∧
    σ.cell? b (s.o + i * 6 + 3) = some (.bool c.Style.Turned) ∧ σ.cell? b (s.o + i * 6 + 4) = some (.int .i64 c.Style.Fore) ∧ σ.cell? b (s.o + i * 6 + 5) = some (.int .i64 c.Style.Back) := by
  obtain ⟨b, hb, hc⟩ := h.cell hi
  exact ⟨b, hb, hc 0 (by decide), hc 1 (by decide), hc 2 (by decide), hc 3 (by decide), hc 4 (by decide), hc 5 (by decide)⟩
theorem style_beq (a b : api_Style) : ((a.Bold == b.Bold) && ((a.Under == b.Under) && ((a.Turned == b.Turned) && (((a.Fore : Int) == b.Fore) && (((a.Back : Int) == b.Back) && true))))) = decide (a = b) := by
  obtain ⟨b0, b1, b2, f, k⟩ := a
  obtain ⟨b0', b1', b2', f', k'⟩ := b
  rw [Bool.eq_iff_iff]
  simp
theorem cell_beq (a b : api_Cell) : (((a.Rune : Int) == b.Rune) && ((a.Style.Bold == b.Style.Bold) && ((a.Style.Under == b.Style.Under) && ((a.Style.Turned == b.Style.Turned) && (((a.Style.Fore : Int) == b.Style.Fore) && (((a.Style.Back : Int) == b.Style.Back) && true)))))) = decide (a = b) := by
  rw [style_beq, Bool.eq_iff_iff]
  obtain ⟨r, s⟩ := a
  obtain ⟨r', s'⟩ := b
  simp
theorem and_idx {i n : Nat} (h : i < n) : (decide ((0 : Int) ≤ (i : Int)) && decide ((i : Int) < (n : Int))) = true := by simp; exact h
theorem dec0 (i : Nat) : decide ((0 : Int) ≤ (i : Int)) = true := by simp
theorem lt_true {i n : Nat} (h : i < n) : decide ((i : Int) < (n : Int)) = true := by simp; exact h
theorem lt_false {i n : Nat} (h : ¬ i < n) : decide ((i : Int) < (n : Int)) = false := by simp; omega

/-! ### slices.Clone -/
noncomputable def w_slices_Clone (s : Sl) (σ : Heap) : Option (Sl × Heap) := wOf (fun xs => s.Is eCell σ xs ∧ xs.length ≤ 1000000) fun xs => fresh eCell σ s.b.isNone xs
theorem w_slices_Clone_eq {s : Sl} {σ : Heap} {xs : List api_Cell} (h : s.Is eCell σ xs) (hl : xs.length ≤ 1000000) : w_slices_Clone s σ = some (fresh eCell σ s.b.isNone xs) :=
  wOf_eq ⟨h, hl⟩ fun y hy => by rw [hy.1.uniq (by decide) h]
theorem ok_slices_Clone : Ok_slices_Clone w_slices_Clone := fun s σ v σ' h => by
  obtain ⟨xs, ⟨hs, hl⟩, e⟩ := wOf_some h
  obtain ⟨rfl, rfl⟩ : v = (fresh eCell σ s.b.isNone xs).1 ∧ σ' = (fresh eCell σ s.b.isNone xs).2 := by rw [e]; exact ⟨rfl, rfl⟩
  cases hb : s.b with
  | none =>
    refine call_ok ok known0_ok (L := 0) (n := 2) ((slices_Clone_eq 0 s σ _).trans ?_)
    rw [hb]
    rfl
  | some b =>
    have hp : s.Is eCell (σ ++ [.row [] .rw]) xs := hs.pre (pre_push ..)
    obtain ⟨q, σ1, ha, ho, hk, hq⟩ := append_own (s := ⟨some σ.length, 0, 0⟩) (E := eCell) (σ := σ ++ [.row [] .rw]) (xs := []) (ys := xs) (.row σ.length rfl rfl rfl (get_push ..)) (bytes := 32) rfl rfl
      (by simp; omega) (by simp; omega)
    have hq0 : Option.isNone (some b) = q.1.isNone := by
      cases hq1 : q.1 with
      | some c => rfl
      | none =>
        cases xs with
        | nil =>
          simp [Heap.append] at ha
          rw [← ha.1] at hq1
          cases hq1
        | cons x xs =>
          cases ho with
          | nil _ _ _ hx => simp at hx
          | row b hb _ _ _ => rw [hq1] at hb; cases hb
    rw [← hb] at hq0 ⊢
    refine call_fresh (q := ⟨q.1, q.2.1, q.2.2⟩) (call_ok ok known0_ok (L := 0) (n := 2) (σ' := σ1) (v := .slice q.1 q.2.1 q.2.2 6) ((slices_Clone_eq 0 s σ _).trans ?_)) ho (fun b hb => ?_) (fun c hc => ?_) hq0
    · rw [hb]
      simp only [Option.isNone_some, cond_false, alloc]
      rw [← hb, show (6 : Nat) = eCell.z from rfl, hp.read, Option.bind_some, hs.n]
      rw [show (32 : Nat) = 32 from rfl, ha]
      rfl
    · rw [hk.at_ b (by simp; omega) (by simp; omega)]
      exact List.getElem?_append_left hb
    · rcases hq c hc with h | h
      · injection h with h; omega
      · simp at h; omega

/-! ### paired -/
def pairedN (xs : List api_Cell) (k : Nat) : Bool := match xs[k]?, xs[k + 1]? with
  | some a, some b => wide a.Rune && decide (b = ⟨0, a.Style⟩)
  | _, _ => false
def paired (xs : List api_Cell) (i : Int) : Bool := decide (0 ≤ i) && pairedN xs i.toNat
noncomputable def w_cell_paired (l : Sl) (i : Int) (σ : Heap) : Option (Bool × Heap) := wOf (fun xs => l.Is eCell σ xs ∧ WideOK σ ∧ i ≤ 1099511627776) fun xs => (paired xs i, σ)
theorem w_cell_paired_eq {s : Sl} {i : Int} {σ : Heap} {xs : List api_Cell} (h : s.Is eCell σ xs) (hw : WideOK σ) (hi : i ≤ 1099511627776) : w_cell_paired s i σ = some (paired xs i, σ) :=
  wOf_eq ⟨h, hw, hi⟩ fun y hy => by rw [hy.1.uniq (by decide) h]
noncomputable def c_cell_paired : C_cell_paired := ⟨w_glyph_Wide⟩
theorem ok_cell_paired : Ok_cell_paired w_cell_paired := fun s i σ v σ' h => by
  obtain ⟨xs, ⟨hs, hw, hi⟩, e⟩ := wOf_some h
  injection e with e1 e2
  subst e1; subst e2
  refine call_ok ok (K_cell_paired c_cell_paired ok_glyph_Wide) (L := 0) (n := 2) ((cell_paired_eq c_cell_paired 0 s i σ _).trans ?_)
  show _ = some (AVal.bool (paired xs i), σ)
  by_cases h0 : 0 ≤ i
  · obtain ⟨k, rfl⟩ := Int.eq_ofNat_of_zero_le h0
    have hk : k < 9223372036854775807 := by omega
    simp only [paired, ge_iff_le, h0, decide_true, cond_true, Bool.true_and, wrap_i64_succ k hk, hs.n, Int.toNat_natCast]
    by_cases h1 : k + 1 < xs.length
    · obtain ⟨b, hb, f0, f1, f2, f3, f4, f5⟩ := cell_at hs (List.getElem?_eq_getElem (show k < xs.length by omega))
      obtain ⟨b', hb', g0, g1, g2, g3, g4, g5⟩ := cell_at hs (List.getElem?_eq_getElem h1)
      rw [hb] at hb'
      injection hb' with hb'
      subst hb'
      have hkl : k < xs.length := by omega
      simp only [lt_true h1, lt_true hkl, cond_true, hb, Option.bind_some, f0, f1, f2, f3, f4, f5, g0, g1, g2, g3, g4, g5, int?, bool?, if_true, c_cell_paired, w_glyph_Wide_eq hw, Bool.and_self,
        show decide ((0 : Int) ≤ ((k + 1 : Nat) : Int)) = true by simp; omega, pairedN, List.getElem?_eq_getElem hkl, List.getElem?_eq_getElem h1]
      have e := cell_beq xs[k + 1] ⟨0, xs[k].Style⟩
      simp only at e
      rw [e]
      cases wide xs[k].Rune <;> rfl
    · rw [lt_false h1, cond_false]
      have : pairedN xs k = false := by
        unfold pairedN
        rw [List.getElem?_eq_none (show xs.length ≤ k + 1 by omega)]
        cases xs[k]? <;> rfl
      rw [this]
  · simp only [paired, ge_iff_le, h0, decide_false, cond_false, Bool.false_and]
end Go.Abs.TA
namespace Go.Abs.TA
open Go Go.Abs Go.Proofs

theorem store_rune {s : Sl} {σ : Heap} {ys : List api_Cell} (h : s.Own eCell σ ys) {i : Nat} {y : api_Cell} (hi : ys[i]? = some y) (r : Int) :
    ∃ b σ', s.b = some b ∧ σ.store b (s.o + i * 6) [.int .i32 r] = some σ' ∧ s.Own eCell σ' (ys.set i { y with Rune := r }) ∧ σ'.length = σ.length ∧ ∀ b', b' ≠ b → σ'[b']? = σ[b']? := by
  have hlt := (List.getElem?_eq_some_iff.1 hi).1
  have hb : ∃ b, s.b = some b ∧ s.o = 0 := by
    cases h with
    | nil _ _ _ hx => subst hx; simp at hi
    | row b hb ho _ _ => exact ⟨b, hb, ho⟩
  obtain ⟨b, hb, ho⟩ := hb
  have e := eCell.all_set ys hi { y with Rune := r } [] [.int .i32 y.Rune] [.bool y.Style.Bold, .bool y.Style.Under, .bool y.Style.Turned, .int .i64 y.Style.Fore, .int .i64 y.Style.Back] rfl (vs := [.int .i32 r]) rfl rfl (j := 0) rfl
  obtain ⟨σ', h1, h2, h3, h4⟩ := store_own h hb (o := i * 6) (vs := [.int .i32 r]) e (by simp) (by show i * 6 + 1 ≤ ys.length * 6; omega)
  exact ⟨b, σ', hb, by rw [ho, Nat.zero_add]; exact h1, h2, h3, h4⟩

def mendAt (xs : List api_Cell) (i : Nat) (c : api_Cell) : api_Cell := if (c.Rune = 0 ∧ paired xs ((i : Int) - 1) = false) ∨ (wide c.Rune = true ∧ paired xs i = false) then { c with Rune := 32 } else c
def mend (xs : List api_Cell) : List api_Cell := xs.mapIdx (mendAt xs)
def mendTo (xs : List api_Cell) (k : Nat) : List api_Cell := xs.mapIdx fun i c => if i < k then mendAt xs i c else c
theorem mendTo_zero (xs : List api_Cell) : mendTo xs 0 = xs := by
  apply List.ext_getElem?
  intro i
  simp [mendTo]
theorem mendTo_all (xs : List api_Cell) : mendTo xs xs.length = mend xs := by
  apply List.ext_getElem?
  intro i
  simp only [mendTo, mend, List.getElem?_mapIdx]
  cases h : xs[i]? with
  | none => rfl
  | some c => simp [(List.getElem?_eq_some_iff.1 h).1]
theorem mendTo_get (xs : List api_Cell) {i : Nat} {c : api_Cell} (h : xs[i]? = some c) : (mendTo xs i)[i]? = some c := by
  simp [mendTo, List.getElem?_mapIdx, h]
theorem mendTo_len (xs : List api_Cell) (k : Nat) : (mendTo xs k).length = xs.length := by simp [mendTo]
theorem mendTo_succ (xs : List api_Cell) {i : Nat} {c : api_Cell} (h : xs[i]? = some c) : mendTo xs (i + 1) = (mendTo xs i).set i (mendAt xs i c) := by
  apply List.ext_getElem?
  intro j
  simp only [mendTo, List.getElem?_set, List.getElem?_mapIdx, List.length_mapIdx]
  by_cases hj : i = j
  · subst hj
    have h' := (List.getElem?_eq_some_iff.1 h).2
    simp [(List.getElem?_eq_some_iff.1 h).1, h']
  · rw [if_neg hj]
    cases hx : xs[j]? with
    | none => rfl
    | some d =>
      simp only [Option.map_some]
      by_cases h1 : j < i
      · simp [h1, show j < i + 1 by omega]
      · simp [h1, show ¬ j < i + 1 by omega]
theorem mendTo_stay (xs : List api_Cell) {i : Nat} {c : api_Cell} (h : xs[i]? = some c) (hc : mendAt xs i c = c) : mendTo xs (i + 1) = mendTo xs i := by
  rw [mendTo_succ xs h, hc]
  exact List.ext_getElem? fun j => by
    rw [List.getElem?_set]
    split
    · rename_i e; subst e
      split
      · rw [mendTo_get xs h]
      · rename_i hl; rw [List.getElem?_eq_none (by omega)]
    · rfl

noncomputable def c_cell_Mend : C_cell_Mend := ⟨w_slices_Clone, w_cell_paired, w_glyph_Wide⟩
theorem cell_Mend_loop {R : Type} {L : Nat} {l out : Sl} {σ0 : Heap} {K : AVal → Heap → Option R} {xs : List api_Cell} (hl : l.Is eCell σ0 xs) (hw : WideOK σ0) (hnew : ∀ c, out.b = some c → σ0.length ≤ c) :
    ∀ (d i m : Nat) (σ : Heap), i + d = xs.length → d < m → σ0 <+: σ → out.Own eCell σ (mendTo xs i) →
      ∃ σ1, σ0 <+: σ1 ∧ out.Own eCell σ1 (mend xs) ∧ cell_Mend_L3 c_cell_Mend L m l out (i : Int) σ K = K (.slice out.b out.o out.n 6) σ1
  | d, i, 0, σ, _, h, _, _ => by omega
  | 0, i, m + 1, σ, h, _, hp, ho => by
    refine ⟨σ, hp, ?_, ?_⟩
    · rw [show i = xs.length by omega, mendTo_all] at ho; exact ho
    · rw [cell_Mend_L3_eq, hl.n, lt_false (by omega)]
      rfl
  | d + 1, i, m + 1, σ, h, hm, hp, ho => by
    have hi : i < xs.length := by omega
    have hx := List.getElem?_eq_getElem hi
    have hs := hl.small
    have hl' := hl.pre hp
    have hw' := hw.pre hp
    obtain ⟨b, hb, f0, f1, f2, f3, f4, f5⟩ := cell_at hl' hx
    have hon : out.n = xs.length := by rw [ho.len, mendTo_len]
    have stay : mendAt xs i xs[i] = xs[i] → ∃ σ1, σ0 <+: σ1 ∧ out.Own eCell σ1 (mend xs) ∧ cell_Mend_L3 c_cell_Mend L m l out ((i + 1 : Nat) : Int) σ K = K (.slice out.b out.o out.n 6) σ1 := fun hc =>
      cell_Mend_loop hl hw hnew d (i + 1) m σ (by omega) (by omega) hp (by rw [mendTo_stay xs hx hc]; exact ho)
    have turn : mendAt xs i xs[i] = { xs[i] with Rune := 32 } → ∃ b' σ' σ1, out.b = some b' ∧ σ.store b' (out.o + i * 6) [.int .i32 32] = some σ' ∧ σ0 <+: σ1 ∧ out.Own eCell σ1 (mend xs) ∧ cell_Mend_L3 c_cell_Mend L m l out ((i + 1 : Nat) : Int) σ' K = K (.slice out.b out.o out.n 6) σ1 := fun hc => by
      obtain ⟨b', σ', g1, g2, g3, g4, g5⟩ := store_rune ho (mendTo_get xs hx) 32
      have hlen := hp.length_le
      obtain ⟨σ1, k1, k2, k3⟩ := cell_Mend_loop (L := L) (K := K) hl hw hnew d (i + 1) m σ' (by omega) (by omega) (pre_of_get (by omega) fun c hc => by
        have := hnew b' g1
        rw [g5 c (by omega)]
        exact get_pre hp hc) (by rw [mendTo_succ xs hx, hc]; exact g3)
      exact ⟨b', σ', σ1, g1, g2, k1, k2, k3⟩
    have p1 : c_cell_Mend.cell_paired = w_cell_paired := rfl
    have p2 : c_cell_Mend.glyph_Wide = w_glyph_Wide := rfl
    rw [cell_Mend_L3_eq]
    simp only [hl.n, dec0, lt_true hi, lt_true (show i < out.n by omega), Bool.and_self, cond_true, hb, Option.bind_some, Int.toNat_natCast, f0, f1, f2, f3, f4, f5, int?, bool?, if_true, p1, p2, w_glyph_Wide_eq hw', wrap_i64_succ i (by omega),
      wrap_i64_of (show -9223372036854775808 ≤ (i : Int) - 1 by omega) (by omega), w_cell_paired_eq hl' hw' (show (i : Int) - 1 ≤ 1099511627776 by omega), w_cell_paired_eq hl' hw' (show (i : Int) ≤ 1099511627776 by omega)]
    by_cases c1 : xs[i].Rune = 0
    · have hwz : wide xs[i].Rune = false := by rw [c1]; decide
      rw [show (xs[i].Rune == 0) = true by simp [c1]]
      simp only [cond_true, hwz, cond_false]
      cases c2 : paired xs ((i : Int) - 1) with
      | false =>
        obtain ⟨b', σ', σ1, g1, g2, k1, k2, k3⟩ := turn (by simp [mendAt, c1, c2])
        refine ⟨σ1, k1, k2, ?_⟩
        simp only [Bool.not_false, cond_true, g1, Option.bind_some, g2]
        rw [← g1]
        exact k3
      | true =>
        simp only [Bool.not_true, cond_false]
        exact stay (by simp [mendAt, c1, c2]; intro h; rw [show wide 0 = false by decide] at h; cases h)
    · rw [show (xs[i].Rune == 0) = false by simp [c1]]
      simp only [cond_false]
      cases c3 : wide xs[i].Rune with
      | true =>
        simp only [cond_true]
        cases c2 : paired xs i with
        | false =>
          obtain ⟨b', σ', σ1, g1, g2, k1, k2, k3⟩ := turn (by simp [mendAt, c1, c2, c3])
          refine ⟨σ1, k1, k2, ?_⟩
          simp only [Bool.not_false, cond_true, g1, Option.bind_some, g2]
          rw [← g1]
          exact k3
        | true =>
          simp only [Bool.not_true, cond_false]
          exact stay (by simp [mendAt, c1, c2])
      | false =>
        simp only [cond_false]
        exact stay (by simp [mendAt, c1, c3])

noncomputable def w_cell_Mend (s : Sl) (σ : Heap) : Option (Sl × Heap) := wOf (fun xs => s.Is eCell σ xs ∧ xs.length ≤ 1000000 ∧ WideOK σ) fun xs => fresh eCell σ s.b.isNone (mend xs)
theorem w_cell_Mend_eq {s : Sl} {σ : Heap} {xs : List api_Cell} (h : s.Is eCell σ xs) (hl : xs.length ≤ 1000000) (hw : WideOK σ) : w_cell_Mend s σ = some (fresh eCell σ s.b.isNone (mend xs)) :=
  wOf_eq ⟨h, hl, hw⟩ fun y hy => by rw [hy.1.uniq (by decide) h]
theorem fresh_isNone {α : Type} (E : El α) (σ : Heap) (nil : Bool) (ys : List α) : (fresh E σ nil ys).1.b.isNone = nil := by cases nil <;> rfl
theorem Is_nil_of {α : Type} {s : Sl} {E : El α} {σ : Heap} {xs : List α} (h : s.Is E σ xs) (hn : s.b.isNone = true) : xs = [] := by
  rcases h.at_ with ⟨_, _, h⟩ | ⟨b, _, hb, _⟩
  · exact h
  · rw [hb] at hn; cases hn
theorem ok_cell_Mend : Ok_cell_Mend w_cell_Mend := fun s σ v σ' h => by
  obtain ⟨xs, ⟨hs, hl, hw⟩, e⟩ := wOf_some h
  obtain ⟨rfl, rfl⟩ : v = (fresh eCell σ s.b.isNone (mend xs)).1 ∧ σ' = (fresh eCell σ s.b.isNone (mend xs)).2 := by rw [e]; exact ⟨rfl, rfl⟩
  have hn := Is_nil_of hs
  obtain ⟨σ1, k1, k2, k3⟩ := cell_Mend_loop (R := AVal × Heap) (L := xs.length + 1) (K := fun v σ => some (v, σ)) hs hw (fresh_new eCell σ s.b.isNone xs) xs.length 0 (xs.length + 1) _ (by simp) (by omega) (fresh_pre ..)
    (by rw [mendTo_zero]; exact fresh_own eCell σ s.b.isNone xs hn)
  refine call_fresh (call_ok ok (K_cell_Mend c_cell_Mend ok_slices_Clone ok_cell_paired ok_glyph_Wide) (L := xs.length + 1) (n := 2) ((cell_Mend_eq c_cell_Mend (xs.length + 1) s σ _).trans ?_)) k2 (fun b hb => get_pre k1 hb) (fresh_new eCell σ s.b.isNone xs) (fresh_isNone ..).symm
  show ((w_slices_Clone s σ).bind _) = _
  rw [w_slices_Clone_eq hs hl, Option.bind_some]
  exact k3
end Go.Abs.TA
namespace Go.Abs.TA
open Go Go.Abs Go.Proofs

def rightR (r : Int) : Bool := decide (32 ≤ r ∧ r ≤ 1114111 ∧ r ≠ 127 ∧ (r < 55296 ∨ 57343 < r))
def w_glyph_Right (r : Int) (σ : Heap) : Option (Bool × Heap) := some (rightR r, σ)
theorem ok_glyph_Right : Ok_glyph_Right w_glyph_Right := fun r σ v σ' h => by
  injection h with h; injection h with h1 h2; subst h1; subst h2
  refine call_ok ok known0_ok (L := 0) (n := 2) ((glyph_Right_eq 0 r σ _).trans ?_)
  show _ = some (AVal.bool (rightR r), σ)
  simp only [cond_eq_ite, decide_eq_true_eq, bne_iff_ne, ite_kb]
  refine some_bool ?_
  rw [Bool.eq_iff_iff]
  simp only [ite_iff, rightR, decide_eq_true_eq, Bool.false_eq_true, and_false, and_true, or_false]
  omega
def rightC (c : api_Cell) : Bool := rightR c.Rune && okS c.Style
def w_cell_Right (c : api_Cell) (σ : Heap) : Option (Bool × Heap) := some (rightC c, σ)
def c_cell_Right : C_cell_Right := ⟨w_cell_Style, w_glyph_Right⟩
theorem ok_cell_Right : Ok_cell_Right w_cell_Right := fun c σ v σ' h => by
  injection h with h; injection h with h1 h2; subst h1; subst h2
  refine call_ok ok (K_cell_Right c_cell_Right ok_cell_Style ok_glyph_Right) (L := 0) (n := 2) ((cell_Right_eq c_cell_Right 0 c σ _).trans ?_)
  show _ = some (AVal.bool (rightC c), σ)
  simp only [c_cell_Right, w_cell_Style, w_glyph_Right, Option.bind_some, rightC]
  cases rightR c.Rune <;> rfl
def w_cell_Blank (s : api_Style) (σ : Heap) : Option (api_Cell × Heap) := some (⟨32, ⟨false, false, false, 0, s.Back⟩⟩, σ)
theorem ok_cell_Blank : Ok_cell_Blank w_cell_Blank := fun s σ v σ' h => by
  injection h with h; injection h with h1 h2; subst h1; subst h2
  exact call_ok ok known0_ok (L := 0) (n := 2) (cell_Blank_eq 0 s σ _)

/-! ### fit -/
noncomputable def w_law08_fit (σ : Heap) : Option (Bool × Heap) := wIf (WideOK σ) (true, σ)
theorem w_law08_fit_eq {σ : Heap} (h : WideOK σ) : w_law08_fit σ = some (true, σ) := wIf_eq h
noncomputable def c_law08_fit : C_law08_fit := { cell_Change := w_cell_Change, cell_Mend := w_cell_Mend, cell_Right := w_cell_Right, cell_Blank := w_cell_Blank }
theorem ok_law08_fit : Ok_law08_fit w_law08_fit := fun σ v σ' h => by
  obtain ⟨hw, e⟩ := wIf_some h
  injection e with e1 e2
  subst e1; subst e2
  have p1 : c_law08_fit.cell_Change = w_cell_Change := rfl
  have p2 : c_law08_fit.cell_Mend = w_cell_Mend := rfl
  have p3 : c_law08_fit.cell_Right = w_cell_Right := rfl
  have p4 : c_law08_fit.cell_Blank = w_cell_Blank := rfl
  have q1 : σ <+: σ ++ [.row [.int .i64 1, .int .i64 31] .rw] := pre_push ..
  have q2 := q1.trans (pre_push (σ ++ [.row [.int .i64 1, .int .i64 31] .rw]) (.row [.int .i32 97, .bool false, .bool false, .bool false, .int .i64 0, .int .i64 0] .rw))
  refine call_gc0 (call_ok ok (K_law08_fit c_law08_fit ok_cell_Change ok_cell_Mend ok_cell_Right ok_cell_Blank) (L := 0) (n := 2) (v := tBool.av true) (σ' := (fresh eCell ((σ ++ [.row [.int .i64 1, .int .i64 31] .rw]) ++ [.row [.int .i32 97, .bool false, .bool false, .bool false, .int .i64 0, .int .i64 0] .rw]) false (mend [⟨97, ⟨false, false, false, 0, 0⟩⟩])).2) ((law08_fit_eq c_law08_fit 0 σ _).trans ?_)) (fun b hb => get_pre (q2.trans (fresh_pre ..)) hb) trivial
  simp only [alloc, p1, p2, p3, p4, w_cell_Blank, w_cell_Right, Option.bind_some]
  have hC : w_cell_Change ⟨false, false, false, 0, 0⟩ ⟨some σ.length, 0, 2⟩ (σ ++ [.row [.int .i64 1, .int .i64 31] .rw]) = some (chgs ⟨false, false, false, 0, 0⟩ [1, 31], σ ++ [.row [.int .i64 1, .int .i64 31] .rw]) :=
    w_cell_Change_eq (l := [1, 31]) (Sl.Is.new (E := eI64) (xs := [1, 31]) (by decide))
  have hM : ∀ τ : Heap, WideOK τ → w_cell_Mend ⟨some τ.length, 0, 1⟩ (τ ++ [.row [.int .i32 97, .bool false, .bool false, .bool false, .int .i64 0, .int .i64 0] .rw]) = some (fresh eCell (τ ++ [.row [.int .i32 97, .bool false, .bool false, .bool false, .int .i64 0, .int .i64 0] .rw]) false (mend [⟨97, ⟨false, false, false, 0, 0⟩⟩])) := fun τ hτ =>
    w_cell_Mend_eq (xs := [⟨97, ⟨false, false, false, 0, 0⟩⟩]) (Sl.Is.new (E := eCell) (xs := [⟨97, ⟨false, false, false, 0, 0⟩⟩]) (by decide)) (by decide) (hτ.pre (pre_push ..))
  rw [hC, Option.bind_some]
  rw [show chgs ⟨false, false, false, 0, 0⟩ [1, 31] = ⟨true, false, false, 2, 0⟩ by decide]
  simp only [cond_true, beq_self_eq_true]
  rw [show rightC { Rune := 32, Style := { Bold := false, Under := false, Turned := false, Fore := 0, Back := 0 } } = true by decide, cond_true]
  rw [hM _ (hw.pre q1), Option.bind_some]
  rfl

/-! ### The references -/
def w_ref08_Style (s : api_Style) (σ : Heap) : Option (Bool × Heap) := some (okS s, σ)
theorem ok_ref08_Style : Ok_ref08_Style w_ref08_Style := fun s σ v σ' h => by
  injection h with h; injection h with h1 h2; subst h1; subst h2
  refine call_ok ok known0_ok (L := 0) (n := 2) ((ref08_Style_eq 0 s σ _).trans ?_)
  show _ = some (AVal.bool (okS s), σ)
  simp only [cond_eq_ite, decide_eq_true_eq, ite_kb]
  refine some_bool ?_
  rw [Bool.eq_iff_iff]
  simp only [ite_iff, okS, decide_eq_true_eq, Bool.false_eq_true, and_false, or_false]
def w_ref07_among (r a b : Int) (σ : Heap) : Option (Bool × Heap) := some (decide (a ≤ r ∧ r ≤ b), σ)
theorem ok_ref07_among : Ok_ref07_among w_ref07_among := fun r a b σ v σ' h => by
  injection h with h; injection h with h1 h2; subst h1; subst h2
  refine call_ok ok known0_ok (L := 0) (n := 2) ((ref07_among_eq 0 r a b σ _).trans ?_)
  show _ = some (AVal.bool _, σ)
  simp only [cond_eq_ite, decide_eq_true_eq, ite_kb]
  refine some_bool ?_
  rw [Bool.eq_iff_iff]
  simp only [ite_iff, decide_eq_true_eq, Bool.false_eq_true, and_false, or_false]
def w_ref07_Right (r : Int) (σ : Heap) : Option (Bool × Heap) := some (rightR r, σ)
def c_ref07_Right : C_ref07_Right := ⟨w_ref07_among⟩
theorem ok_ref07_Right : Ok_ref07_Right w_ref07_Right := fun r σ v σ' h => by
  injection h with h; injection h with h1 h2; subst h1; subst h2
  refine call_ok ok (K_ref07_Right c_ref07_Right ok_ref07_among) (L := 0) (n := 2) ((ref07_Right_eq c_ref07_Right 0 r σ _).trans ?_)
  show _ = some (AVal.bool (rightR r), σ)
  simp only [c_ref07_Right, w_ref07_among, Option.bind_some, cond_eq_ite, decide_eq_true_eq, ite_kb]
  refine some_bool ?_
  rw [Bool.eq_iff_iff]
  simp only [ite_iff, rightR, decide_eq_true_eq, and_true]
  omega
def w_ref07_Wide (r : Int) (σ : Heap) : Option (Bool × Heap) := some (wide r, σ)
def c_ref07_Wide : C_ref07_Wide := ⟨w_ref07_among⟩
theorem ok_ref07_Wide : Ok_ref07_Wide w_ref07_Wide := fun r σ v σ' h => by
  injection h with h; injection h with h1 h2; subst h1; subst h2
  refine call_ok ok (K_ref07_Wide c_ref07_Wide ok_ref07_among) (L := 0) (n := 2) ((ref07_Wide_eq c_ref07_Wide 0 r σ _).trans ?_)
  show _ = some (AVal.bool (wide r), σ)
  simp only [c_ref07_Wide, w_ref07_among, Option.bind_some, cond_eq_ite, decide_eq_true_eq, ite_kb]
  refine some_bool ?_
  rw [Bool.eq_iff_iff, wide_iff]
  simp only [ite_iff, decide_eq_true_eq, and_true]
  omega

/-! ### Same -/
theorem law08_Same_loop {R : Type} {L : Nat} {a b : Sl} {σ : Heap} {K : AVal → Heap → Option R} {xs ys : List api_Cell} (ha : a.Is eCell σ xs) (hb : b.Is eCell σ ys) (hl : xs.length = ys.length) :
    ∀ (d i m : Nat), i + d = xs.length → d < m → law08_Same_L4 L m a b (i : Int) σ K = K (.bool (decide (xs.drop i = ys.drop i))) σ
  | d, i, 0, _, h => by omega
  | 0, i, m + 1, h, _ => by
    rw [law08_Same_L4_eq, ha.n, lt_false (by omega), cond_false, List.drop_eq_nil_of_le (by omega), List.drop_eq_nil_of_le (by omega)]
    rfl
  | d + 1, i, m + 1, h, hm => by
    have hi : i < xs.length := by omega
    have hi' : i < ys.length := by omega
    have hs := ha.small
    obtain ⟨b1, hb1, f0, f1, f2, f3, f4, f5⟩ := cell_at ha (List.getElem?_eq_getElem hi)
    obtain ⟨b2, hb2, g0, g1, g2, g3, g4, g5⟩ := cell_at hb (List.getElem?_eq_getElem hi')
    have ih := law08_Same_loop (L := L) (K := K) ha hb hl d (i + 1) m (by omega) (by omega)
    rw [law08_Same_L4_eq]
    simp only [ha.n, hb.n, dec0, lt_true hi, lt_true hi', Bool.and_self, cond_true, hb1, hb2, Option.bind_some, Int.toNat_natCast, f0, f1, f2, f3, f4, f5, g0, g1, g2, g3, g4, g5, int?, bool?, if_true, wrap_i64_succ i (by omega), cell_beq, ih]
    rw [List.drop_eq_getElem_cons hi, List.drop_eq_getElem_cons hi']
    by_cases e : xs[i] = ys[i]
    · simp only [e, decide_true, Bool.not_true, cond_false, List.cons.injEq, true_and]
    · simp only [e, decide_false, Bool.not_false, cond_true, List.cons.injEq, false_and]
noncomputable def w_law08_Same (a b : Sl) (σ : Heap) : Option (Bool × Heap) := wOf (fun p : List api_Cell × List api_Cell => a.Is eCell σ p.1 ∧ b.Is eCell σ p.2) fun p => (decide (p.1 = p.2), σ)
theorem w_law08_Same_eq {a b : Sl} {σ : Heap} {xs ys : List api_Cell} (ha : a.Is eCell σ xs) (hb : b.Is eCell σ ys) : w_law08_Same a b σ = some (decide (xs = ys), σ) :=
  wOf_eq (x := (xs, ys)) ⟨ha, hb⟩ fun y hy => by
    obtain ⟨y1, y2⟩ := y
    rw [show y1 = xs from hy.1.uniq (by decide) ha, show y2 = ys from hy.2.uniq (by decide) hb]
theorem ok_law08_Same : Ok_law08_Same w_law08_Same := fun a b σ v σ' h => by
  obtain ⟨⟨xs, ys⟩, ⟨ha, hb⟩, e⟩ := wOf_some h
  injection e with e1 e2
  subst e1; subst e2
  refine call_ok ok known0_ok (L := xs.length + 1) (n := 2) ((law08_Same_eq (xs.length + 1) a b σ _).trans ?_)
  show _ = some (AVal.bool (decide (xs = ys)), σ)
  by_cases hl : xs.length = ys.length
  · rw [ha.n, hb.n, hl, bne_self_eq_false, cond_false]
    have := law08_Same_loop (R := AVal × Heap) (L := ys.length + 1) (K := fun v σ => some (v, σ)) ha hb hl xs.length 0 (ys.length + 1) (by simp) (by omega)
    exact this
  · rw [ha.n, hb.n, show ((xs.length : Int) != (ys.length : Int)) = true by simp; omega, cond_true, decide_eq_false (fun e => hl (by rw [e]))]
end Go.Abs.TA
namespace Go.Abs.TA
open Go Go.Abs Go.Proofs

def tameC (c : api_Cell) : api_Cell := ⟨if c.Rune ≠ 0 ∧ rightR c.Rune = false then 120 else c.Rune, if okS c.Style = true then c.Style else ⟨false, false, false, 0, 0⟩⟩
def c_law08_Tame : C_law08_Tame := { ref08_Style := w_ref08_Style, ref07_Right := w_ref07_Right }
theorem law08_Tame_loop {R : Type} {L : Nat} {l : Sl} {σ0 : Heap} {K : AVal → Heap → Option R} {xs : List api_Cell} (hl : l.Is eCell σ0 xs) (hb : xs.length ≤ 1000000) :
    ∀ (d i m : Nat) (out : Sl) (σ : Heap), i + d = xs.length → d < m → Mine eCell σ0 out σ ((xs.take i).map tameC) → out.b.isNone = decide (i = 0) →
      ∃ out1 σ1, Mine eCell σ0 out1 σ1 (xs.map tameC) ∧ out1.b.isNone = decide (xs = []) ∧ law08_Tame_L3 c_law08_Tame L m out l (i : Int) σ K = K (.slice out1.b out1.o out1.n 6) σ1
  | d, i, 0, _, _, _, h, _, _ => by omega
  | 0, i, m + 1, out, σ, h, _, ho, hn => by
    refine ⟨out, σ, ?_, ?_, ?_⟩
    · rw [List.take_of_length_le (by omega)] at ho; exact ho
    · rw [hn]
      have : i = xs.length := by omega
      subst this
      cases xs <;> simp
    · rw [law08_Tame_L3_eq, hl.n, lt_false (by omega)]
      rfl
  | d + 1, i, m + 1, out, σ, h, hm, ho, hn => by
    have hi : i < xs.length := by omega
    have hx := List.getElem?_eq_getElem hi
    have hl' := hl.pre ho.pre
    obtain ⟨b, hb', f0, f1, f2, f3, f4, f5⟩ := cell_at hl' hx
    obtain ⟨q, σ', ha, hM⟩ := ho.append (zs := [tameC xs[i]]) (bytes := 32) (vs := (tameC xs[i]).cells) (k := 1) rfl rfl (by simp; omega) (by simp; omega)
    have e : (xs.take i).map tameC ++ [tameC xs[i]] = (xs.take (i + 1)).map tameC := by rw [List.take_succ_eq_append_getElem hi, List.map_append]; rfl
    rw [e] at hM
    obtain ⟨out1, σ1, k1, k2, k3⟩ := law08_Tame_loop (L := L) (K := K) hl hb d (i + 1) m ⟨q.1, q.2.1, q.2.2⟩ σ' (by omega) (by omega) hM (by
      rw [Own.some_of_ne hM.own (by rw [← e]; simp)]
      simp)
    refine ⟨out1, σ1, k1, k2, ?_⟩
    have p1 : c_law08_Tame.ref08_Style = w_ref08_Style := rfl
    have p2 : c_law08_Tame.ref07_Right = w_ref07_Right := rfl
    rw [law08_Tame_L3_eq]
    simp only [hl.n, dec0, lt_true hi, Bool.and_self, cond_true, hb', Option.bind_some, Int.toNat_natCast, f0, f1, f2, f3, f4, f5, int?, bool?, if_true, p1, p2, w_ref08_Style, w_ref07_Right, wrap_i64_succ i (by omega)]
    have fin : ∀ (r : Int) (b0 b1 b2 : Bool) (f k : Int), (⟨r, ⟨b0, b1, b2, f, k⟩⟩ : api_Cell) = tameC xs[i] → ((σ.append out.b out.o out.n 6 32 [.int .i32 r, .bool b0, .bool b1, .bool b2, .int .i64 f, .int .i64 k] 1).bind fun q =>
        law08_Tame_L3 c_law08_Tame L m ⟨q.1.1, q.1.2.1, q.1.2.2⟩ l ((i + 1 : Nat) : Int) q.2 K) = K (.slice out1.b out1.o out1.n 6) σ1 := fun r b0 b1 b2 f k hc => by
      rw [← hc] at ha
      have ha' : σ.append out.b out.o out.n 6 32 [.int .i32 r, .bool b0, .bool b1, .bool b2, .int .i64 f, .int .i64 k] 1 = some (q, σ') := ha
      rw [ha', Option.bind_some]
      exact k3
    cases c1 : okS xs[i].Style <;> cases c2 : (xs[i].Rune != 0) <;> cases c3 : rightR xs[i].Rune
    all_goals
      simp only [Bool.not_true, Bool.not_false, cond_true, cond_false]
      refine fin _ _ _ _ _ _ ?_
      simp at c2
      simp [tameC, c1, c2, c3]
noncomputable def w_law08_Tame (s : Sl) (σ : Heap) : Option (Sl × Heap) := wOf (fun xs => s.Is eCell σ xs ∧ xs.length ≤ 1000000) fun xs => fresh eCell σ (decide (xs = [])) (xs.map tameC)
theorem w_law08_Tame_eq {s : Sl} {σ : Heap} {xs : List api_Cell} (h : s.Is eCell σ xs) (hl : xs.length ≤ 1000000) : w_law08_Tame s σ = some (fresh eCell σ (decide (xs = [])) (xs.map tameC)) :=
  wOf_eq ⟨h, hl⟩ fun y hy => by rw [hy.1.uniq (by decide) h]
theorem ok_law08_Tame : Ok_law08_Tame w_law08_Tame := fun s σ v σ' h => by
  obtain ⟨xs, ⟨hs, hl⟩, e⟩ := wOf_some h
  obtain ⟨rfl, rfl⟩ : v = (fresh eCell σ (decide (xs = [])) (xs.map tameC)).1 ∧ σ' = (fresh eCell σ (decide (xs = [])) (xs.map tameC)).2 := by rw [e]; exact ⟨rfl, rfl⟩
  obtain ⟨out, σ1, k1, k2, k3⟩ := law08_Tame_loop (R := AVal × Heap) (L := xs.length + 1) (K := fun v σ => some (v, σ)) hs hl xs.length 0 (xs.length + 1) ⟨none, 0, 0⟩ σ (by simp) (by omega) (Mine.start σ) rfl
  exact call_mine (call_ok ok (K_law08_Tame c_law08_Tame ok_ref08_Style ok_ref07_Right) (L := xs.length + 1) (n := 2) ((law08_Tame_eq c_law08_Tame (xs.length + 1) s σ _).trans k3)) k1 k2.symm
end Go.Abs.TA
namespace Go.Abs.TA
open Go Go.Abs Go.Proofs

theorem mine_rune {σ0 σ : Heap} {out : Sl} {ys : List api_Cell} (h : Mine eCell σ0 out σ ys) {i : Nat} {y : api_Cell} (hi : ys[i]? = some y) (r : Int) :
    ∃ b σ', out.b = some b ∧ σ.store b (out.o + i * 6) [.int .i32 r] = some σ' ∧ Mine eCell σ0 out σ' (ys.set i { y with Rune := r }) := by
  obtain ⟨b, σ', h1, h2, h3, h4, h5⟩ := store_rune h.own hi r
  have hl := h.pre.length_le
  exact ⟨b, σ', h1, h2, pre_of_get (by omega) (fun c hc => by
    have := h.new b h1
    rw [h5 c (by omega)]
    exact get_pre h.pre hc), h3, h.new⟩
theorem wide_zero : wide 0 = false := by decide
theorem pairedN_wide {xs : List api_Cell} {k : Nat} {c : api_Cell} (h : xs[k]? = some c) (hw : wide c.Rune = false) : pairedN xs k = false := by
  unfold pairedN
  rw [h]
  cases xs[k + 1]? with
  | none => rfl
  | some d => simp [hw]
theorem paired_nat (xs : List api_Cell) (k : Nat) : paired xs (k : Int) = pairedN xs k := by simp [paired]
theorem paired_pred (xs : List api_Cell) (k : Nat) : paired xs ((k + 1 : Nat) - 1 : Int) = pairedN xs k := by
  rw [show ((k + 1 : Nat) : Int) - 1 = (k : Int) by omega, paired_nat]
theorem paired_neg (xs : List api_Cell) : paired xs ((0 : Nat) - 1 : Int) = false := by simp [paired]

def c_ref08_Mend : C_ref08_Mend := ⟨w_ref07_Wide⟩
theorem ref08_Mend_loop {R : Type} {L : Nat} {out : Sl} {σ0 : Heap} {K : AVal → Heap → Option R} {xs : List api_Cell} (hb : xs.length ≤ 1000000) :
    ∀ (d i m : Nat) (σ : Heap), i + d = xs.length → d < m → paired xs ((i : Int) - 1) = false → Mine eCell σ0 out σ (mendTo xs i) →
      ∃ σ1, Mine eCell σ0 out σ1 (mend xs) ∧ ref08_Mend_L3 c_ref08_Mend L m out (i : Int) σ K = K (.slice out.b out.o out.n 6) σ1
  | d, i, 0, _, _, h, _, _ => by omega
  | 0, i, m + 1, σ, h, _, _, ho => by
    have hon : out.n = xs.length := by rw [ho.own.len, mendTo_len]
    refine ⟨σ, ?_, ?_⟩
    · rw [show i = xs.length by omega, mendTo_all] at ho; exact ho
    · rw [ref08_Mend_L3_eq, lt_false (by omega)]
      rfl
  | d + 1, i, m + 1, σ, h, hm, hp, ho => by
    have hi : i < xs.length := by omega
    have hx := List.getElem?_eq_getElem hi
    have hon : out.n = xs.length := by rw [ho.own.len, mendTo_len]
    have hio : i < out.n := by omega
    have his := ho.own.is (by rw [mendTo_len]; omega)
    obtain ⟨b, hb', f0, f1, f2, f3, f4, f5⟩ := cell_at his (mendTo_get xs hx)
    have p1 : c_ref08_Mend.ref07_Wide = w_ref07_Wide := rfl
    have stay : pairedN xs i = false → mendAt xs i xs[i] = xs[i] → ∃ σ1, Mine eCell σ0 out σ1 (mend xs) ∧ ref08_Mend_L3 c_ref08_Mend L m out ((i + 1 : Nat) : Int) σ K = K (.slice out.b out.o out.n 6) σ1 := fun hn hc =>
      ref08_Mend_loop hb d (i + 1) m σ (by omega) (by omega) (by rw [paired_pred]; exact hn) (by rw [mendTo_stay xs hx hc]; exact ho)
    have turn : pairedN xs i = false → mendAt xs i xs[i] = { xs[i] with Rune := 32 } → ∃ σ' σ1, σ.store b (out.o + i * 6) [.int .i32 32] = some σ' ∧ Mine eCell σ0 out σ1 (mend xs) ∧ ref08_Mend_L3 c_ref08_Mend L m out ((i + 1 : Nat) : Int) σ' K = K (.slice out.b out.o out.n 6) σ1 := fun hn hc => by
      obtain ⟨b', σ', g1, g2, g3⟩ := mine_rune ho (mendTo_get xs hx) 32
      rw [hb'] at g1
      injection g1 with g1
      subst g1
      obtain ⟨σ1, k1, k2⟩ := ref08_Mend_loop (L := L) (K := K) hb d (i + 1) m σ' (by omega) (by omega) (by rw [paired_pred]; exact hn) (by rw [mendTo_succ xs hx, hc]; exact g3)
      exact ⟨σ', σ1, g2, k1, k2⟩
    rw [ref08_Mend_L3_eq]
    simp only [dec0, lt_true hio, Bool.and_self, cond_true, hb', Option.bind_some, Int.toNat_natCast, f0, f1, f2, f3, f4, f5, int?, bool?, if_true, p1, w_ref07_Wide, wrap_i64_succ i (by omega)]
    cases hw : wide xs[i].Rune with
    | false =>
      have hn := pairedN_wide hx hw
      simp only [cond_false]
      by_cases c0 : xs[i].Rune = 0
      · obtain ⟨σ', σ1, k0, k1, k2⟩ := turn hn (by simp [mendAt, c0, hp])
        refine ⟨σ1, k1, ?_⟩
        rw [show (xs[i].Rune == 0) = true by simp [c0], cond_true, k0, Option.bind_some]
        rw [hb'] at k2
        exact k2
      · obtain ⟨σ1, k1, k2⟩ := stay hn (by simp [mendAt, c0, hw])
        refine ⟨σ1, k1, ?_⟩
        rw [show (xs[i].Rune == 0) = false by simp [c0], cond_false]
        rw [hb'] at k2
        exact k2
    | true =>
      simp only [cond_true]
      have blank : pairedN xs i = false → mendAt xs i xs[i] = { xs[i] with Rune := 32 } := fun hn => by simp [mendAt, hw, paired_nat, hn]
      by_cases h1 : i + 1 < xs.length
      · have hx1 := List.getElem?_eq_getElem h1
        have hx1' : (mendTo xs i)[i + 1]? = some xs[i + 1] := by
          simp only [mendTo, List.getElem?_mapIdx, hx1, Option.map_some]
          rw [if_neg (by omega)]
        obtain ⟨b2, hb2, g0, g1, g2, g3, g4, g5⟩ := cell_at his hx1'
        rw [hb'] at hb2
        injection hb2 with hb2
        subst hb2
        simp only [lt_true (show i + 1 < out.n by omega), cond_true, g0, g1, g2, g3, g4, g5, Option.bind_some, if_true, style_beq]
        have hpn : pairedN xs i = decide (xs[i + 1] = ⟨0, xs[i].Style⟩) := by
          unfold pairedN
          rw [hx, hx1]
          show (wide xs[i].Rune && decide _) = _
          rw [hw, Bool.true_and]
        by_cases c0 : xs[i + 1].Rune = 0
        · by_cases c1 : xs[i + 1].Style = xs[i].Style
          · have hcell : xs[i + 1] = ⟨0, xs[i].Style⟩ := by
              rw [← c1, ← c0]
            have e1 : mendAt xs i xs[i] = xs[i] := by
              have : xs[i].Rune ≠ 0 := fun e => by rw [e, wide_zero] at hw; cases hw
              simp [mendAt, this, paired_nat, hpn, hcell]
            have e2 : mendAt xs (i + 1) xs[i + 1] = xs[i + 1] := by
              unfold mendAt
              rw [if_neg]
              rw [paired_pred, hpn, hcell]
              simp [wide_zero]
            obtain ⟨σ1, k1, k2⟩ := ref08_Mend_loop (L := L) (K := K) hb (d - 1) (i + 2) m σ (by omega) (by omega) (by rw [show ((i + 2 : Nat) : Int) = (i + 1 + 1 : Nat) by omega, paired_pred]; exact pairedN_wide hx1 (by rw [c0]; exact wide_zero))
              (by rw [mendTo_stay xs hx1 e2, mendTo_stay xs hx e1]; exact ho)
            refine ⟨σ1, k1, ?_⟩
            rw [show (xs[i + 1].Rune == 0) = true by simp [c0], cond_true, decide_eq_true c1, cond_true, wrap_i64_succ (i + 1) (by omega)]
            rw [hb'] at k2
            exact k2
          · have hn : pairedN xs i = false := by rw [hpn, decide_eq_false]; intro e; exact c1 (by rw [e])
            obtain ⟨σ', σ1, k0, k1, k2⟩ := turn hn (blank hn)
            refine ⟨σ1, k1, ?_⟩
            rw [show (xs[i + 1].Rune == 0) = true by simp [c0], cond_true, decide_eq_false c1, cond_false, k0, Option.bind_some]
            rw [hb'] at k2
            exact k2
        · have hn : pairedN xs i = false := by rw [hpn, decide_eq_false]; intro e; exact c0 (by rw [e])
          obtain ⟨σ', σ1, k0, k1, k2⟩ := turn hn (blank hn)
          refine ⟨σ1, k1, ?_⟩
          rw [show (xs[i + 1].Rune == 0) = false by simp [c0], cond_false, k0, Option.bind_some]
          rw [hb'] at k2
          exact k2
      · have hn : pairedN xs i = false := by
          unfold pairedN
          rw [List.getElem?_eq_none (show xs.length ≤ i + 1 by omega)]
          cases xs[i]? <;> rfl
        obtain ⟨σ', σ1, k0, k1, k2⟩ := turn hn (blank hn)
        refine ⟨σ1, k1, ?_⟩
        rw [lt_false (show ¬ i + 1 < out.n by omega), cond_false, k0, Option.bind_some]
        rw [hb'] at k2
        exact k2

noncomputable def w_ref08_Mend (s : Sl) (σ : Heap) : Option (Sl × Heap) := wOf (fun xs => s.Is eCell σ xs ∧ xs.length ≤ 1000000) fun xs => fresh eCell σ (decide (xs = [])) (mend xs)
theorem w_ref08_Mend_eq {s : Sl} {σ : Heap} {xs : List api_Cell} (h : s.Is eCell σ xs) (hl : xs.length ≤ 1000000) : w_ref08_Mend s σ = some (fresh eCell σ (decide (xs = [])) (mend xs)) :=
  wOf_eq ⟨h, hl⟩ fun y hy => by rw [hy.1.uniq (by decide) h]
theorem mend_len (xs : List api_Cell) : (mend xs).length = xs.length := by simp [mend]
theorem ok_ref08_Mend : Ok_ref08_Mend w_ref08_Mend := fun s σ v σ' h => by
  obtain ⟨xs, ⟨hs, hl⟩, e⟩ := wOf_some h
  obtain ⟨rfl, rfl⟩ : v = (fresh eCell σ (decide (xs = [])) (mend xs)).1 ∧ σ' = (fresh eCell σ (decide (xs = [])) (mend xs)).2 := by rw [e]; exact ⟨rfl, rfl⟩
  obtain ⟨q, σ1, ha, hM⟩ := (Mine.start (E := eCell) σ).append (zs := xs) (bytes := 32) (vs := eCell.all xs) (k := xs.length) rfl rfl (by simp; omega) (by simp; omega)
  obtain ⟨σ2, k1, k2⟩ := ref08_Mend_loop (R := AVal × Heap) (L := xs.length + 1) (K := fun v σ => some (v, σ)) hl xs.length 0 (xs.length + 1) σ1 (by simp) (by omega) (paired_neg xs) (by rw [mendTo_zero]; exact hM)
  refine call_mine (call_ok ok (K_ref08_Mend c_ref08_Mend ok_ref07_Wide) (L := xs.length + 1) (n := 2) ((ref08_Mend_eq c_ref08_Mend (xs.length + 1) s σ _).trans ?_)) k1 ?_
  · have hr := hs.read
    have hr' : σ.read s.b s.o s.n 6 = some (eCell.all xs) := hr
    have ha' : σ.append none 0 0 6 32 (eCell.all xs) xs.length = some (q, σ1) := ha
    rw [hr', Option.bind_some, hs.n, ha', Option.bind_some]
    exact k2
  · by_cases h0 : xs = []
    · subst h0
      simp [Heap.append] at ha
      rw [← ha.1]
      rfl
    · rw [Own.some_of_ne k1.own (by
        intro e
        have := congrArg List.length e
        rw [mend_len] at this
        exact h0 (List.eq_nil_of_length_eq_zero this))]
      simp [h0]
end Go.Abs.TA
namespace Go.Abs.TA
open Go Go.Abs Go.Proofs

def wholeAt (xs : List api_Cell) (i : Nat) (c : api_Cell) : Bool := if c.Rune = 0 then paired xs ((i : Int) - 1) else rightC c && (!wide c.Rune || paired xs i)
def wholes (xs : List api_Cell) : Nat → List api_Cell → Bool
  | _, [] => true
  | i, c :: cs => wholeAt xs i c && wholes xs (i + 1) cs
def whole (xs : List api_Cell) : Bool := wholes xs 0 xs
theorem wholes_iff (xs : List api_Cell) : ∀ (i : Nat) (cs : List api_Cell), wholes xs i cs = true ↔ ∀ j c, cs[j]? = some c → wholeAt xs (i + j) c = true
  | i, [] => by simp [wholes]
  | i, c :: cs => by
    simp only [wholes, Bool.and_eq_true, wholes_iff xs (i + 1) cs]
    constructor
    · rintro ⟨h1, h2⟩ j d hj
      cases j with
      | zero => simp at hj; subst hj; exact h1
      | succ j =>
        simp at hj
        rw [show i + (j + 1) = i + 1 + j by omega]
        exact h2 j d hj
    · intro h
      refine ⟨h 0 c rfl, fun j d hj => ?_⟩
      rw [show i + 1 + j = i + (j + 1) by omega]
      exact h (j + 1) d (by simpa using hj)
theorem whole_iff (xs : List api_Cell) : whole xs = true ↔ ∀ (j : Nat) (c : api_Cell), xs[j]? = some c → wholeAt xs j c = true := by
  unfold whole
  rw [wholes_iff]
  simp only [Nat.zero_add]

noncomputable def c_cell_Whole : C_cell_Whole := { cell_Right := w_cell_Right, cell_paired := w_cell_paired, glyph_Wide := w_glyph_Wide }
theorem cell_Whole_loop {R : Type} {L : Nat} {l : Sl} {σ : Heap} {K : AVal → Heap → Option R} {xs : List api_Cell} (hl : l.Is eCell σ xs) (hw : WideOK σ) :
    ∀ (d i m : Nat), i + d = xs.length → d < m → cell_Whole_L2 c_cell_Whole L m l (i : Int) σ K = K (.bool (wholes xs i (xs.drop i))) σ
  | d, i, 0, _, h => by omega
  | 0, i, m + 1, h, _ => by
    rw [cell_Whole_L2_eq, hl.n, lt_false (by omega), cond_false, List.drop_eq_nil_of_le (by omega)]
    rfl
  | d + 1, i, m + 1, h, hm => by
    have hi : i < xs.length := by omega
    have hs := hl.small
    obtain ⟨b, hb, f0, f1, f2, f3, f4, f5⟩ := cell_at hl (List.getElem?_eq_getElem hi)
    have ih := cell_Whole_loop (L := L) (K := K) hl hw d (i + 1) m (by omega) (by omega)
    have p1 : c_cell_Whole.cell_Right = w_cell_Right := rfl
    have p2 : c_cell_Whole.cell_paired = w_cell_paired := rfl
    have p3 : c_cell_Whole.glyph_Wide = w_glyph_Wide := rfl
    rw [cell_Whole_L2_eq]
    simp only [hl.n, dec0, lt_true hi, Bool.and_self, cond_true, hb, Option.bind_some, Int.toNat_natCast, f0, f1, f2, f3, f4, f5, int?, bool?, if_true, p1, p2, p3, w_glyph_Wide_eq hw, w_cell_Right, wrap_i64_succ i (by omega),
      wrap_i64_of (show -9223372036854775808 ≤ (i : Int) - 1 by omega) (by omega), w_cell_paired_eq hl hw (show (i : Int) - 1 ≤ 1099511627776 by omega), w_cell_paired_eq hl hw (show (i : Int) ≤ 1099511627776 by omega), ih]
    rw [List.drop_eq_getElem_cons hi, wholes, wholeAt]
    by_cases c0 : xs[i].Rune = 0
    · rw [if_pos c0, show (xs[i].Rune == 0) = true by simp [c0], cond_true]
      cases paired xs ((i : Int) - 1) <;> rfl
    · rw [if_neg c0, show (xs[i].Rune == 0) = false by simp [c0], cond_false]
      cases rightC xs[i] <;> cases wide xs[i].Rune <;> cases paired xs i <;> rfl
noncomputable def w_cell_Whole (l : Sl) (σ : Heap) : Option (Bool × Heap) := wOf (fun xs => l.Is eCell σ xs ∧ WideOK σ) fun xs => (whole xs, σ)
theorem w_cell_Whole_eq {l : Sl} {σ : Heap} {xs : List api_Cell} (h : l.Is eCell σ xs) (hw : WideOK σ) : w_cell_Whole l σ = some (whole xs, σ) :=
  wOf_eq ⟨h, hw⟩ fun y hy => by rw [hy.1.uniq (by decide) h]
theorem ok_cell_Whole : Ok_cell_Whole w_cell_Whole := fun s σ v σ' h => by
  obtain ⟨xs, ⟨hs, hw⟩, e⟩ := wOf_some h
  injection e with e1 e2
  subst e1; subst e2
  exact call_ok ok (K_cell_Whole c_cell_Whole ok_cell_Right ok_cell_paired ok_glyph_Wide) (L := xs.length + 1) (n := 2) ((cell_Whole_eq c_cell_Whole (xs.length + 1) s σ _).trans (cell_Whole_loop hs hw xs.length 0 (xs.length + 1) (by simp) (by omega)))

/-! ### Plain facts -/
/-- Cells that are right, or rests. -/
def Tamed (xs : List api_Cell) : Prop := ∀ c ∈ xs, okS c.Style = true ∧ (c.Rune = 0 ∨ rightR c.Rune = true)
theorem tamed_map (xs : List api_Cell) : Tamed (xs.map tameC) := by
  intro c hc
  obtain ⟨d, _, rfl⟩ := List.mem_map.1 hc
  constructor
  · simp only [tameC]
    split
    · assumption
    · decide
  · simp only [tameC]
    split
    · right; decide
    · rename_i h
      by_cases h0 : d.Rune = 0
      · exact .inl h0
      · right
        cases hr : rightR d.Rune with
        | true => rfl
        | false => exact absurd ⟨h0, hr⟩ h
theorem mend_get {xs : List api_Cell} {i : Nat} {c : api_Cell} (h : xs[i]? = some c) : (mend xs)[i]? = some (mendAt xs i c) := by
  simp [mend, List.getElem?_mapIdx, h]
theorem mend_get' {xs : List api_Cell} {i : Nat} {d : api_Cell} (h : (mend xs)[i]? = some d) : ∃ c, xs[i]? = some c ∧ d = mendAt xs i c := by
  rw [mend, List.getElem?_mapIdx] at h
  obtain ⟨c, h1, h2⟩ := Option.map_eq_some_iff.1 h
  exact ⟨c, h1, h2.symm⟩
theorem wide_ne {r : Int} (h : wide r = true) : r ≠ 0 ∧ r ≠ 32 := by
  constructor <;> (intro e; subst e; revert h; decide)
theorem pairedN_iff {xs : List api_Cell} {k : Nat} : pairedN xs k = true ↔ ∃ a, xs[k]? = some a ∧ wide a.Rune = true ∧ xs[k + 1]? = some ⟨0, a.Style⟩ := by
  unfold pairedN
  constructor
  · intro h
    split at h
    · rename_i a b h1 h2
      simp only [Bool.and_eq_true, decide_eq_true_eq] at h
      exact ⟨a, h1, h.1, by rw [h2, h.2]⟩
    · cases h
  · rintro ⟨a, h1, h2, h3⟩
    rw [h1, h3]
    simp [h2]
theorem mendAt_turned {xs : List api_Cell} {i : Nat} {c : api_Cell} : mendAt xs i c = c ∨ (mendAt xs i c = { c with Rune := 32 } ∧ ((c.Rune = 0 ∧ paired xs ((i : Int) - 1) = false) ∨ (wide c.Rune = true ∧ paired xs i = false))) := by
  unfold mendAt
  split
  · rename_i h; exact .inr ⟨rfl, h⟩
  · exact .inl rfl
theorem pairedN_mend (xs : List api_Cell) (k : Nat) : pairedN (mend xs) k = pairedN xs k := by
  rw [Bool.eq_iff_iff, pairedN_iff, pairedN_iff]
  constructor
  · rintro ⟨a, h1, h2, h3⟩
    obtain ⟨c, g1, g2⟩ := mend_get' h1
    obtain ⟨d, g3, g4⟩ := mend_get' h3
    rcases mendAt_turned (xs := xs) (i := k) (c := c) with h | ⟨h, _⟩
    · rcases mendAt_turned (xs := xs) (i := k + 1) (c := d) with h' | ⟨h', _⟩
      · rw [h] at g2
        rw [h'] at g4
        subst g2
        exact ⟨a, g1, h2, by rw [g3, g4]⟩
      · rw [h'] at g4
        have := congrArg api_Cell.Rune g4
        simp at this
    · rw [h] at g2
      rw [g2] at h2
      exact absurd rfl (wide_ne h2).2
  · rintro ⟨a, h1, h2, h3⟩
    have hp : pairedN xs k = true := pairedN_iff.2 ⟨a, h1, h2, h3⟩
    have e1 : mendAt xs k a = a := by
      unfold mendAt
      rw [if_neg]
      rw [paired_nat, hp]
      simp [(wide_ne h2).1]
    have e2 : mendAt xs (k + 1) ⟨0, a.Style⟩ = ⟨0, a.Style⟩ := by
      unfold mendAt
      rw [if_neg]
      rw [paired_pred, hp]
      simp [wide_zero]
    exact ⟨a, by rw [mend_get h1, e1], h2, by rw [mend_get h3, e2]⟩
theorem paired_mend (xs : List api_Cell) (i : Int) : paired (mend xs) i = paired xs i := by
  unfold paired
  rw [pairedN_mend]
theorem tamed_mend {xs : List api_Cell} (h : Tamed xs) : Tamed (mend xs) := by
  intro c hc
  obtain ⟨i, hi⟩ := List.mem_iff_getElem?.1 hc
  obtain ⟨d, g1, rfl⟩ := mend_get' hi
  have hd := h d (List.mem_of_getElem? g1)
  rcases mendAt_turned (xs := xs) (i := i) (c := d) with e | ⟨e, _⟩
  · rw [e]; exact hd
  · rw [e]; exact ⟨hd.1, .inr (show rightR 32 = true by decide)⟩
theorem whole_iff_mend {xs : List api_Cell} (h : Tamed xs) : whole xs = true ↔ mend xs = xs := by
  rw [whole_iff]
  constructor
  · intro hw
    apply List.ext_getElem?
    intro i
    cases hx : xs[i]? with
    | none => rw [List.getElem?_eq_none (by rw [mend_len]; exact List.getElem?_eq_none_iff.1 hx)]
    | some c =>
      rw [mend_get hx]
      have := hw i c hx
      unfold wholeAt at this
      congr 1
      unfold mendAt
      rw [if_neg]
      rintro (⟨h1, h2⟩ | ⟨h1, h2⟩)
      · rw [if_pos h1, h2] at this; cases this
      · rw [if_neg (wide_ne h1).1, h1, h2] at this; simp at this
  · intro hm i c hx
    have hc := h c (List.mem_of_getElem? hx)
    have e : mendAt xs i c = c := by
      have := mend_get hx
      rw [hm, hx] at this
      injection this with this
      exact this.symm
    unfold wholeAt
    have key : ¬ ((c.Rune = 0 ∧ paired xs ((i : Int) - 1) = false) ∨ (wide c.Rune = true ∧ paired xs i = false)) := by
      intro hk
      unfold mendAt at e
      rw [if_pos hk] at e
      have e2 := congrArg api_Cell.Rune e
      simp only at e2
      rcases hk with ⟨h1, _⟩ | ⟨h1, _⟩
      · rw [h1] at e2; cases e2
      · exact (wide_ne h1).2 e2.symm
    by_cases h0 : c.Rune = 0
    · rw [if_pos h0]
      cases hp : paired xs ((i : Int) - 1) with
      | true => rfl
      | false => exact absurd (.inl ⟨h0, hp⟩) key
    · rw [if_neg h0]
      have hr : rightC c = true := by
        unfold rightC
        rw [hc.1, hc.2.resolve_left h0]
        rfl
      rw [hr]
      cases hw : wide c.Rune with
      | false => rfl
      | true =>
        cases hp : paired xs i with
        | true => rfl
        | false => exact absurd (.inr ⟨hw, hp⟩) key
theorem mend_mend {xs : List api_Cell} : mend (mend xs) = mend xs := by
  apply List.ext_getElem?
  intro i
  cases hx : (mend xs)[i]? with
  | none => rw [List.getElem?_eq_none (by rw [mend_len]; exact List.getElem?_eq_none_iff.1 hx)]
  | some c =>
    rw [mend_get hx]
    congr 1
    obtain ⟨d, g1, rfl⟩ := mend_get' hx
    unfold mendAt
    split
    · simp [paired_mend, show wide 32 = false by decide]
    · rename_i h
      rw [paired_mend, paired_mend, if_neg h]
theorem whole_mend {xs : List api_Cell} (h : Tamed xs) : whole (mend xs) = true := (whole_iff_mend (tamed_mend h)).2 mend_mend
end Go.Abs.TA
