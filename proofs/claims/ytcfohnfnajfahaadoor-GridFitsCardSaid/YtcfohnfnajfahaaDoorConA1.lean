/-
What the functions of cell and glyph compute, in plain Lean; their contracts.
-/
import Derived.Test.YtcfohnfnajfahaaDoorEqA0
import Derived.Test.YtcfohnfnajfahaaDoorAbs27
namespace Go.Abs.TA
open Go Go.Abs Go.Proofs

/-! ### Elements -/
def eI64 : El Int := ⟨1, fun n => [.int .i64 n], fun _ => rfl, fun a b h => by simpa using h, fun _ => rfl⟩
def eCell : El api_Cell := ⟨6, api_Cell.cells, fun _ => rfl, fun a b h => by
  obtain ⟨r, b0, b1, b2, f, k⟩ := a
  obtain ⟨r', b0', b1', b2', f', k'⟩ := b
  simp [api_Cell.cells] at h
  obtain ⟨rfl, rfl, rfl, rfl, rfl, rfl⟩ := h
  rfl, fun _ => rfl⟩

instance : DecidableEq api_Style := fun a b => decidable_of_iff (a.Bold = b.Bold ∧ a.Under = b.Under ∧ a.Turned = b.Turned ∧ a.Fore = b.Fore ∧ a.Back = b.Back) ⟨fun h => by
  obtain ⟨b0, b1, b2, f, k⟩ := a
  obtain ⟨b0', b1', b2', f', k'⟩ := b
  obtain ⟨h0, h1, h2, h3, h4⟩ := h
  simp only at h0 h1 h2 h3 h4
  rw [h0, h1, h2, h3, h4], fun h => by rw [h]; exact ⟨rfl, rfl, rfl, rfl, rfl⟩⟩
instance : DecidableEq api_Cell := fun a b => decidable_of_iff (a.Rune = b.Rune ∧ a.Style = b.Style) ⟨fun h => by
  obtain ⟨r, s⟩ := a
  obtain ⟨r', s'⟩ := b
  obtain ⟨h0, h1⟩ := h
  simp only at h0 h1
  rw [h0, h1], fun h => by rw [h]; exact ⟨rfl, rfl⟩⟩

/-! ### The table of wide runes -/
def wideInts : List Int := [4352, 4447, 11904, 42191, 44032, 55203, 63744, 64255, 65072, 65135, 65280, 65376, 65504, 65510, 127744, 128591, 131072, 262141]
def wideRow : List AVal := wideInts.map fun n => .int .i32 n
def WideOK (σ : Heap) : Prop := σ[0]? = some (.row wideRow .ro)
theorem WideOK.pre {σ σ' : Heap} (h : WideOK σ) (hp : σ <+: σ') : WideOK σ' := by
  unfold WideOK at h ⊢
  rw [get_pre hp (List.getElem?_eq_some_iff.1 h).1, h]
theorem WideOK.frz {σ : Heap} (h : WideOK σ) : WideOK σ.frz := by
  unfold WideOK at h ⊢
  simp [Heap.frz, List.getElem?_map, h, Blk.frz]
theorem WideOK.of_frz {σ : Heap} {cs : List AVal} (h : σ.frz.row? 0 = some cs) : σ.row? 0 = some cs := by rwa [Heap.row?_frz] at h
theorem WideOK.set {σ : Heap} (h : WideOK σ) {σ' : Heap} (hg : σ'[0]? = σ[0]?) : WideOK σ' := by
  unfold WideOK at h ⊢
  rw [hg, h]
theorem WideOK.cell {σ : Heap} (h : WideOK σ) (j : Nat) : σ.cell? 0 j = wideRow[j]? := by
  unfold Heap.cell?
  rw [row?_of h (by simp)]
  rfl

/-! ### Styles -/
def okS (s : api_Style) : Bool := decide (0 ≤ s.Fore ∧ s.Fore ≤ 8 ∧ 0 ≤ s.Back ∧ s.Back ≤ 8)
def chg (s : api_Style) (n : Int) : api_Style :=
  if n = 0 then ⟨false, false, false, 0, 0⟩ else
  if n = 1 then { s with Bold := true } else if n = 22 then { s with Bold := false } else
  if n = 4 then { s with Under := true } else if n = 24 then { s with Under := false } else
  if n = 7 then { s with Turned := true } else if n = 27 then { s with Turned := false } else
  if 30 ≤ n ∧ n ≤ 37 then { s with Fore := n - 29 } else
  if n = 39 then { s with Fore := 0 } else
  if 40 ≤ n ∧ n ≤ 47 then { s with Back := n - 39 } else
  if n = 49 then { s with Back := 0 } else s
def chgs (s : api_Style) (l : List Int) : api_Style := if l = [] then chg s 0 else l.foldl chg s

def w_cell_Style (s : api_Style) (σ : Heap) : Option (Bool × Heap) := some (okS s, σ)
theorem ok_cell_Style : Ok_cell_Style w_cell_Style := fun s σ v σ' h => by
  injection h with h; injection h with h1 h2; subst h1; subst h2
  refine call_ok ok known0_ok (L := 0) (n := 2) ((cell_Style_eq 0 s σ _).trans ?_)
  show _ = some (AVal.bool (okS s), σ)
  simp only [okS, cond_eq_ite, decide_eq_true_eq]
  repeat' split
  all_goals (simp only [Option.some.injEq, Prod.mk.injEq, AVal.bool.injEq, and_true]; first | (symm; rw [decide_eq_false_iff_not]; omega) | (rw [decide_eq_decide]; omega))

def w_cell_change (s : api_Style) (n : Int) (σ : Heap) : Option (api_Style × Heap) := some (chg s n, σ)
theorem ok_cell_change : Ok_cell_change w_cell_change := fun s n σ v σ' h => by
  injection h with h; injection h with h1 h2; subst h1; subst h2
  refine call_ok ok known0_ok (L := 0) (n := 2) ((cell_change_eq 0 s n σ _).trans ?_)
  simp only [cond_eq_ite, decide_eq_true_eq, beq_iff_eq, ge_iff_le]
  show _ = some (AVal.agg (chg s n).cells, σ)
  by_cases h0 : n = 0
  · subst h0; rfl
  by_cases h1 : n = 1
  · subst h1; rfl
  by_cases h2 : n = 22
  · subst h2; rfl
  by_cases h3 : n = 4
  · subst h3; rfl
  by_cases h4 : n = 24
  · subst h4; rfl
  by_cases h5 : n = 7
  · subst h5; rfl
  by_cases h6 : n = 27
  · subst h6; rfl
  by_cases h7 : n = 39
  · subst h7; rfl
  by_cases h8 : n = 49
  · subst h8; rfl
  unfold chg
  simp only [h0, h1, h2, h3, h4, h5, h6, h7, h8, if_false]
  by_cases g1 : 30 ≤ n
  · by_cases g2 : n ≤ 37
    · simp only [g1, g2, and_self, if_true, wrap_i64_of (show -9223372036854775808 ≤ n - 29 by omega) (by omega)]
      rfl
    · by_cases g3 : 40 ≤ n
      · by_cases g4 : n ≤ 47
        · simp only [g1, g2, g3, g4, and_self, and_false, if_true, if_false, wrap_i64_of (show -9223372036854775808 ≤ n - 39 by omega) (by omega)]
          rfl
        · simp only [g1, g2, g3, g4, and_false, if_true, if_false]
          rfl
      · simp only [g1, g2, g3, and_false, false_and, if_true, if_false]
        rfl
  · have g3 : ¬ 40 ≤ n := by omega
    simp only [g1, g3, false_and, if_false]
    rfl

theorem i64_cell {s : Sl} {σ : Heap} {l : List Int} (h : s.Is eI64 σ l) {i : Nat} {x : Int} (hi : l[i]? = some x) : ∃ b, s.b = some b ∧ σ.cell? b (s.o + i * 1) = some (.int .i64 x) := by
  obtain ⟨b, hb, hc⟩ := h.cell hi
  exact ⟨b, hb, hc 0 (by decide)⟩

def c_cell_Change : C_cell_Change := ⟨w_cell_change⟩
theorem cell_Change_loop {R : Type} {L : Nat} {p : Sl} {σ : Heap} {K : AVal → Heap → Option R} {l : List Int} (hp : p.Is eI64 σ l) :
    ∀ (d i : Nat) (s : api_Style) (m : Nat), i + d = l.length → d < m → cell_Change_L4 c_cell_Change L m p (l.length : Int) (i : Int) s σ K = K (.agg ((l.drop i).foldl chg s).cells) σ
  | d, i, s, 0, _, h => by omega
  | 0, i, s, m + 1, h, _ => by
    rw [cell_Change_L4_eq]
    have e : l.drop i = [] := List.drop_eq_nil_of_le (by omega)
    rw [e, show decide ((i : Int) < (l.length : Int)) = false by simp; omega]
    rfl
  | d + 1, i, s, m + 1, h, hm => by
    rw [cell_Change_L4_eq]
    have hi : i < l.length := by omega
    obtain ⟨b, hb, hc⟩ := i64_cell hp (List.getElem?_eq_getElem hi)
    have hs := hp.small
    simp only [hp.n, show decide ((i : Int) < (l.length : Int)) = true by simp; omega, show decide ((0 : Int) ≤ (i : Int)) = true by simp, Bool.and_self, cond_true, hb, Option.bind_some, Int.toNat_natCast, hc, int?, if_true, c_cell_Change, w_cell_change, wrap_i64_succ i (by omega)]
    rw [List.drop_eq_getElem_cons hi, List.foldl_cons]
    exact cell_Change_loop hp d (i + 1) (chg s l[i]) m (by omega) (by omega)

noncomputable def w_cell_Change (s : api_Style) (p : Sl) (σ : Heap) : Option (api_Style × Heap) := wOf (fun l => p.Is eI64 σ l) fun l => (chgs s l, σ)
theorem w_cell_Change_eq {s : api_Style} {p : Sl} {σ : Heap} {l : List Int} (h : p.Is eI64 σ l) : w_cell_Change s p σ = some (chgs s l, σ) :=
  wOf_eq h fun y hy => by rw [hy.uniq (by decide) h]
theorem ok_cell_Change : Ok_cell_Change w_cell_Change := fun s p σ v σ' h => by
  obtain ⟨l, hl, e⟩ := wOf_some h
  injection e with e1 e2
  subst e1; subst e2
  have hK := K_cell_Change c_cell_Change ok_cell_change
  cases l with
  | nil =>
    refine call_gc0 (call_ok ok hK (L := 2) (n := 2) (σ' := σ ++ [.row [.int .i64 0] .rw]) (v := t_api_Style.av (chgs s [])) ((cell_Change_eq c_cell_Change 2 s p σ _).trans ?_)) (fun b hb => List.getElem?_append_left hb) (by simp [t_api_Style, tStruct, api_Style.cells, AVal.refs, refss])
    simp only [hl.n, List.length_nil, beq_self_eq_true, Int.natCast_zero, cond_true, alloc]
    exact cell_Change_loop (l := [0]) (p := ⟨some σ.length, 0, 1⟩) (Sl.Is.new (E := eI64) (xs := [0]) (by decide)) 1 0 s 2 rfl (by omega)
  | cons x l =>
    refine call_ok ok hK (L := l.length + 2) (n := 2) ((cell_Change_eq c_cell_Change (l.length + 2) s p σ _).trans ?_)
    rw [hl.n, show (((x :: l).length : Int) == 0) = false by simp; omega, cond_false]
    exact cell_Change_loop hl (x :: l).length 0 s _ (by simp) (by simp)

/-! ### glyph -/
def wide (r : Int) : Bool := decide (r ≠ 12351) && (decide (4352 ≤ r ∧ r ≤ 4447) || decide (11904 ≤ r ∧ r ≤ 42191) || decide (44032 ≤ r ∧ r ≤ 55203) || decide (63744 ≤ r ∧ r ≤ 64255) || decide (65072 ≤ r ∧ r ≤ 65135) ||
  decide (65280 ≤ r ∧ r ≤ 65376) || decide (65504 ≤ r ∧ r ≤ 65510) || decide (127744 ≤ r ∧ r ≤ 128591) || decide (131072 ≤ r ∧ r ≤ 262141))
theorem wide_iff (r : Int) : wide r = true ↔ r ≠ 12351 ∧ ((4352 ≤ r ∧ r ≤ 4447) ∨ (11904 ≤ r ∧ r ≤ 42191) ∨ (44032 ≤ r ∧ r ≤ 55203) ∨ (63744 ≤ r ∧ r ≤ 64255) ∨ (65072 ≤ r ∧ r ≤ 65135) ∨ (65280 ≤ r ∧ r ≤ 65376) ∨ (65504 ≤ r ∧ r ≤ 65510) ∨ (127744 ≤ r ∧ r ≤ 128591) ∨ (131072 ≤ r ∧ r ≤ 262141)) := by
  unfold wide
  simp only [Bool.and_eq_true, Bool.or_eq_true, decide_eq_true_eq, or_assoc]
noncomputable def w_glyph_Wide (r : Int) (σ : Heap) : Option (Bool × Heap) := wIf (WideOK σ) (wide r, σ)
theorem w_glyph_Wide_eq {r : Int} {σ : Heap} (h : WideOK σ) : w_glyph_Wide r σ = some (wide r, σ) := wIf_eq h
theorem ite_kb {c : Prop} [Decidable c] {a b : Bool} {σ : Heap} : (if c then some (AVal.bool a, σ) else some (AVal.bool b, σ)) = some (AVal.bool (if c then a else b), σ) := by split <;> rfl
theorem ite_iff {c : Prop} [Decidable c] {a b : Bool} : (if c then a else b) = true ↔ (c ∧ a = true) ∨ (¬ c ∧ b = true) := by
  split <;> simp_all
theorem some_bool {a b : Bool} {σ : Heap} (h : a = b) : some (AVal.bool a, σ) = some (AVal.bool b, σ) := by rw [h]
set_option maxRecDepth 10000 in
theorem ok_glyph_Wide : Ok_glyph_Wide w_glyph_Wide := fun r σ v σ' h => by
  obtain ⟨hw, e⟩ := wIf_some h
  injection e with e1 e2
  subst e1; subst e2
  refine call_ok ok known0_ok (L := 10) (n := 2) ((glyph_Wide_eq 0 r σ _).trans ?_)
  simp only [hw.cell, wideRow, wideInts, List.map_cons, List.map_nil, List.getElem?_cons_zero, List.getElem?_cons_succ, int?, if_true, Option.bind_some]
  show _ = some (AVal.bool (wide r), σ)
  simp only [cond_eq_ite, beq_iff_eq, decide_eq_true_eq, ite_kb]
  refine some_bool ?_
  rw [Bool.eq_iff_iff, wide_iff]
  simp only [ite_iff, Bool.false_eq_true, and_false, and_true, false_or, or_false]
  omega
end Go.Abs.TA
