/-
Contracts: right runes and cells, the references' ones, fit.
-/
import Derived.Test.YtcfohnfnajfahaaDoorConA3
import Derived.Test.YtcfohnfnajfahaaDoorEqA1
namespace Go.Abs.TA
open Go Go.Abs Go.Proofs

def rightR (r : Int) : Bool := decide (32 ≤ r ∧ r ≤ 1114111 ∧ r ≠ 127 ∧ (r < 55296 ∨ 57343 < r))
def w_glyph_Right (r : Int) (σ : Heap) : Option (Bool × Heap) := some (rightR r, σ)
theorem ok_glyph_Right : Ok_glyph_Right w_glyph_Right := fun r σ v σ' h => by
  injection h with h; injection h with h1 h2; subst h1; subst h2
  refine call_ok ok known0_ok (L := 0) (n := 2) ((glyph_Right_eq 0 r σ _).trans ?_)
  show _ = some (AVal.bool (rightR r), σ)
  simp only [cond_eq_ite, decide_eq_true_eq, bne_iff_ne, ite_kb]
  refine some_bool ?_
  rw [Bool.eq_iff_iff]
  simp only [ite_iff, rightR, decide_eq_true_eq, Bool.false_eq_true, and_false, and_true, or_false]
  omega
def rightC (c : api_Cell) : Bool := rightR c.Rune && okS c.Style
def w_cell_Right (c : api_Cell) (σ : Heap) : Option (Bool × Heap) := some (rightC c, σ)
def c_cell_Right : C_cell_Right := ⟨w_cell_Style, w_glyph_Right⟩
theorem ok_cell_Right : Ok_cell_Right w_cell_Right := fun c σ v σ' h => by
  injection h with h; injection h with h1 h2; subst h1; subst h2
  refine call_ok ok (K_cell_Right c_cell_Right ok_cell_Style ok_glyph_Right) (L := 0) (n := 2) ((cell_Right_eq c_cell_Right 0 c σ _).trans ?_)
  show _ = some (AVal.bool (rightC c), σ)
  simp only [c_cell_Right, w_cell_Style, w_glyph_Right, Option.bind_some, rightC]
  cases rightR c.Rune <;> rfl
def w_cell_Blank (s : api_Style) (σ : Heap) : Option (api_Cell × Heap) := some (⟨32, ⟨false, false, false, 0, s.Back⟩⟩, σ)
theorem ok_cell_Blank : Ok_cell_Blank w_cell_Blank := fun s σ v σ' h => by
  injection h with h; injection h with h1 h2; subst h1; subst h2
  exact call_ok ok known0_ok (L := 0) (n := 2) (cell_Blank_eq 0 s σ _)

/-! ### fit -/
noncomputable def w_law08_fit (σ : Heap) : Option (Bool × Heap) := wIf (WideOK σ) (true, σ)
theorem w_law08_fit_eq {σ : Heap} (h : WideOK σ) : w_law08_fit σ = some (true, σ) := wIf_eq h
noncomputable def c_law08_fit : C_law08_fit := { cell_Change := w_cell_Change, cell_Mend := w_cell_Mend, cell_Right := w_cell_Right, cell_Blank := w_cell_Blank }
theorem ok_law08_fit : Ok_law08_fit w_law08_fit := fun σ v σ' h => by
  obtain ⟨hw, e⟩ := wIf_some h
  injection e with e1 e2
  subst e1; subst e2
  have p1 : c_law08_fit.cell_Change = w_cell_Change := rfl
  have p2 : c_law08_fit.cell_Mend = w_cell_Mend := rfl
  have p3 : c_law08_fit.cell_Right = w_cell_Right := rfl
  have p4 : c_law08_fit.cell_Blank = w_cell_Blank := rfl
  have q1 : σ <+: σ ++ [.row [.int .i64 1, .int .i64 31] .rw] := pre_push ..
  have q2 := q1.trans (pre_push (σ ++ [.row [.int .i64 1, .int .i64 31] .rw]) (.row [.int .i32 97, .bool false, .bool false, .bool false, .int .i64 0, .int .i64 0] .rw))
  refine call_gc0 (call_ok ok (K_law08_fit c_law08_fit ok_cell_Change ok_cell_Mend ok_cell_Right ok_cell_Blank) (L := 0) (n := 2) (v := tBool.av true) (σ' := (fresh eCell ((σ ++ [.row [.int .i64 1, .int .i64 31] .rw]) ++ [.row [.int .i32 97, .bool false, .bool false, .bool false, .int .i64 0, .int .i64 0] .rw]) false (mend [⟨97, ⟨false, false, false, 0, 0⟩⟩])).2) ((law08_fit_eq c_law08_fit 0 σ _).trans ?_)) (fun b hb => get_pre (q2.trans (fresh_pre ..)) hb) trivial
  simp only [alloc, p1, p2, p3, p4, w_cell_Blank, w_cell_Right, Option.bind_some]
  have hC : w_cell_Change ⟨false, false, false, 0, 0⟩ ⟨some σ.length, 0, 2⟩ (σ ++ [.row [.int .i64 1, .int .i64 31] .rw]) = some (chgs ⟨false, false, false, 0, 0⟩ [1, 31], σ ++ [.row [.int .i64 1, .int .i64 31] .rw]) :=
    w_cell_Change_eq (l := [1, 31]) (Sl.Is.new (E := eI64) (xs := [1, 31]) (by decide))
  have hM : ∀ τ : Heap, WideOK τ → w_cell_Mend ⟨some τ.length, 0, 1⟩ (τ ++ [.row [.int .i32 97, .bool false, .bool false, .bool false, .int .i64 0, .int .i64 0] .rw]) = some (fresh eCell (τ ++ [.row [.int .i32 97, .bool false, .bool false, .bool false, .int .i64 0, .int .i64 0] .rw]) false (mend [⟨97, ⟨false, false, false, 0, 0⟩⟩])) := fun τ hτ =>
    w_cell_Mend_eq (xs := [⟨97, ⟨false, false, false, 0, 0⟩⟩]) (Sl.Is.new (E := eCell) (xs := [⟨97, ⟨false, false, false, 0, 0⟩⟩]) (by decide)) (by decide) (hτ.pre (pre_push ..))
  rw [hC, Option.bind_some]
  rw [show chgs ⟨false, false, false, 0, 0⟩ [1, 31] = ⟨true, false, false, 2, 0⟩ by decide]
  simp only [cond_true, beq_self_eq_true]
  rw [show rightC { Rune := 32, Style := { Bold := false, Under := false, Turned := false, Fore := 0, Back := 0 } } = true by decide, cond_true]
  rw [hM _ (hw.pre q1), Option.bind_some]
  rfl

/-! ### The references -/
def w_ref08_Style (s : api_Style) (σ : Heap) : Option (Bool × Heap) := some (okS s, σ)
theorem ok_ref08_Style : Ok_ref08_Style w_ref08_Style := fun s σ v σ' h => by
  injection h with h; injection h with h1 h2; subst h1; subst h2
  refine call_ok ok known0_ok (L := 0) (n := 2) ((ref08_Style_eq 0 s σ _).trans ?_)
  show _ = some (AVal.bool (okS s), σ)
  simp only [cond_eq_ite, decide_eq_true_eq, ite_kb]
  refine some_bool ?_
  rw [Bool.eq_iff_iff]
  simp only [ite_iff, okS, decide_eq_true_eq, Bool.false_eq_true, and_false, or_false]
def w_ref07_among (r a b : Int) (σ : Heap) : Option (Bool × Heap) := some (decide (a ≤ r ∧ r ≤ b), σ)
theorem ok_ref07_among : Ok_ref07_among w_ref07_among := fun r a b σ v σ' h => by
  injection h with h; injection h with h1 h2; subst h1; subst h2
  refine call_ok ok known0_ok (L := 0) (n := 2) ((ref07_among_eq 0 r a b σ _).trans ?_)
  show _ = some (AVal.bool _, σ)
  simp only [cond_eq_ite, decide_eq_true_eq, ite_kb]
  refine some_bool ?_
  rw [Bool.eq_iff_iff]
  simp only [ite_iff, decide_eq_true_eq, Bool.false_eq_true, and_false, or_false]
def w_ref07_Right (r : Int) (σ : Heap) : Option (Bool × Heap) := some (rightR r, σ)
def c_ref07_Right : C_ref07_Right := ⟨w_ref07_among⟩
theorem ok_ref07_Right : Ok_ref07_Right w_ref07_Right := fun r σ v σ' h => by
  injection h with h; injection h with h1 h2; subst h1; subst h2
  refine call_ok ok (K_ref07_Right c_ref07_Right ok_ref07_among) (L := 0) (n := 2) ((ref07_Right_eq c_ref07_Right 0 r σ _).trans ?_)
  show _ = some (AVal.bool (rightR r), σ)
  simp only [c_ref07_Right, w_ref07_among, Option.bind_some, cond_eq_ite, decide_eq_true_eq, ite_kb]
  refine some_bool ?_
  rw [Bool.eq_iff_iff]
  simp only [ite_iff, rightR, decide_eq_true_eq, and_true]
  omega
def w_ref07_Wide (r : Int) (σ : Heap) : Option (Bool × Heap) := some (wide r, σ)
def c_ref07_Wide : C_ref07_Wide := ⟨w_ref07_among⟩
theorem ok_ref07_Wide : Ok_ref07_Wide w_ref07_Wide := fun r σ v σ' h => by
  injection h with h; injection h with h1 h2; subst h1; subst h2
  refine call_ok ok (K_ref07_Wide c_ref07_Wide ok_ref07_among) (L := 0) (n := 2) ((ref07_Wide_eq c_ref07_Wide 0 r σ _).trans ?_)
  show _ = some (AVal.bool (wide r), σ)
  simp only [c_ref07_Wide, w_ref07_among, Option.bind_some, cond_eq_ite, decide_eq_true_eq, ite_kb]
  refine some_bool ?_
  rw [Bool.eq_iff_iff, wide_iff]
  simp only [ite_iff, decide_eq_true_eq, and_true]
  omega

/-! ### Same -/
theorem law08_Same_loop {R : Type} {L : Nat} {a b : Sl} {σ : Heap} {K : AVal → Heap → Option R} {xs ys : List api_Cell} (ha : a.Is eCell σ xs) (hb : b.Is eCell σ ys) (hl : xs.length = ys.length) :
    ∀ (d i m : Nat), i + d = xs.length → d < m → law08_Same_L4 L m a b (i : Int) σ K = K (.bool (decide (xs.drop i = ys.drop i))) σ
  | d, i, 0, _, h => by omega
  | 0, i, m + 1, h, _ => by
    rw [law08_Same_L4_eq, ha.n, lt_false (by omega), cond_false, List.drop_eq_nil_of_le (by omega), List.drop_eq_nil_of_le (by omega)]
    rfl
  | d + 1, i, m + 1, h, hm => by
    have hi : i < xs.length := by omega
    have hi' : i < ys.length := by omega
    have hs := ha.small
    obtain ⟨b1, hb1, f0, f1, f2, f3, f4, f5⟩ := cell_at ha (List.getElem?_eq_getElem hi)
    obtain ⟨b2, hb2, g0, g1, g2, g3, g4, g5⟩ := cell_at hb (List.getElem?_eq_getElem hi')
    have ih := law08_Same_loop (L := L) (K := K) ha hb hl d (i + 1) m (by omega) (by omega)
    rw [law08_Same_L4_eq]
    simp only [ha.n, hb.n, dec0, lt_true hi, lt_true hi', Bool.and_self, cond_true, hb1, hb2, Option.bind_some, Int.toNat_natCast, f0, f1, f2, f3, f4, f5, g0, g1, g2, g3, g4, g5, int?, bool?, if_true, wrap_i64_succ i (by omega), cell_beq, ih]
    rw [List.drop_eq_getElem_cons hi, List.drop_eq_getElem_cons hi']
    by_cases e : xs[i] = ys[i]
    · simp only [e, decide_true, Bool.not_true, cond_false, List.cons.injEq, true_and]
    · simp only [e, decide_false, Bool.not_false, cond_true, List.cons.injEq, false_and]
noncomputable def w_law08_Same (a b : Sl) (σ : Heap) : Option (Bool × Heap) := wOf (fun p : List api_Cell × List api_Cell => a.Is eCell σ p.1 ∧ b.Is eCell σ p.2) fun p => (decide (p.1 = p.2), σ)
theorem w_law08_Same_eq {a b : Sl} {σ : Heap} {xs ys : List api_Cell} (ha : a.Is eCell σ xs) (hb : b.Is eCell σ ys) : w_law08_Same a b σ = some (decide (xs = ys), σ) :=
  wOf_eq (x := (xs, ys)) ⟨ha, hb⟩ fun y hy => by
    obtain ⟨y1, y2⟩ := y
    rw [show y1 = xs from hy.1.uniq (by decide) ha, show y2 = ys from hy.2.uniq (by decide) hb]
theorem ok_law08_Same : Ok_law08_Same w_law08_Same := fun a b σ v σ' h => by
  obtain ⟨⟨xs, ys⟩, ⟨ha, hb⟩, e⟩ := wOf_some h
  injection e with e1 e2
  subst e1; subst e2
  refine call_ok ok known0_ok (L := xs.length + 1) (n := 2) ((law08_Same_eq (xs.length + 1) a b σ _).trans ?_)
  show _ = some (AVal.bool (decide (xs = ys)), σ)
  by_cases hl : xs.length = ys.length
  · rw [ha.n, hb.n, hl, bne_self_eq_false, cond_false]
    have := law08_Same_loop (R := AVal × Heap) (L := ys.length + 1) (K := fun v σ => some (v, σ)) ha hb hl xs.length 0 (ys.length + 1) (by simp) (by omega)
    exact this
  · rw [ha.n, hb.n, show ((xs.length : Int) != (ys.length : Int)) = true by simp; omega, cond_true, decide_eq_false (fun e => hl (by rw [e]))]
end Go.Abs.TA
