/-
Contracts: slices.Repeat, blank lines, Fit.
-/
import Derived.Test.YtcfohnfnajfahaaDoorConC1
namespace Go.Abs.TA
open Go Go.Abs Go.Proofs

def zeroC : api_Cell := ⟨0, ⟨false, false, false, 0, 0⟩⟩
noncomputable def w_slices_Repeat (x : Sl) (count : Int) (σ : Heap) : Option (Sl × Heap) := wOf (fun p : api_Cell × Nat => x.Is eCell σ [p.1] ∧ count = (p.2 : Int) ∧ p.2 ≤ 1000000) fun p => fresh eCell σ false (List.replicate p.2 p.1)
theorem w_slices_Repeat_eq {x : Sl} {σ : Heap} {c : api_Cell} {n : Nat} (h : x.Is eCell σ [c]) (hn : n ≤ 1000000) : w_slices_Repeat x (n : Int) σ = some (fresh eCell σ false (List.replicate n c)) :=
  wOf_eq (x := (c, n)) ⟨h, rfl, hn⟩ fun y hy => by
    obtain ⟨c', n'⟩ := y
    have e1 := hy.1.uniq (by decide) h
    have e2 := hy.2.1
    simp only [List.cons.injEq, and_true] at e1
    simp only at e2
    rw [e1, show n' = n by omega]
theorem ok_slices_Repeat : Ok_slices_Repeat w_slices_Repeat := fun x count σ v σ' h => by
  obtain ⟨⟨c, n⟩, ⟨hx, rfl, hn⟩, e⟩ := wOf_some h
  simp only at hx hn e
  obtain ⟨rfl, rfl⟩ : v = (fresh eCell σ false (List.replicate n c)).1 ∧ σ' = (fresh eCell σ false (List.replicate n c)).2 := by rw [e]; exact ⟨rfl, rfl⟩
  have p1 : c_slices_Repeat.math_bits_Mul = w_math_bits_Mul := rfl
  have hzr : (List.replicate n [AVal.int .i32 0, .bool false, .bool false, .bool false, .int .i64 0, .int .i64 0]).flatten = eCell.all (repTo c zeroC 0 n) := by
    unfold repTo
    rw [List.replicate_zero, List.nil_append, Nat.sub_zero, rep_all]
    rfl
  have hM0 : Mine eCell σ ⟨some σ.length, 0, n⟩ (σ ++ [.row (eCell.all (repTo c zeroC 0 n)) .rw]) (repTo c zeroC 0 n) :=
    ⟨pre_push .., .row _ rfl rfl (by rw [repTo_len (by omega)]) (get_push ..), fun d hd => by simp at hd; omega⟩
  obtain ⟨b, σ2, g1, g2, g3⟩ := store_rep hM0 rfl (m := min 1 n) (by omega)
  injection g1 with g1
  subst g1
  have hMul : w_math_bits_Mul (IntKind.u64.wrap ((1 : Nat) : Int)) (IntKind.u64.wrap (n : Int)) σ = some ((0, (n : Int)), σ) := by
    rw [show IntKind.u64.wrap ((1 : Nat) : Int) = 1 by decide, show IntKind.u64.wrap (n : Int) = (n : Int) by rw [IntKind.wrap_u64]; omega]
    exact wIf_eq ⟨rfl, by omega, by omega⟩
  have hxn : x.n = 1 := hx.n
  have hr := (hx.pre (pre_push σ (.row (eCell.all (repTo c zeroC 0 n)) .rw))).readn (m := min 1 n) (by simp; omega)
  have ht : ([c] : List api_Cell).take (min 1 n) = List.replicate (min 1 n) c := by
    rcases Nat.eq_zero_or_pos n with h0 | h0
    · subst h0; rfl
    · rw [show min 1 n = 1 by omega]; rfl
  rw [ht] at hr
  have hr' : Heap.read (σ ++ [.row (eCell.all (repTo c zeroC 0 n)) .rw]) x.b x.o (min 1 n) 6 = some (eCell.all (List.replicate (min 1 n) c)) := hr
  have g2' : Heap.store (σ ++ [.row (eCell.all (repTo c zeroC 0 n)) .rw]) σ.length 0 (eCell.all (List.replicate (min 1 n) c)) = some σ2 := g2
  have key : ∃ σ1, Mine eCell σ ⟨some σ.length, 0, n⟩ σ1 (List.replicate n c) ∧ slices_Repeat_L8 (R := AVal × Heap) c_slices_Repeat (n + 1) (n + 1) ⟨some σ.length, 0, n⟩ ((min 1 n : Nat) : Int) σ2 (fun v σ => some (v, σ)) = some (.slice (some σ.length) 0 n 6, σ1) := by
    rcases Nat.eq_zero_or_pos n with h0 | h0
    · subst h0
      refine ⟨σ2, g3, ?_⟩
      rw [slices_Repeat_L8_eq]
      rfl
    · exact slices_Repeat_loop (R := AVal × Heap) (L := n + 1) (K := fun v σ => some (v, σ)) hn rfl (n - min 1 n) (min 1 n) (n + 1) σ2 (by omega) (by omega) (by omega) (by rw [Nat.zero_add] at g3; exact g3)
  obtain ⟨σ1, k1, k2⟩ := key
  refine call_mine (out := ⟨some σ.length, 0, n⟩) (call_ok ok (K_slices_Repeat c_slices_Repeat ok_math_bits_Mul) (L := n + 1) (n := 2) (σ' := σ1) ((slices_Repeat_eq c_slices_Repeat (n + 1) x (n : Int) σ _).trans ?_)) k1 rfl
  rw [show decide ((n : Int) < 0) = false by simp, cond_false, p1, hxn, hMul, Option.bind_some]
  rw [show decide ((0 : Int) > 0) = false by decide, cond_false]
  simp only
  rw [show decide ((n : Int) > 9223372036854775807) = false by rw [decide_eq_false_iff_not]; omega, cond_false, wrap_i64_nat n (by omega)]
  simp only [dec0, Int.le_refl, decide_true, Bool.and_self, show decide (32 * (n : Int) ≤ 70368744177664) = true by rw [decide_eq_true_iff]; omega, show decide ((n : Int) ≤ 70368744177664) = true by rw [decide_eq_true_iff]; omega, cond_true, Int.toNat_natCast, alloc, hzr]
  rw [hr', Option.bind_some, g2', Option.bind_some]
  exact k2

def blankC (s : api_Style) : api_Cell := ⟨32, ⟨false, false, false, 0, s.Back⟩⟩
noncomputable def c_grid_blank : C_grid_blank := { cell_Blank := w_cell_Blank, slices_Repeat := w_slices_Repeat }
noncomputable def w_grid_blank (w : Int) (s : api_Style) (σ : Heap) : Option (Sl × Heap) := wOf (fun n : Nat => w = (n : Int) ∧ n ≤ 1000000) fun n => fresh eCell σ false (List.replicate n (blankC s))
theorem w_grid_blank_eq {s : api_Style} {σ : Heap} {n : Nat} (hn : n ≤ 1000000) : w_grid_blank (n : Int) s σ = some (fresh eCell σ false (List.replicate n (blankC s))) :=
  wOf_eq ⟨rfl, hn⟩ fun y hy => by rw [show y = n by have := hy.1; omega]
theorem ok_grid_blank : Ok_grid_blank w_grid_blank := fun w s σ v σ' h => by
  obtain ⟨n, ⟨rfl, hn⟩, e⟩ := wOf_some h
  obtain ⟨rfl, rfl⟩ : v = (fresh eCell σ false (List.replicate n (blankC s))).1 ∧ σ' = (fresh eCell σ false (List.replicate n (blankC s))).2 := by rw [e]; exact ⟨rfl, rfl⟩
  have p1 : c_grid_blank.cell_Blank = w_cell_Blank := rfl
  have p2 : c_grid_blank.slices_Repeat = w_slices_Repeat := rfl
  have hp : σ <+: σ ++ [.row (blankC s).cells .rw] := pre_push ..
  have hR : w_slices_Repeat ⟨some σ.length, 0, 1⟩ (n : Int) (σ ++ [.row (blankC s).cells .rw]) = some (fresh eCell (σ ++ [.row (blankC s).cells .rw]) false (List.replicate n (blankC s))) :=
    w_slices_Repeat_eq (Sl.Is.new (E := eCell) (xs := [blankC s]) (by simp)) hn
  have ho := fresh_own eCell (σ ++ [.row (blankC s).cells .rw]) false (List.replicate n (blankC s)) (fun h => by cases h)
  have hpre := fresh_pre eCell (σ ++ [.row (blankC s).cells .rw]) false (List.replicate n (blankC s))
  have hnew := fresh_new eCell (σ ++ [.row (blankC s).cells .rw]) false (List.replicate n (blankC s))
  have hnone := fresh_isNone eCell (σ ++ [.row (blankC s).cells .rw]) false (List.replicate n (blankC s))
  generalize fresh eCell (σ ++ [.row (blankC s).cells .rw]) false (List.replicate n (blankC s)) = q at hR ho hpre hnew hnone
  refine call_mine (out := q.1) (call_ok ok (K_grid_blank c_grid_blank ok_cell_Blank ok_slices_Repeat) (L := 0) (n := 2) (σ' := q.2) ((grid_blank_eq c_grid_blank 0 (n : Int) s σ _).trans ?_)) ⟨hp.trans hpre, ho, fun c hc => by have := hnew c hc; simp at this; omega⟩ hnone.symm
  simp only [p1, p2, w_cell_Blank, Option.bind_some, alloc]
  have hR' : w_slices_Repeat ⟨some σ.length, 0, 1⟩ (n : Int) (σ ++ [.row [.int .i32 32, .bool false, .bool false, .bool false, .int .i64 0, .int .i64 s.Back] .rw]) = some q := hR
  rw [hR', Option.bind_some]

/-! ### Fit -/
def fitL (xs : List api_Cell) (w : Nat) : List api_Cell := if w ≤ xs.length then mend (xs.take w) else xs ++ List.replicate (w - xs.length) (blankC ⟨false, false, false, 0, 0⟩)
noncomputable def c_grid_Fit : C_grid_Fit := { cell_Mend := w_cell_Mend, slices_Clone := w_slices_Clone, grid_blank := w_grid_blank }
noncomputable def w_grid_Fit (l : Sl) (w : Int) (σ : Heap) : Option (Sl × Heap) :=
  wOf (fun xs => l.Is eCell σ xs ∧ WideOK σ ∧ xs.length ≤ 100000 ∧ w ≤ 100000) fun xs => fresh eCell σ (decide (w.toNat ≤ xs.length) && l.b.isNone) (fitL xs w.toNat)
theorem w_grid_Fit_eq {l : Sl} {w : Int} {σ : Heap} {xs : List api_Cell} (h : l.Is eCell σ xs) (hw : WideOK σ) (hx : xs.length ≤ 100000) (hl : w ≤ 100000) : w_grid_Fit l w σ = some (fresh eCell σ (decide (w.toNat ≤ xs.length) && l.b.isNone) (fitL xs w.toNat)) :=
  wOf_eq ⟨h, hw, hx, hl⟩ fun y hy => by rw [hy.1.uniq (by decide) h]
theorem ok_grid_Fit : Ok_grid_Fit w_grid_Fit := fun l w σ v σ' h => by
  obtain ⟨xs, ⟨hl, hw, hx, hw1⟩, e⟩ := wOf_some h
  obtain ⟨rfl, rfl⟩ : v = (fresh eCell σ (decide (w.toNat ≤ xs.length) && l.b.isNone) (fitL xs w.toNat)).1 ∧ σ' = (fresh eCell σ (decide (w.toNat ≤ xs.length) && l.b.isNone) (fitL xs w.toNat)).2 := by rw [e]; exact ⟨rfl, rfl⟩
  have p1 : c_grid_Fit.cell_Mend = w_cell_Mend := rfl
  have p2 : c_grid_Fit.slices_Clone = w_slices_Clone := rfl
  have p3 : c_grid_Fit.grid_blank = w_grid_blank := rfl
  have hW : (if (0 : Int) > w then 0 else w) = (w.toNat : Int) := by split <;> omega
  have hK := K_grid_Fit c_grid_Fit ok_cell_Mend ok_slices_Clone ok_grid_blank
  have heq := grid_Fit_eq (R := AVal × Heap) c_grid_Fit 0 l w σ (fun v σ => some (v, σ))
  rw [hW, hl.n] at heq
  generalize hwn : w.toNat = W at *
  by_cases hle : W ≤ xs.length
  · have hM := w_cell_Mend_eq (hl.take (k := W) hle) (by simp; omega) hw
    rw [show decide ((xs.length : Int) ≥ (W : Int)) = true by simp; omega, cond_true] at heq
    simp only [dec0, show decide ((W : Int) ≤ (xs.length : Int)) = true by simp; omega, Bool.and_self, cond_true, Int.toNat_natCast, p1, hM, Option.bind_some] at heq
    rw [decide_eq_true hle, Bool.true_and, show fitL xs W = mend (xs.take W) by unfold fitL; rw [if_pos hle]]
    have : callC (R := AVal × Heap) T (O_grid_Fit c_grid_Fit) 0 2 44 [(tSl 6).av l, (tInt .i64).av w] σ (fun v σ => some (v, σ)) = some ((tSl 6).av (fresh eCell σ l.b.isNone (mend (xs.take W))).1, (fresh eCell σ l.b.isNone (mend (xs.take W))).2) := by
      have hn := hl.n
      show callC _ _ _ _ _ [.slice l.b l.o l.n 6, .int .i64 w] _ _ = _
      rw [hn]
      exact heq
    exact call_ok ok hK this
  · rw [show decide ((xs.length : Int) ≥ (W : Int)) = false by simp; omega, cond_false] at heq
    rw [decide_eq_false hle, Bool.false_and, show fitL xs W = xs ++ List.replicate (W - xs.length) (blankC ⟨false, false, false, 0, 0⟩) by unfold fitL; rw [if_neg hle]]
    have hC := w_slices_Clone_eq hl (by omega)
    rw [p2, hC, Option.bind_some] at heq
    have hn0 : l.b.isNone = true → xs = [] := Is_nil_of hl
    have M0 : Mine eCell σ (fresh eCell σ l.b.isNone xs).1 (fresh eCell σ l.b.isNone xs).2 xs := ⟨fresh_pre .., fresh_own _ _ _ _ hn0, fresh_new eCell σ l.b.isNone xs⟩
    generalize fresh eCell σ l.b.isNone xs = q4 at M0 heq
    rw [show (W : Int) - (xs.length : Int) = ((W - xs.length : Nat) : Int) by omega, wrap_i64_nat _ (by omega), p3, w_grid_blank_eq (by omega), Option.bind_some] at heq
    have B := fresh_own eCell q4.2 false (List.replicate (W - xs.length) (blankC ⟨false, false, false, 0, 0⟩)) (fun h => by cases h)
    have BP := fresh_pre eCell q4.2 false (List.replicate (W - xs.length) (blankC ⟨false, false, false, 0, 0⟩))
    generalize fresh eCell q4.2 false (List.replicate (W - xs.length) (blankC ⟨false, false, false, 0, 0⟩)) = q5 at B BP heq
    have hr := (B.is (by simp; omega)).read
    have hbn : q5.1.n = W - xs.length := by rw [B.len, List.length_replicate]
    have hr' : q5.2.read q5.1.b q5.1.o q5.1.n 6 = some (eCell.all (List.replicate (W - xs.length) (blankC ⟨false, false, false, 0, 0⟩))) := hr
    obtain ⟨q, σ2, ha, hM⟩ := (M0.step BP).append (zs := List.replicate (W - xs.length) (blankC ⟨false, false, false, 0, 0⟩)) (bytes := 32) (k := q5.1.n) rfl (by rw [hbn, List.length_replicate]) (by simp; omega) (by simp; omega)
    have ha' : q5.2.append q4.1.b q4.1.o q4.1.n 6 32 (eCell.all (List.replicate (W - xs.length) (blankC ⟨false, false, false, 0, 0⟩))) q5.1.n = some (q, σ2) := ha
    rw [hr', Option.bind_some, ha', Option.bind_some] at heq
    have : callC (R := AVal × Heap) T (O_grid_Fit c_grid_Fit) 0 2 44 [(tSl 6).av l, (tInt .i64).av w] σ (fun v σ => some (v, σ)) = some (.slice q.1 q.2.1 q.2.2 6, σ2) := by
      have hn := hl.n
      show callC _ _ _ _ _ [.slice l.b l.o l.n 6, .int .i64 w] _ _ = _
      rw [hn]
      exact heq
    exact call_mine (out := ⟨q.1, q.2.1, q.2.2⟩) (call_ok ok hK this) hM (Own.some_of_ne hM.own (by
      intro e
      have := congrArg List.length e
      simp at this
      omega)).symm
end Go.Abs.TA
