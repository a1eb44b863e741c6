/-
CellMends answers true.
-/
import Derived.Test.YtcfohnfnajfahaaDoorConA7
namespace Go.Abs.TA
open Go Go.Abs Go.Proofs

noncomputable def c_CellMends : C_law08_CellMends := { law08_fit := w_law08_fit, law08_Tame := w_law08_Tame, cell_Mend := w_cell_Mend, ref08_Mend := w_ref08_Mend, law08_Same := w_law08_Same, cell_Whole := w_cell_Whole }
theorem law_CellMends (l : Sl) {σ : Heap} {xs : List api_Cell} (hn : l.n = xs.length) (hI : xs.length ≤ 1099511627776 → l.Is eCell σ xs) (hw : WideOK σ) :
    ∃ σ1, CallOK Tryd.prog T 5 [(tSl eCell.z).av l] σ (tBool.av true) σ1 := by
  have hK := K_law08_CellMends c_CellMends ok_law08_fit ok_law08_Tame ok_cell_Mend ok_ref08_Mend ok_law08_Same ok_cell_Whole
  have p1 : c_CellMends.law08_fit = w_law08_fit := rfl
  have p2 : c_CellMends.law08_Tame = w_law08_Tame := rfl
  have p3 : c_CellMends.cell_Mend = w_cell_Mend := rfl
  have p4 : c_CellMends.ref08_Mend = w_ref08_Mend := rfl
  have p5 : c_CellMends.law08_Same = w_law08_Same := rfl
  have p6 : c_CellMends.cell_Whole = w_cell_Whole := rfl
  have go : ∃ σ1, callC (R := AVal × Heap) T (O_law08_CellMends c_CellMends) 0 2 5 [.slice l.b l.o l.n 6] σ (fun v σ => some (v, σ)) = some (.bool true, σ1) := by
    rw [law08_CellMends_eq, p1, w_law08_fit_eq hw, Option.bind_some, hn]
    simp only [Bool.not_true, cond_false]
    by_cases h1 : xs.length ≤ 100
    · rw [show decide ((xs.length : Int) > 100) = false by simp; omega, cond_false]
      have hl := hI (by omega)
      rw [p2, w_law08_Tame_eq hl (by omega), Option.bind_some]
      -- the tamed line
      have ht := tamed_map xs
      generalize hys : xs.map tameC = ys at ht ⊢
      have hyl : ys.length ≤ 100 := by rw [← hys, List.length_map]; exact h1
      have hnil : decide (xs = []) = true → ys = [] := by
        intro h
        simp at h
        rw [← hys, h]; rfl
      have A := fresh_own eCell σ (decide (xs = [])) ys hnil
      have AP := fresh_pre eCell σ (decide (xs = [])) ys
      generalize fresh eCell σ (decide (xs = [])) ys = q3 at A AP ⊢
      have I3 := A.is (by omega)
      have w3 := hw.pre AP
      rw [p3, w_cell_Mend_eq I3 (by omega) w3, Option.bind_some]
      have hnil3 : q3.1.b.isNone = true → mend ys = [] := fun h => by rw [Is_nil_of I3 h]; rfl
      have B := fresh_own eCell q3.2 q3.1.b.isNone (mend ys) hnil3
      have BP := fresh_pre eCell q3.2 q3.1.b.isNone (mend ys)
      generalize fresh eCell q3.2 q3.1.b.isNone (mend ys) = q4 at B BP ⊢
      have I4 := B.is (by rw [mend_len]; omega)
      have w4 := w3.pre BP
      rw [p4, w_ref08_Mend_eq (I3.pre BP) (by omega), Option.bind_some]
      have C := fresh_own eCell q4.2 (decide (ys = [])) (mend ys) (fun h => by simp at h; rw [h]; rfl)
      have CP := fresh_pre eCell q4.2 (decide (ys = [])) (mend ys)
      generalize fresh eCell q4.2 (decide (ys = [])) (mend ys) = q5 at C CP ⊢
      have I5 := C.is (by rw [mend_len]; omega)
      have w5 := w4.pre CP
      have I45 := I4.pre CP
      have I35 := (I3.pre BP).pre CP
      rw [p5, w_law08_Same_eq I45 I5, Option.bind_some, decide_eq_true rfl]
      simp only [cond_true, p6]
      rw [w_cell_Whole_eq I45 w5, Option.bind_some, whole_mend ht, cond_true, w_cell_Whole_eq I35 w5, Option.bind_some, w_law08_Same_eq I35 I5, Option.bind_some]
      have e : (whole ys == decide (ys = mend ys)) = true := by
        rw [beq_iff_eq, Bool.eq_iff_iff, whole_iff_mend ht, decide_eq_true_iff]
        exact eq_comm
      simp only [e, cond_true]
      rw [w_cell_Mend_eq I45 (by rw [mend_len]; omega) w5, Option.bind_some]
      have D := fresh_own eCell q5.2 q4.1.b.isNone (mend (mend ys)) (fun h => by rw [Is_nil_of I4 h]; rfl)
      have DP := fresh_pre eCell q5.2 q4.1.b.isNone (mend (mend ys))
      generalize fresh eCell q5.2 q4.1.b.isNone (mend (mend ys)) = q10 at D DP ⊢
      have I10 := D.is (by rw [mend_len, mend_len]; omega)
      rw [w_law08_Same_eq I10 (I45.pre DP), Option.bind_some, decide_eq_true mend_mend]
      exact ⟨_, rfl⟩
    · rw [show decide ((xs.length : Int) > 100) = true by simp; omega, cond_true]
      exact ⟨_, rfl⟩
  obtain ⟨σ1, h⟩ := go
  exact ⟨σ1, call_ok ok hK h⟩
end Go.Abs.TA
