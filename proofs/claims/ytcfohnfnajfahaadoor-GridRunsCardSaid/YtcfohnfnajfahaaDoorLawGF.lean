/-
GridFits answers true.
-/
import Derived.Test.YtcfohnfnajfahaaDoorMConC
import Derived.Test.YtcfohnfnajfahaaDoorMConA
namespace Go.Abs.TA
open Go Go.Abs Go.Proofs

def bl : api_Cell := blankC ⟨false, false, false, 0, 0⟩
def gf (ls : List api_Cell) (i : Nat) : List api_Cell := ls.take i ++ List.replicate (i - ls.length) bl
theorem gf_len (ls : List api_Cell) (i : Nat) : (gf ls i).length = i := by simp [gf]; omega
theorem gf_in {ls : List api_Cell} {i : Nat} {c : api_Cell} (h : ls[i]? = some c) : gf ls (i + 1) = gf ls i ++ [c] := by
  obtain ⟨hi, rfl⟩ := List.getElem?_eq_some_iff.1 h
  unfold gf
  rw [show i + 1 - ls.length = 0 by omega, show i - ls.length = 0 by omega, List.replicate_zero, List.append_nil, List.append_nil, List.take_succ_eq_append_getElem hi]
theorem gf_out {ls : List api_Cell} {i : Nat} (h : ls.length ≤ i) : gf ls (i + 1) = gf ls i ++ [bl] := by
  unfold gf
  rw [List.take_of_length_le (by omega), List.take_of_length_le h, show i + 1 - ls.length = (i - ls.length) + 1 by omega, List.replicate_succ', List.append_assoc]
theorem pairedN_blank (ls : List api_Cell) (n k : Nat) : pairedN (ls ++ List.replicate n bl) k = pairedN ls k := by
  have hin : ∀ {i : Nat} {c : api_Cell}, c.Rune ≠ 32 → (ls ++ List.replicate n bl)[i]? = some c → ls[i]? = some c := fun {i c} hc h => by
    by_cases hi : i < ls.length
    · rw [List.getElem?_append_left hi] at h; exact h
    · rw [List.getElem?_append_right (by omega)] at h
      obtain ⟨hj, e⟩ := List.getElem?_eq_some_iff.1 h
      rw [List.getElem_replicate] at e
      exact absurd (by rw [← e]; rfl) hc
  have hout : ∀ {i : Nat} {c : api_Cell}, ls[i]? = some c → (ls ++ List.replicate n bl)[i]? = some c := fun {i c} h => by
    obtain ⟨hi, _⟩ := List.getElem?_eq_some_iff.1 h
    rw [List.getElem?_append_left hi]; exact h
  rw [Bool.eq_iff_iff, pairedN_iff, pairedN_iff]
  constructor
  · rintro ⟨a, h1, h2, h3⟩
    exact ⟨a, hin (wide_ne h2).2 h1, h2, hin (show ¬ ((0:Int) = 32) by decide) h3⟩
  · rintro ⟨a, h1, h2, h3⟩
    exact ⟨a, hout h1, h2, hout h3⟩
theorem mend_gf {ls : List api_Cell} (hm : mend ls = ls) (W : Nat) : mend (gf ls W) = fitL ls W := by
  unfold fitL
  split
  · rename_i h
    unfold gf
    rw [show W - ls.length = 0 by omega, List.replicate_zero, List.append_nil]
  · rename_i h
    unfold gf
    rw [List.take_of_length_le (by omega)]
    apply List.ext_getElem?
    intro i
    cases hx : (ls ++ List.replicate (W - ls.length) bl)[i]? with
    | none =>
      rw [List.getElem?_eq_none (by rw [mend_len]; exact List.getElem?_eq_none_iff.1 hx)]
      exact hx.symm
    | some c =>
      rw [mend_get hx]
      refine Eq.trans (congrArg some ?_) hx.symm
      have hp : ∀ j, paired (ls ++ List.replicate (W - ls.length) bl) j = paired ls j := fun j => by unfold paired; rw [pairedN_blank]
      by_cases hi : i < ls.length
      · rw [List.getElem?_append_left hi] at hx
        have := mend_get hx
        rw [hm, hx] at this
        injection this with this
        unfold mendAt at this ⊢
        rw [hp, hp]
        exact this.symm
      · rw [List.getElem?_append_right (by omega)] at hx
        obtain ⟨hj, e⟩ := List.getElem?_eq_some_iff.1 hx
        rw [List.getElem_replicate] at e
        subst e
        unfold mendAt
        split <;> rfl
theorem tamed_gf {ls : List api_Cell} (h : Tamed ls) (W : Nat) : Tamed (gf ls W) := by
  intro c hc
  unfold gf at hc
  rcases List.mem_append.1 hc with hc | hc
  · exact h c (List.mem_of_mem_take hc)
  · rw [(List.mem_replicate.1 hc).2]
    exact ⟨by decide, .inr (by decide)⟩
theorem within_mem (n : Int) : -1 ≤ within n (-1) 300 ∧ within n (-1) 300 ≤ 300 := by
  unfold within
  constructor <;> (repeat' split) <;> omega

noncomputable def c_GridFits : C_law09_GridFits := { law09_fit := w_law09_fit, law08_Tame := w_law08_Tame, ref08_Mend := w_ref08_Mend, law09_within := w_law09_within, grid_Fit := w_grid_Fit, law08_Same := w_law08_Same, cell_Whole := w_cell_Whole }
theorem GridFits_loop {L : Nat} {l : Sl} {σ0 : Heap} {ls : List api_Cell} {W : Nat} {w : Int} (hl : l.Is eCell σ0 ls) (hw : WideOK σ0) (hls : ls.length ≤ 200) (hW : W ≤ 300) (hwW : w.toNat = W) (hw3 : w ≤ 300) (hm : mend ls = ls) (ht : Tamed ls) :
    ∀ (d i m : Nat) (out : Sl) (σ : Heap), i + d = W → d < m → Mine eCell σ0 out σ (gf ls i) →
      ∃ σ1, law09_GridFits_L9 (R := AVal × Heap) c_GridFits L m l w out (W : Int) (i : Int) σ (fun v σ => some (v, σ)) = some (.bool true, σ1)
  | d, i, 0, _, _, _, h, _ => by omega
  | 0, i, m + 1, out, σ, h, _, ho => by
    have e : i = W := by omega
    subst e
    have p1 : c_GridFits.grid_Fit = w_grid_Fit := rfl
    have p2 : c_GridFits.ref08_Mend = w_ref08_Mend := rfl
    have p3 : c_GridFits.law08_Same = w_law08_Same := rfl
    have p4 : c_GridFits.cell_Whole = w_cell_Whole := rfl
    rw [law09_GridFits_L9_eq, lt_false (show ¬ i < i by omega), cond_false, p1]
    have hl' := hl.pre ho.pre
    have hw' := hw.pre ho.pre
    rw [w_grid_Fit_eq hl' hw' (by omega) (by omega), Option.bind_some, hwW]
    have hnil : (decide (i ≤ ls.length) && l.b.isNone) = true → fitL ls i = [] := fun h => by
      simp only [Bool.and_eq_true, decide_eq_true_eq] at h
      have := Is_nil_of hl h.2
      subst this
      have h1 := h.1
      simp at h1
      subst h1
      rfl
    have A := fresh_own eCell σ (decide (i ≤ ls.length) && l.b.isNone) (fitL ls i) hnil
    have AP := fresh_pre eCell σ (decide (i ≤ ls.length) && l.b.isNone) (fitL ls i)
    generalize fresh eCell σ (decide (i ≤ ls.length) && l.b.isNone) (fitL ls i) = q1 at A AP ⊢
    have hf := mend_gf hm i
    have hfl : (fitL ls i).length = i := by rw [← hf, mend_len, gf_len]
    have I1 := A.is (by omega)
    have w1 := hw'.pre AP
    have Iw := (ho.own.is (by rw [gf_len]; omega)).pre AP
    rw [p2, w_ref08_Mend_eq Iw (by rw [gf_len]; omega), Option.bind_some, hf]
    have C := fresh_own eCell q1.2 (decide (gf ls i = [])) (fitL ls i) (fun h => by simp at h; rw [← hf, h]; rfl)
    have CP := fresh_pre eCell q1.2 (decide (gf ls i = [])) (fitL ls i)
    generalize fresh eCell q1.2 (decide (gf ls i = [])) (fitL ls i) = q2 at C CP ⊢
    have I2 := C.is (by omega)
    have I12 := I1.pre CP
    rw [p3, w_law08_Same_eq I12 I2, Option.bind_some, decide_eq_true rfl]
    simp only [cond_true, p4]
    rw [w_cell_Whole_eq I12 (w1.pre CP), Option.bind_some, ← hf, whole_mend (tamed_gf ht i)]
    exact ⟨_, rfl⟩
  | d + 1, i, m + 1, out, σ, h, hm1, ho => by
    have hl' := hl.pre ho.pre
    rw [law09_GridFits_L9_eq, lt_true (show i < W by omega), cond_true, hl.n, wrap_i64_succ i (by omega)]
    by_cases hi : i < ls.length
    · have hx := List.getElem?_eq_getElem hi
      obtain ⟨b, hb', f0, f1, f2, f3, f4, f5⟩ := cell_at hl' hx
      obtain ⟨q, σ', ha, hM⟩ := ho.append (zs := [ls[i]]) (bytes := 32) (vs := ls[i].cells) (k := 1) rfl rfl (by rw [gf_len]; simp; omega) (by rw [gf_len]; simp; omega)
      rw [← gf_in hx] at hM
      obtain ⟨σ1, k⟩ := GridFits_loop (L := L) hl hw hls hW hwW hw3 hm ht d (i + 1) m ⟨q.1, q.2.1, q.2.2⟩ σ' (by omega) (by omega) hM
      refine ⟨σ1, ?_⟩
      have ha' : σ.append out.b out.o out.n 6 32 [.int .i32 ls[i].Rune, .bool ls[i].Style.Bold, .bool ls[i].Style.Under, .bool ls[i].Style.Turned, .int .i64 ls[i].Style.Fore, .int .i64 ls[i].Style.Back] 1 = some (q, σ') := ha
      simp only [dec0, lt_true hi, Bool.and_self, cond_true, hb', Option.bind_some, Int.toNat_natCast, f0, f1, f2, f3, f4, f5, int?, bool?, if_true]
      rw [ha', Option.bind_some]
      exact k
    · obtain ⟨q, σ', ha, hM⟩ := ho.append (zs := [bl]) (bytes := 32) (vs := bl.cells) (k := 1) rfl rfl (by rw [gf_len]; simp; omega) (by rw [gf_len]; simp; omega)
      rw [← gf_out (by omega)] at hM
      obtain ⟨σ1, k⟩ := GridFits_loop (L := L) hl hw hls hW hwW hw3 hm ht d (i + 1) m ⟨q.1, q.2.1, q.2.2⟩ σ' (by omega) (by omega) hM
      refine ⟨σ1, ?_⟩
      have ha' : σ.append out.b out.o out.n 6 32 [.int .i32 32, .bool false, .bool false, .bool false, .int .i64 0, .int .i64 0] 1 = some (q, σ') := ha
      rw [lt_false hi, cond_false, ha', Option.bind_some]
      exact k
theorem law_GridFits (l : Sl) (w : Int) {σ : Heap} {xs : List api_Cell} (hn : l.n = xs.length) (hI : xs.length ≤ 1099511627776 → l.Is eCell σ xs) (hw : WideOK σ) :
    ∃ σ1, CallOK Tryd.prog T 11 [(tSl eCell.z).av l, (tInt .i64).av w] σ (tBool.av true) σ1 := by
  have hK := K_law09_GridFits c_GridFits ok_law08_Tame ok_ref08_Mend ok_law08_Same ok_cell_Whole ok_law09_fit ok_law09_within ok_grid_Fit
  have p1 : c_GridFits.law09_fit = w_law09_fit := rfl
  have p2 : c_GridFits.law08_Tame = w_law08_Tame := rfl
  have p3 : c_GridFits.ref08_Mend = w_ref08_Mend := rfl
  have p4 : c_GridFits.law09_within = w_law09_within := rfl
  have go : ∃ σ1, callC (R := AVal × Heap) T (O_law09_GridFits c_GridFits) 400 2 11 [.slice l.b l.o l.n 6, .int .i64 w] σ (fun v σ => some (v, σ)) = some (.bool true, σ1) := by
    rw [law09_GridFits_eq, p1, w_law09_fit_eq hw, Option.bind_some, hn]
    simp only [Bool.not_true, cond_false]
    by_cases h1 : xs.length ≤ 200
    · rw [show decide ((xs.length : Int) > 200) = false by simp; omega, cond_false]
      have hl := hI (by omega)
      rw [p2, w_law08_Tame_eq hl (by omega), Option.bind_some]
      have ht := tamed_map xs
      generalize hys : xs.map tameC = ys at ht ⊢
      have hyl : ys.length ≤ 200 := by rw [← hys, List.length_map]; exact h1
      have hnil : decide (xs = []) = true → ys = [] := by
        intro h
        simp at h
        rw [← hys, h]; rfl
      have A := fresh_own eCell σ (decide (xs = [])) ys hnil
      have AP := fresh_pre eCell σ (decide (xs = [])) ys
      generalize fresh eCell σ (decide (xs = [])) ys = q3 at A AP ⊢
      have I3 := A.is (by omega)
      have w3 := hw.pre AP
      rw [p3, w_ref08_Mend_eq I3 (by omega), Option.bind_some]
      have B := fresh_own eCell q3.2 (decide (ys = [])) (mend ys) (fun h => by simp at h; rw [h]; rfl)
      have BP := fresh_pre eCell q3.2 (decide (ys = [])) (mend ys)
      generalize fresh eCell q3.2 (decide (ys = [])) (mend ys) = q4 at B BP ⊢
      have I4 := B.is (by rw [mend_len]; omega)
      have w4 := w3.pre BP
      simp only [p4, w_law09_within, Option.bind_some]
      have hr := within_mem w
      generalize within w (-1) 300 = x at hr ⊢
      rw [show (if (0 : Int) > x then 0 else x) = (x.toNat : Int) by split <;> omega]
      exact GridFits_loop (L := 400) I4 w4 (by rw [mend_len]; omega) (W := x.toNat) (by omega) rfl hr.2 mend_mend (tamed_mend ht) x.toNat 0 400 ⟨none, 0, 0⟩ q4.2 (by omega) (by omega) (by
        have : gf (mend ys) 0 = [] := by simp [gf]
        rw [this]
        exact Mine.start _)
    · rw [show decide ((xs.length : Int) > 200) = true by simp; omega, cond_true]
      exact ⟨_, rfl⟩
  obtain ⟨σ1, h⟩ := go
  exact ⟨σ1, call_ok ok hK h⟩
end Go.Abs.TA
