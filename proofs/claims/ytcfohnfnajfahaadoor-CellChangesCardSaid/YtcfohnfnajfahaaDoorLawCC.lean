/-
CellChanges answers true.
-/
import Derived.Test.YtcfohnfnajfahaaDoorConA4
namespace Go.Abs.TA
open Go Go.Abs Go.Proofs

noncomputable def c_CellChanges : C_law08_CellChanges := { law08_fit := w_law08_fit, cell_Change := w_cell_Change }
def low16 (n : Int) : Nat := (BitVec.ofInt IntKind.i64.bits n &&& BitVec.ofInt IntKind.i64.bits 65535).toNat
theorem low16_le (n : Int) : low16 n ≤ 65535 := by
  unfold low16
  rw [BitVec.toNat_and]
  exact Nat.le_trans Nat.and_le_right (by decide)
theorem wrap_low16 (n : Int) : IntKind.i64.wrap (BitVec.ofInt IntKind.i64.bits n &&& BitVec.ofInt IntKind.i64.bits 65535).toNat = (low16 n : Int) :=
  wrap_i64_nat _ (Nat.le_trans (low16_le n) (by decide))
theorem mod_low16 (n : Int) (len : Nat) : Int.tmod (low16 n : Int) (len : Int) = ((low16 n % len : Nat) : Int) := by
  rw [Int.tmod_eq_emod_of_nonneg (by omega)]
  rfl
theorem chgs_cons (s : api_Style) (x : Int) (l : List Int) : chgs s (x :: l) = (x :: l).foldl chg s := by simp [chgs]
theorem chgs_ne {s : api_Style} {l : List Int} (h : l ≠ []) : chgs s l = l.foldl chg s := by simp [chgs, h]

theorem CellChanges_loop {R : Type} {L : Nat} {l : Sl} {at_ : Int} {s : api_Style} {σ : Heap} {K : AVal → Heap → Option R} {xs : List Int} (hl : l.Is eI64 σ xs) (h0 : xs ≠ []) (h100 : xs.length ≤ 100) :
    ∀ (d i m : Nat) (σ' : Heap), i + d = xs.length → d < m → σ <+: σ' → ∃ σ1, law08_CellChanges_L7 c_CellChanges L m l at_ (i : Int) s ((xs.take i).foldl chg s) σ' K = K (.bool true) σ1
  | d, i, 0, _, _, h, _ => by omega
  | 0, i, m + 1, σ', h, _, hp => by
    have hl' := hl.pre hp
    have hlen : 0 < xs.length := List.length_pos_iff.2 h0
    have p2 : c_CellChanges.cell_Change = w_cell_Change := rfl
    refine ⟨σ', ?_⟩
    rw [law08_CellChanges_L7_eq, hl.n, lt_false (by omega), cond_false, if_neg (by omega)]
    simp only [wrap_low16, mod_low16]
    have hk : low16 at_ % xs.length < xs.length := Nat.mod_lt _ hlen
    generalize hkk : low16 at_ % xs.length = k at hk
    rw [show (1 : Int) + (k : Int) = ((k + 1 : Nat) : Int) by simp; omega, wrap_i64_nat (k + 1) (by omega)]
    have e1 := w_cell_Change_eq (s := s) (hl'.take (k := k + 1) (by omega)).frz
    have e2 := fun s2 : api_Style => w_cell_Change_eq (s := s2) (hl'.drop (k := k + 1) (by omega))
    have e3 := w_cell_Change_eq (s := s) hl'.frz
    rw [hl.n] at e2
    have ez : eI64.z = 1 := rfl
    rw [ez] at e2
    have t0 : xs.take (k + 1) ≠ [] := by
      intro h
      have := congrArg List.length h
      simp at this
      exact h0 this
    rw [show i = xs.length by omega, List.take_length]
    simp only [dec0, show decide (((k + 1 : Nat) : Int) ≤ (xs.length : Int)) = true by simp; omega, Bool.and_self, cond_true, p2, Int.toNat_natCast, e1, Option.bind_some, Heap.back_frz, e2, e3, decide_true, Int.le_refl, chgs_ne h0, chgs_ne t0, style_beq]
    by_cases hlt : k + 1 < xs.length
    · have d0 : xs.drop (k + 1) ≠ [] := by
        intro h
        have := congrArg List.length h
        simp at this
        omega
      rw [lt_true hlt]
      simp only [cond_true, chgs_ne d0]
      rw [← List.foldl_append, List.take_append_drop, decide_eq_true rfl]
    · rw [lt_false hlt]
      simp only [cond_false]
      rw [List.take_of_length_le (by omega), decide_eq_true rfl]
  | d + 1, i, m + 1, σ', h, hm, hp => by
    have hi : i < xs.length := by omega
    have hl' := hl.pre hp
    obtain ⟨b, hb, hc⟩ := i64_cell hl' (List.getElem?_eq_getElem hi)
    have p2 : c_CellChanges.cell_Change = w_cell_Change := rfl
    have e := fun s2 : api_Style => w_cell_Change_eq (s := s2) (Sl.Is.new (E := eI64) (σ := σ') (xs := [xs[i]]) (by simp))
    have e' : ∀ s2 : api_Style, w_cell_Change s2 ⟨some σ'.length, 0, 1⟩ (σ' ++ [.row [.int .i64 xs[i]] .rw]) = some (chg s2 xs[i], σ' ++ [.row [.int .i64 xs[i]] .rw]) := e
    obtain ⟨σ1, ih⟩ := CellChanges_loop (L := L) (at_ := at_) (s := s) (K := K) hl h0 h100 d (i + 1) m _ (by omega) (by omega) (hp.trans (pre_push σ' (.row [.int .i64 xs[i]] .rw)))
    refine ⟨σ1, ?_⟩
    rw [law08_CellChanges_L7_eq]
    simp only [hl.n, dec0, lt_true hi, Bool.and_self, cond_true, hb, Option.bind_some, Int.toNat_natCast, hc, int?, if_true, alloc, p2, e', wrap_i64_succ i (by omega)]
    rw [List.take_succ_eq_append_getElem hi, List.foldl_append] at ih
    exact ih

theorem law_CellChanges (s : api_Style) (l : Sl) (at_ : Int) {σ : Heap} {xs : List Int} (hn : l.n = xs.length) (hI : xs.length ≤ 1099511627776 → l.Is eI64 σ xs) (hw : WideOK σ) :
    ∃ σ1, CallOK Tryd.prog T 3 [t_api_Style.av s, (tSl 1).av l, (tInt .i64).av at_] σ (tBool.av true) σ1 := by
  have hK := K_law08_CellChanges c_CellChanges ok_law08_fit ok_cell_Change
  have p1 : c_CellChanges.law08_fit = w_law08_fit := rfl
  have go : ∃ σ1, callC (R := AVal × Heap) T (O_law08_CellChanges c_CellChanges) (xs.length + 1) 2 3 [.agg [.bool s.Bold, .bool s.Under, .bool s.Turned, .int .i64 s.Fore, .int .i64 s.Back], .slice l.b l.o l.n 1, .int .i64 at_] σ (fun v σ => some (v, σ)) = some (.bool true, σ1) := by
    rw [law08_CellChanges_eq, p1, w_law08_fit_eq hw, Option.bind_some, hn]
    simp only [Bool.not_true, cond_false]
    by_cases h0 : xs = []
    · rw [show ((xs.length : Int) == 0) = true by simp [h0], cond_true]
      exact ⟨_, rfl⟩
    · rw [show ((xs.length : Int) == 0) = false by simp [h0], cond_false]
      by_cases h1 : xs.length ≤ 100
      · rw [show decide ((xs.length : Int) > 100) = false by simp; omega, cond_false]
        exact CellChanges_loop (L := xs.length + 1) (at_ := at_) (s := s) (K := fun v σ => some (v, σ)) (hI (by omega)) h0 h1 xs.length 0 (xs.length + 1) σ (by simp) (by omega) List.prefix_rfl
      · rw [show decide ((xs.length : Int) > 100) = true by simp; omega, cond_true]
        exact ⟨_, rfl⟩
  obtain ⟨σ1, h⟩ := go
  exact ⟨σ1, call_ok ok hK h⟩
end Go.Abs.TA
