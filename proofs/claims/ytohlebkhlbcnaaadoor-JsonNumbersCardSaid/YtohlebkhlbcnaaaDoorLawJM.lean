/-
JsonTimes and JsonUntimes answer true.
-/
import Derived.Test.YtohlebkhlbcnaaaDoorMConR
namespace Go.Abs.TB
open Go Go.Abs Go.Proofs

theorem and62 (n : Int) : ∃ u : Nat, u < 4611686018427387904 ∧ IntKind.i64.wrap (BitVec.ofInt IntKind.i64.bits n &&& BitVec.ofInt IntKind.i64.bits 4611686018427387903).toNat = (u : Int) := by
  have h : (BitVec.ofInt IntKind.i64.bits n &&& BitVec.ofInt IntKind.i64.bits 4611686018427387903).toNat ≤ 4611686018427387903 := by
    rw [BitVec.toNat_and]
    exact Nat.le_trans Nat.and_le_right (by decide)
  refine ⟨_, ?_, wrap_nat (by omega)⟩
  omega
theorem timeL_len (u : Nat) : (timeL u).length = (Lib.decDigits (u / 1000000)).length + 7 := by
  rw [timeL, List.length_append, List.length_cons, pad6_len (Nat.mod_lt _ (by decide))]
theorem timeL_dot (u : Nat) : (timeL u).getD (Lib.decDigits (u / 1000000)).length 0 = 46 := by
  rw [timeL, List.getD_eq_getElem?_getD, List.getElem?_append_right (Nat.le_refl _), Nat.sub_self]; rfl
noncomputable def c_JsonTimes : C_law03_JsonTimes := { law03_fit := w_law03_fit, json_Time := w_json_Time, json_Untime := w_json_Untime }
theorem law_JsonTimes (n : Int) (more : ByteArray) {u : Bool} {σ : Heap} (hw : PowOK u true σ) : ∃ σ1, CallOK Tryd.prog T 9 [(tInt .i64).av n, tStr.av more] σ (tBool.av true) σ1 := by
  have hK := K_law03_JsonTimes c_JsonTimes ok_law03_fit ok_json_Time ok_json_Untime
  have p1 : c_JsonTimes.law03_fit = w_law03_fit := rfl
  have p2 : c_JsonTimes.json_Time = w_json_Time := rfl
  have p3 : c_JsonTimes.json_Untime = w_json_Untime := rfl
  obtain ⟨r, rfl⟩ : ∃ l, more = ba l := ⟨_, ba_self more⟩
  have go : ∃ σ1, callC (R := AVal × Heap) T (O_law03_JsonTimes c_JsonTimes) 100 2 9 [.int .i64 n, .str (ba r)] σ (fun v σ => some (v, σ)) = some (.bool true, σ1) := by
    rw [law03_JsonTimes_eq, p1, p2, p3, w_law03_fit_eq hw.ga, Option.bind_some]
    dsimp only
    rw [Bool.not_true, cond_false, ba_size]
    by_cases h1 : r.length ≤ 50
    · rw [decide_eq_false (show ¬ (r.length : Int) > 50 by omega), cond_false]
      obtain ⟨m, hm, e⟩ := and62 n
      rw [e, w_json_Time_eq hw.gp (by omega), Option.bind_some]
      have hl := timeL_len m
      have h19 := dec_len20 (n := m / 1000000) (by omega)
      have hp := List.length_pos_iff.2 (dec_digits (m / 1000000)).2.2
      simp only [ba_size, ba_data]
      rw [if_pos (by omega), ba_append, w_json_Untime_eq hw.ge (by rw [ba_size, List.length_append]; omega), Option.bind_some]
      have hu : untV (ba (timeL m ++ r)) = ((m : Int), ba r, true) := by
        unfold untV
        rw [ba_data, untL_back hm]
      rw [hu]
      dsimp only
      rw [cond_true, beq_self_eq_true, cond_true, beq_self_eq_true, cond_true, decide_eq_true (show ((timeL m).length : Int) ≥ 8 by omega), cond_true]
      have ew : IntKind.i64.wrap (((timeL m).length : Int) - 7) = (((Lib.decDigits (m / 1000000)).length : Nat) : Int) := by
        rw [show ((timeL m).length : Int) - 7 = (((Lib.decDigits (m / 1000000)).length : Nat) : Int) by omega, wrap_nat (by omega)]
      rw [ew, dec0, Bool.true_and, decide_eq_true (show (((Lib.decDigits (m / 1000000)).length : Nat) : Int) < ((timeL m).length : Int) by omega), cond_true, Int.toNat_natCast, timeL_dot]
      exact ⟨_, rfl⟩
    · rw [decide_eq_true (show (r.length : Int) > 50 by omega), cond_true]
      exact ⟨_, rfl⟩
  obtain ⟨σ1, h⟩ := go
  exact ⟨σ1, call_ok ok hK h⟩
/-! ### JsonUntimes -/
noncomputable def c_JsonUntimes : C_law03_JsonUntimes := { law03_fit := w_law03_fit, json_Time := w_json_Time, json_Untime := w_json_Untime }
theorem Untimes_loop {L : Nat} {l : List UInt8} {σ : Heap} {n : Int} {rest : ByteArray} {R : Type} {K : AVal → Heap → Option R} (hl : l.length ≤ 1000000) : ∀ (k i m : Nat), i + k = digsN l → k < m →
    law03_JsonUntimes_L9 c_JsonUntimes L m (ba l) n rest (i : Int) σ K = law03_JsonUntimes_J11 c_JsonUntimes L (ba l) n rest (digsN l : Int) σ K
  | k, i, 0, _, h => by omega
  | k, i, m + 1, h, hm => by
    have hle := digsN_le l
    rw [law03_JsonUntimes_L9_eq]
    simp only [ba_size, ba_data]
    by_cases hi : i < l.length
    · rw [lt_true hi, cond_true, dec0, Bool.true_and, cond_true, Int.toNat_natCast, cond_true, ge48, le57]
      cases k with
      | zero =>
        have he : i = digsN l := by omega
        have := digsN_end l (by omega)
        rw [← he] at this
        unfold isD at this
        cases h1 : decide (48 ≤ (l.getD i 0).toNat) with
        | false => rw [cond_false, he]
        | true =>
          rw [h1, Bool.true_and] at this
          rw [cond_true, this, cond_false, he]
      | succ k =>
        have := isD_iff.1 (digsN_at l i (by omega))
        rw [decide_eq_true this.1, cond_true, decide_eq_true this.2, cond_true, wrap_i64_succ i (by omega)]
        exact Untimes_loop hl k (i + 1) m (by omega) (by omega)
    · rw [lt_false hi, cond_false, show i = digsN l by omega]
theorem u8_cell {σ : Heap} {b i : Nat} {ds : List UInt8} (h : σ[b]? = some (.row (ds.map fun b => .int .u8 b.toNat) .rw)) (hi : i < ds.length) : Heap.cell? σ b (0 + i * 1) = some (.int .u8 ((ds.getD i 0).toNat : Int)) := by
  unfold Heap.cell? Heap.row?
  rw [h]
  simp only [Option.bind_some]
  rw [Nat.zero_add, Nat.mul_one, List.getElem?_map, List.getElem?_eq_getElem hi, List.getD_eq_getElem?_getD, List.getElem?_eq_getElem hi]; rfl
/-- Six places, of which one is no digit. -/
theorem Untimes_six {L : Nat} {l : List UInt8} {σ : Heap} {b k : Nat} (hk : k ≤ 1000000) {ds : List UInt8} (hs : (ba l).extract (k + 1) (k + 7) = ba ds) (h : σ[b]? = some (.row (ds.map fun b => .int .u8 b.toNat) .rw)) (hl : ds.length = 6) (hd : six ds = false) : ∀ (j i m : Nat), i + j = 6 → j < m → six (ds.drop i) = false →
    law03_JsonUntimes_L14 (R := AVal × Heap) c_JsonUntimes L m 0 (ba []) ⟨some b, 0, 6⟩ (ba l) (k : Int) (i : Int) σ (fun v σ => some (v, σ)) = some (.bool true, σ)
  | j, i, 0, _, h, _ => by omega
  | 0, i, m + 1, e, _, h6 => by
    rw [List.drop_of_length_le (by omega)] at h6; cases h6
  | j + 1, i, m + 1, e, hm, h6 => by
    have hi : i < ds.length := by omega
    rw [law03_JsonUntimes_L14_eq]
    have e1 : IntKind.i64.wrap ((k : Int) + 1) = ((k + 1 : Nat) : Int) := wrap_i64_succ k (by omega)
    have e7 : IntKind.i64.wrap ((k : Int) + 7) = ((k + 7 : Nat) : Int) := by
      rw [show (k : Int) + 7 = ((k + 7 : Nat) : Int) by omega, wrap_nat (by omega)]
    rw [e1, e7, Int.toNat_natCast, Int.toNat_natCast, hs, ba_size, hl, decide_eq_true (show (i : Int) < ((6 : Nat) : Int) by omega), cond_true, dec0, Bool.true_and, cond_true, Option.bind_some, Int.toNat_natCast, u8_cell h hi]
    simp only [int?, if_true, Option.bind_some]
    have hdrop : ds.drop i = ds.getD i 0 :: ds.drop (i + 1) := by
      rw [List.drop_eq_getElem_cons hi, List.getD_eq_getElem?_getD, List.getElem?_eq_getElem hi]; rfl
    rw [hdrop, show six (ds.getD i 0 :: ds.drop (i + 1)) = (isD (ds.getD i 0) && six (ds.drop (i + 1))) by simp [six]] at h6
    generalize ds.getD i 0 = c at h6 ⊢
    have fin : (bif ((0 : Int) == 0) then some (AVal.bool ((ba []).toList == (⟨#[]⟩ : ByteArray).toList), σ) else some (AVal.bool false, σ)) = some (.bool true, σ) := by
      rw [ba_nil, beq_self_eq_true, cond_true, beq_self_eq_true]
    by_cases g1 : 48 ≤ c.toNat
    · rw [decide_eq_false (show ¬ ((c.toNat : Nat) : Int) < 48 by omega), cond_false]
      by_cases g2 : c.toNat ≤ 57
      · rw [decide_eq_false (show ¬ ((c.toNat : Nat) : Int) > 57 by omega), cond_false, wrap_i64_succ i (by omega)]
        rw [isD_iff.2 ⟨g1, g2⟩, Bool.true_and] at h6
        exact Untimes_six hk hs h hl hd j (i + 1) m (by omega) (by omega) h6
      · rw [decide_eq_true (show ((c.toNat : Nat) : Int) > 57 by omega), cond_true]
        exact fin
    · rw [decide_eq_true (show ((c.toNat : Nat) : Int) < 48 by omega), cond_true]
      exact fin
theorem law_JsonUntimes (s : ByteArray) {u : Bool} {σ : Heap} (hw : PowOK u true σ) : ∃ σ1, CallOK Tryd.prog T 10 [tStr.av s] σ (tBool.av true) σ1 := by
  have hK := K_law03_JsonUntimes c_JsonUntimes ok_law03_fit ok_json_Time ok_json_Untime
  have p1 : c_JsonUntimes.law03_fit = w_law03_fit := rfl
  have p2 : c_JsonUntimes.json_Time = w_json_Time := rfl
  have p3 : c_JsonUntimes.json_Untime = w_json_Untime := rfl
  obtain ⟨l, rfl⟩ : ∃ l, s = ba l := ⟨_, ba_self s⟩
  have go : ∃ σ1, callC (R := AVal × Heap) T (O_law03_JsonUntimes c_JsonUntimes) 200 2 10 [.str (ba l)] σ (fun v σ => some (v, σ)) = some (.bool true, σ1) := by
    rw [law03_JsonUntimes_eq, p1, p2, p3, w_law03_fit_eq hw.ga, Option.bind_some]
    dsimp only
    rw [Bool.not_true, cond_false, ba_size]
    by_cases h1 : l.length ≤ 100
    · rw [decide_eq_false (show ¬ (l.length : Int) > 100 by omega), cond_false, w_json_Untime_eq hw.ge (by rw [ba_size]; omega), Option.bind_some]
      have hle := digsN_le l
      unfold untV
      rw [ba_data]
      cases hu : untL l with
      | some q =>
        obtain ⟨n, r⟩ := q
        obtain ⟨h2, h3⟩ := untL_sound hu
        have hlen := congrArg List.length h2
        rw [List.length_append] at hlen
        dsimp only
        rw [cond_true, decide_eq_true (show (n : Int) ≥ 0 by omega), cond_true, w_json_Time_eq hw.gp (by omega), Option.bind_some]
        dsimp only
        rw [ba_size, ba_size, if_pos (by omega), ba_append, h2, beq_self_eq_true]
        exact ⟨_, rfl⟩
      | none =>
        dsimp only
        have fin : ∀ σ' : Heap, (bif ((0 : Int) == 0) then some (AVal.bool ((ba []).toList == (⟨#[]⟩ : ByteArray).toList), σ') else some (AVal.bool false, σ')) = some (.bool true, σ') := fun σ' => by
          rw [ba_nil, beq_self_eq_true, cond_true, beq_self_eq_true]
        have hloop := Untimes_loop (L := 200) (l := l) (σ := σ) (n := 0) (rest := ba []) (K := fun v σ => some (v, σ)) (by omega) (digsN l) 0 200 (by omega) (by omega)
        rw [show ((0 : Nat) : Int) = 0 from rfl] at hloop
        rw [cond_false, hloop, law03_JsonUntimes_J11_eq]
        simp only [ba_size, ba_data]
        by_cases h0 : digsN l = 0
        · rw [h0, show (((0 : Nat) : Int) == 0) = true from rfl, cond_true]
          exact ⟨σ, fin σ⟩
        rw [show ((((digsN l : Nat)) : Int) == 0) = false by rw [beq_eq_false_iff_ne]; omega, cond_false]
        by_cases h12 : 12 < digsN l
        · rw [decide_eq_true (show ((digsN l : Nat) : Int) > 12 by omega), cond_true]
          exact ⟨σ, fin σ⟩
        rw [decide_eq_false (show ¬ ((digsN l : Nat) : Int) > 12 by omega), cond_false]
        have e1 : IntKind.i64.wrap (((digsN l : Nat) : Int) + 1) = ((digsN l + 1 : Nat) : Int) := wrap_i64_succ _ (by omega)
        have e7 : IntKind.i64.wrap (((digsN l : Nat) : Int) + 7) = ((digsN l + 7 : Nat) : Int) := by
          rw [show ((digsN l : Nat) : Int) + 7 = ((digsN l + 7 : Nat) : Int) by omega, wrap_nat (by omega)]
        have p7 : (l.length < digsN l + 7 → decide ((l.length : Int) < ((digsN l + 7 : Nat) : Int)) = true) ∧ (¬ l.length < digsN l + 7 → decide ((l.length : Int) < ((digsN l + 7 : Nat) : Int)) = false) := ⟨fun h => decide_eq_true (by omega), fun h => decide_eq_false (by omega)⟩
        rw [e1, e7]
        by_cases hz : 1 < digsN l ∧ l.getD 0 0 = 48
        · rw [decide_eq_true (show ((digsN l : Nat) : Int) > 1 by omega), cond_true, decide_eq_true (show (0 : Int) < (l.length : Int) by omega), cond_true, hz.2, show (((((48 : UInt8)).toNat : Nat) : Int) == 48) = true from rfl, cond_true]
          exact ⟨σ, fin σ⟩
        have tail : ∃ σ1, (bif decide ((l.length : Int) < ((digsN l + 7 : Nat) : Int)) then (bif ((0 : Int) == 0) then some (AVal.bool ((ba []).toList == (⟨#[]⟩ : ByteArray).toList), σ) else some (AVal.bool false, σ))
            else bif (decide ((0 : Int) ≤ ((digsN l : Nat) : Int)) && decide (((digsN l : Nat) : Int) < (l.length : Int))) then
              (bif (((l.getD ((digsN l : Nat) : Int).toNat 0).toNat : Int) != 46) then (bif ((0 : Int) == 0) then some (AVal.bool ((ba []).toList == (⟨#[]⟩ : ByteArray).toList), σ) else some (AVal.bool false, σ))
               else bif ((decide ((0 : Int) ≤ ((digsN l + 1 : Nat) : Int)) && decide (((digsN l + 1 : Nat) : Int) ≤ ((digsN l + 7 : Nat) : Int))) && decide (((digsN l + 7 : Nat) : Int) ≤ (l.length : Int))) then
                 (bif decide (((ba l).extract ((digsN l + 1 : Nat) : Int).toNat ((digsN l + 7 : Nat) : Int).toNat).size ≤ 70368744177664) then
                   alloc σ (((ba l).extract ((digsN l + 1 : Nat) : Int).toNat ((digsN l + 7 : Nat) : Int).toNat).data.toList.map fun b => AVal.int .u8 b.toNat) fun b5 σ6 =>
                     law03_JsonUntimes_L14 (R := AVal × Heap) c_JsonUntimes 200 200 0 (ba []) ⟨some b5, 0, ((ba l).extract ((digsN l + 1 : Nat) : Int).toNat ((digsN l + 7 : Nat) : Int).toNat).size⟩ (ba l) ((digsN l : Nat) : Int) 0 σ6 (fun v σ => some (v, σ))
                  else none) else none) else none) = some (.bool true, σ1) := by
          by_cases h7 : l.length < digsN l + 7
          · rw [p7.1 h7, cond_true]; exact ⟨σ, fin σ⟩
          rw [p7.2 h7, cond_false, decide_eq_true (show (0 : Int) ≤ ((digsN l : Nat) : Int) by omega), Bool.true_and, decide_eq_true (show ((digsN l : Nat) : Int) < (l.length : Int) by omega), cond_true, Int.toNat_natCast]
          by_cases h46 : l.getD (digsN l) 0 = 46
          · rw [h46, show (((((46 : UInt8)).toNat : Nat) : Int) != 46) = false from rfl, cond_false, decide_eq_true (show (0 : Int) ≤ ((digsN l + 1 : Nat) : Int) by omega), Bool.true_and, decide_eq_true (show ((digsN l + 1 : Nat) : Int) ≤ ((digsN l + 7 : Nat) : Int) by omega), Bool.true_and, decide_eq_true (show ((digsN l + 7 : Nat) : Int) ≤ (l.length : Int) by omega), cond_true, Int.toNat_natCast, Int.toNat_natCast]
            have hs : (ba l).extract (digsN l + 1) (digsN l + 7) = ba ((l.drop (digsN l + 1)).take 6) := by
              rw [ba_extract, show digsN l + 7 - (digsN l + 1) = 6 by omega]
            have hl6 : ((l.drop (digsN l + 1)).take 6).length = 6 := by rw [List.length_take, List.length_drop]; omega
            have hd6 : six ((l.drop (digsN l + 1)).take 6) = false := by
              cases hsix : six ((l.drop (digsN l + 1)).take 6) with
              | false => rfl
              | true => exact absurd hu (untL_form h0 (by omega) (fun q q' => hz ⟨q, q'⟩) (by omega) h46 hsix)
            rw [hs, ba_size, ba_data, hl6, show decide ((6 : Nat) ≤ 70368744177664) = true from rfl, cond_true]
            simp only [alloc]
            exact ⟨_, Untimes_six (by omega) hs (by simp) hl6 hd6 6 0 200 rfl (by decide) hd6⟩
          · rw [bne, show (46 : Int) = ((46 : Nat) : Int) from rfl, byte_eq _ 46 (by decide), decide_eq_false (show ¬ l.getD (digsN l) 0 = UInt8.ofNat 46 from h46), Bool.not_false, cond_true]
            exact ⟨σ, fin σ⟩
        by_cases h1' : 1 < digsN l
        · rw [decide_eq_true (show ((digsN l : Nat) : Int) > 1 by omega), cond_true, decide_eq_true (show (0 : Int) < (l.length : Int) by omega), cond_true, show (48 : Int) = ((48 : Nat) : Int) from rfl, byte_eq _ 48 (by decide), decide_eq_false (show ¬ l.getD 0 0 = UInt8.ofNat 48 from fun q => hz ⟨h1', q⟩), cond_false]
          exact tail
        · rw [decide_eq_false (show ¬ ((digsN l : Nat) : Int) > 1 by omega), cond_false]
          exact tail
    · rw [decide_eq_true (show (l.length : Int) > 100 by omega), cond_true]
      exact ⟨_, rfl⟩
  obtain ⟨σ1, h⟩ := go
  exact ⟨σ1, call_ok ok hK h⟩
end Go.Abs.TB
