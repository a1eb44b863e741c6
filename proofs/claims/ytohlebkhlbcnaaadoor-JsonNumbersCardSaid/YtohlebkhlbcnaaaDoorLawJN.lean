/-
JsonNumbers answers true.
-/
import Derived.Test.YtohlebkhlbcnaaaDoorLawJM
namespace Go.Abs.TB
open Go Go.Abs Go.Proofs

/-- The law's own reckoning: the number, and whether it is there. -/
def goW : List UInt8 → Nat → Bool → Nat × Bool
  | [], w, ok => (w, ok)
  | c :: r, w, ok => match ok with
    | true => if w > (9223372036854775807 - (c.toNat - 48)) / 10 then goW r w false else goW r (w * 10 + (c.toNat - 48)) true
    | false => goW r w false
theorem goW_false : ∀ (ds : List UInt8) (w : Nat), goW ds w false = (w, false)
  | [], _ => rfl
  | _ :: r, w => goW_false r w
theorem goW_true : ∀ (ds : List UInt8) (w : Nat), (∀ c ∈ ds, isD c = true) → w < 9223372036854775808 → (valD w ds < 9223372036854775808 → goW ds w true = (valD w ds, true)) ∧ (¬ valD w ds < 9223372036854775808 → (goW ds w true).2 = false)
  | [], w, _, hw => ⟨fun _ => rfl, fun h => absurd hw h⟩
  | c :: r, w, hd, hw => by
    have hc := isD_iff.1 (hd c (by simp))
    have hg := valD_ge r (w * 10 + (c.toNat - 48))
    have hr : ∀ x ∈ r, isD x = true := fun x hx => hd x (by simp [hx])
    rw [valD_cons, goW]
    by_cases h : w > (9223372036854775807 - (c.toNat - 48)) / 10
    · rw [if_pos h, goW_false]
      exact ⟨fun h' => by omega, fun _ => rfl⟩
    · rw [if_neg h]
      exact goW_true r _ hr (by omega)
noncomputable def c_JsonNumbers : C_law03_JsonNumbers := { law03_fit := w_law03_fit, json_Number := w_json_Number }
theorem Numbers_loop {L : Nat} {l : List UInt8} {σ : Heap} {R : Type} {K : AVal → Heap → Option R} (hl : l.length ≤ 1000000) : ∀ (k i m : Nat), i + k = digsN l → k < m →
    law03_JsonNumbers_L6 c_JsonNumbers L m (ba l) (i : Int) σ K = law03_JsonNumbers_J8 c_JsonNumbers L (ba l) (digsN l : Int) σ K
  | k, i, 0, _, h => by omega
  | k, i, m + 1, h, hm => by
    have hle := digsN_le l
    rw [law03_JsonNumbers_L6_eq]
    simp only [ba_size, ba_data]
    by_cases hi : i < l.length
    · rw [lt_true hi, cond_true, dec0, Bool.true_and, cond_true, Int.toNat_natCast, cond_true, ge48, le57]
      cases k with
      | zero =>
        have he : i = digsN l := by omega
        have := digsN_end l (by omega)
        rw [← he] at this
        unfold isD at this
        cases h1 : decide (48 ≤ (l.getD i 0).toNat) with
        | false => rw [cond_false, he]
        | true =>
          rw [h1, Bool.true_and] at this
          rw [cond_true, this, cond_false, he]
      | succ k =>
        have := isD_iff.1 (digsN_at l i (by omega))
        rw [decide_eq_true this.1, cond_true, decide_eq_true this.2, cond_true, wrap_i64_succ i (by omega)]
        exact Numbers_loop hl k (i + 1) m (by omega) (by omega)
    · rw [lt_false hi, cond_false, show i = digsN l by omega]
theorem num_lim {d : Nat} (h : d < 10) : IntKind.i64.wrap (Int.tdiv (IntKind.i64.wrap (9223372036854775807 - (d : Int))) 10) = (((9223372036854775807 - d) / 10 : Nat) : Int) := by
  rw [show (9223372036854775807 - (d : Int)) = ((9223372036854775807 - d : Nat) : Int) by omega, wrap_nat (by omega), show Int.tdiv ((9223372036854775807 - d : Nat) : Int) 10 = (((9223372036854775807 - d) / 10 : Nat) : Int) from rfl, wrap_nat (by omega)]
theorem Numbers_sum {L : Nat} {l : List UInt8} {σ : Heap} {b : Nat} {ds : List UInt8} {k : Int} {R : Type} {K : AVal → Heap → Option R} (hs : (ba l).extract 0 k.toNat = ba ds) (h : σ[b]? = some (.row (ds.map fun b => .int .u8 b.toNat) .rw)) (hl : ds.length ≤ 1000000) (hd : ∀ c ∈ ds, isD c = true) : ∀ (j i m w : Nat) (okb : Bool), i + j = ds.length → j < m → w < 9223372036854775808 →
    law03_JsonNumbers_L10 c_JsonNumbers L m (ba l) k (w : Int) okb ⟨some b, 0, ds.length⟩ (i : Int) σ K =
      law03_JsonNumbers_J18 c_JsonNumbers L (ba l) k ((goW (ds.drop i) w okb).1 : Int) (goW (ds.drop i) w okb).2 σ K
  | j, i, 0, _, _, _, h, _ => by omega
  | 0, i, m + 1, w, okb, e, _, _ => by
    rw [law03_JsonNumbers_L10_eq, hs, ba_size, lt_false (by omega), cond_false, List.drop_of_length_le (by omega)]
    rfl
  | j + 1, i, m + 1, w, okb, e, hm, hw => by
    have hi : i < ds.length := by omega
    rw [law03_JsonNumbers_L10_eq, hs, ba_size, lt_true hi, cond_true, dec0, Bool.true_and, cond_true, Option.bind_some, Int.toNat_natCast, u8_cell h hi]
    simp only [int?, if_true, Option.bind_some]
    have hdrop : ds.drop i = ds.getD i 0 :: ds.drop (i + 1) := by
      rw [List.drop_eq_getElem_cons hi, List.getD_eq_getElem?_getD, List.getElem?_eq_getElem hi]; rfl
    have hc := hd _ (getD_mem hi)
    rw [hdrop, digit_num' hc]
    have hc' := isD_iff.1 hc
    generalize ds.getD i 0 = c at hc hc' ⊢
    rw [num_lim (show c.toNat - 48 < 10 by omega), wrap_i64_succ i (by omega)]
    cases okb with
    | false =>
      rw [cond_false, cond_false, show goW (c :: ds.drop (i + 1)) w false = goW (ds.drop (i + 1)) w false from rfl]
      exact Numbers_sum hs h hl hd j (i + 1) m w false (by omega) (by omega) hw
    | true =>
      rw [cond_true, show goW (c :: ds.drop (i + 1)) w true = if w > (9223372036854775807 - (c.toNat - 48)) / 10 then goW (ds.drop (i + 1)) w false else goW (ds.drop (i + 1)) (w * 10 + (c.toNat - 48)) true from rfl]
      by_cases hov : w > (9223372036854775807 - (c.toNat - 48)) / 10
      · rw [decide_eq_true (show (w : Int) > (((9223372036854775807 - (c.toNat - 48)) / 10 : Nat) : Int) by omega), cond_true, if_pos hov]
        exact Numbers_sum hs h hl hd j (i + 1) m w false (by omega) (by omega) hw
      · rw [decide_eq_false (show ¬ (w : Int) > (((9223372036854775807 - (c.toNat - 48)) / 10 : Nat) : Int) by omega), cond_false, if_neg hov]
        have e1 : IntKind.i64.wrap (10 * (w : Int)) = ((w * 10 : Nat) : Int) := by
          rw [show (10 * (w : Int)) = ((w * 10 : Nat) : Int) by omega, wrap_nat (by omega)]
        rw [e1, show ((w * 10 : Nat) : Int) + ((c.toNat - 48 : Nat) : Int) = ((w * 10 + (c.toNat - 48) : Nat) : Int) by omega, wrap_nat (by omega), cond_true]
        exact Numbers_sum hs h hl hd j (i + 1) m _ true (by omega) (by omega) (by omega)
theorem law_JsonNumbers (s : ByteArray) {u : Bool} {σ : Heap} (hw : PowOK u true σ) : ∃ σ1, CallOK Tryd.prog T 8 [tStr.av s] σ (tBool.av true) σ1 := by
  have hK := K_law03_JsonNumbers c_JsonNumbers ok_law03_fit ok_json_Number
  have p1 : c_JsonNumbers.law03_fit = w_law03_fit := rfl
  have p2 : c_JsonNumbers.json_Number = w_json_Number := rfl
  obtain ⟨l, rfl⟩ : ∃ l, s = ba l := ⟨_, ba_self s⟩
  have go : ∃ σ1, callC (R := AVal × Heap) T (O_law03_JsonNumbers c_JsonNumbers) 200 2 8 [.str (ba l)] σ (fun v σ => some (v, σ)) = some (.bool true, σ1) := by
    rw [law03_JsonNumbers_eq, p1, w_law03_fit_eq hw.ga, Option.bind_some]
    dsimp only
    rw [Bool.not_true, cond_false, ba_size]
    by_cases h1 : l.length ≤ 100
    · rw [decide_eq_false (show ¬ (l.length : Int) > 100 by omega), cond_false]
      have hle := digsN_le l
      have hloop := Numbers_loop (L := 200) (l := l) (σ := σ) (K := fun v σ => some (v, σ)) (by omega) (digsN l) 0 200 (by omega) (by omega)
      rw [show ((0 : Nat) : Int) = 0 from rfl] at hloop
      rw [hloop, law03_JsonNumbers_J8_eq]
      have hs : (ba l).extract 0 ((digsN l : Nat) : Int).toNat = ba (l.take (digsN l)) := by rw [Int.toNat_natCast, ba_to]
      have hlen : (l.take (digsN l)).length = digsN l := by rw [List.length_take]; omega
      have hd := digsN_take l
      simp only [hs, ba_size, ba_data, alloc]
      have hsum : ∀ okb : Bool, law03_JsonNumbers_L10 (R := AVal × Heap) c_JsonNumbers 200 200 (ba l) ((digsN l : Nat) : Int) 0 okb ⟨some σ.length, 0, (l.take (digsN l)).length⟩ 0 (σ ++ [.row ((l.take (digsN l)).map fun b => .int .u8 b.toNat) .rw]) (fun v σ => some (v, σ)) = _ := fun okb =>
        Numbers_sum (L := 200) (K := fun v σ => some (v, σ)) hs (by simp) (by omega) hd (l.take (digsN l)).length 0 200 0 okb (by omega) (by omega) (by decide)
      simp only [hsum, List.drop_zero]
      rw [decide_eq_true (show (0 : Int) ≤ ((digsN l : Nat) : Int) by omega), Bool.true_and, decide_eq_true (show ((digsN l : Nat) : Int) ≤ (l.length : Int) by omega), cond_true, decide_eq_true (show (l.take (digsN l)).length ≤ 70368744177664 by omega), cond_true]
      have hpre : σ <+: σ ++ [.row ((l.take (digsN l)).map fun b => .int .u8 b.toNat) .rw] := pre_push ..
      generalize σ ++ [.row ((l.take (digsN l)).map fun b => AVal.int .u8 b.toNat) .rw] = σ' at hpre
      -- what is held against what
      have fin : ∀ okb : Bool, (okb = true ↔ digsN l ≠ 0 ∧ ¬ (1 < digsN l ∧ l.getD 0 0 = 48)) → ∃ σ1, law03_JsonNumbers_J18 (R := AVal × Heap) c_JsonNumbers 200 (ba l) ((digsN l : Nat) : Int) ((goW (l.take (digsN l)) 0 okb).1 : Int) (goW (l.take (digsN l)) 0 okb).2 σ' (fun v σ => some (v, σ)) = some (.bool true, σ1) := fun okb hok => by
        rw [law03_JsonNumbers_J18_eq, p2, w_json_Number_eq (hw.ge.pre hpre) (by rw [ba_size]; omega), Option.bind_some]
        unfold numV numL
        rw [ba_data]
        by_cases hc : digsN l = 0 ∨ (1 < digsN l ∧ l.getD 0 0 = 48) ∨ 9223372036854775808 ≤ valD 0 (l.take (digsN l))
        · rw [if_pos hc]
          have hf : (goW (l.take (digsN l)) 0 okb).2 = false := by
            cases okb with
            | false => rw [goW_false]
            | true =>
              have := hok.1 rfl
              rcases hc with q | q | q
              · exact absurd q this.1
              · exact absurd q this.2
              · exact (goW_true _ 0 hd (by decide)).2 (by omega)
          rw [hf]
          refine ⟨σ', ?_⟩
          dsimp only
          rw [beq_self_eq_true, Bool.not_true, cond_false, Bool.not_false, cond_true, beq_self_eq_true, cond_true, ba_nil, beq_self_eq_true, cond_true]
        · rw [if_neg hc]
          have hokt : okb = true := hok.2 ⟨fun q => hc (.inl q), fun q => hc (.inr (.inl q))⟩
          have hv := (goW_true (l.take (digsN l)) 0 hd (by decide)).1 (by omega)
          rw [hokt, hv]
          refine ⟨σ', ?_⟩
          have hf := ba_from l (digsN l)
          rw [ba_size] at hf
          dsimp only
          rw [beq_self_eq_true, Bool.not_true, cond_false, cond_false, cond_true, beq_self_eq_true, cond_true, ba_size, decide_eq_true (show (0 : Int) ≤ ((digsN l : Nat) : Int) by omega), Bool.true_and, decide_eq_true (show ((digsN l : Nat) : Int) ≤ (l.length : Int) by omega), Bool.true_and, decide_eq_true (show (l.length : Int) ≤ (l.length : Int) by omega), cond_true, Int.toNat_natCast, hf, beq_self_eq_true]
      by_cases h0 : digsN l = 0
      · rw [decide_eq_false (show ¬ ((digsN l : Nat) : Int) > 0 by omega), cond_false]
        exact fin false ⟨fun q => (by cases q), fun q => absurd h0 q.1⟩
      · rw [decide_eq_true (show ((digsN l : Nat) : Int) > 0 by omega), cond_true]
        by_cases h1' : digsN l = 1
        · rw [show ((((digsN l : Nat)) : Int) == 1) = true by rw [h1']; rfl, cond_true]
          exact fin true ⟨fun _ => ⟨h0, fun q => by omega⟩, fun _ => rfl⟩
        · rw [show ((((digsN l : Nat)) : Int) == 1) = false by rw [beq_eq_false_iff_ne]; omega, cond_false, decide_eq_true (show (0 : Int) < (l.length : Int) by omega), cond_true, bne, show (48 : Int) = ((48 : Nat) : Int) from rfl, byte_eq _ 48 (by decide)]
          by_cases h48 : l.getD 0 0 = 48
          · rw [decide_eq_true (show l.getD 0 0 = UInt8.ofNat 48 from h48), Bool.not_true]
            exact fin false ⟨fun q => (by cases q), fun q => absurd ⟨by omega, h48⟩ q.2⟩
          · rw [decide_eq_false (show ¬ l.getD 0 0 = UInt8.ofNat 48 from h48), Bool.not_false]
            exact fin true ⟨fun _ => ⟨h0, fun q => h48 q.2⟩, fun _ => rfl⟩
    · rw [decide_eq_true (show (l.length : Int) > 100 by omega), cond_true]
      exact ⟨_, rfl⟩
  obtain ⟨σ1, h⟩ := go
  exact ⟨σ1, call_ok ok hK h⟩
end Go.Abs.TB
