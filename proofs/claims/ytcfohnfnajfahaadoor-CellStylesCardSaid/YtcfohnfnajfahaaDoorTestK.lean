import Derived.Test.YtcfohnfnajfahaaDoorTestJ
namespace Go.Abs.TA
open Go Go.Abs Go.Proofs
theorem chg0 (s : St) : chg s 0 = ⟨false, false, false, 0, 0⟩ := rfl
theorem chg1 (s : St) : chg s 1 = { s with b0 := true } := rfl
theorem chg4 (s : St) : chg s 4 = { s with b1 := true } := rfl
theorem chg7 (s : St) : chg s 7 = { s with b2 := true } := rfl
theorem ne_beq {a b : Int} (h : a ≠ b) : (a == b) = false := beq_eq_false_iff_ne.2 h
theorem chg_fore (s : St) {f : Int} (h1 : 0 < f) (h2 : f ≤ 8) : chg s (IntKind.i64.wrap (29 + f)) = { s with f := f } := by
  rw [wrap_small (by omega) (by omega)]
  unfold chg
  rw [ne_beq (show 29 + f ≠ 0 by omega), ne_beq (show 29 + f ≠ 1 by omega), ne_beq (show 29 + f ≠ 22 by omega), ne_beq (show 29 + f ≠ 4 by omega), ne_beq (show 29 + f ≠ 24 by omega), ne_beq (show 29 + f ≠ 7 by omega), ne_beq (show 29 + f ≠ 27 by omega)]
  simp only [cond_false, decide_eq_true (show 29 + f ≥ 30 by omega), decide_eq_true (show 29 + f ≤ 37 by omega), Bool.and_self, cond_true]
  rw [show 29 + f - 29 = f by omega]
theorem chg_back (s : St) {f : Int} (h1 : 0 < f) (h2 : f ≤ 8) : chg s (IntKind.i64.wrap (39 + f)) = { s with b := f } := by
  rw [wrap_small (by omega) (by omega)]
  unfold chg
  rw [ne_beq (show 39 + f ≠ 0 by omega), ne_beq (show 39 + f ≠ 1 by omega), ne_beq (show 39 + f ≠ 22 by omega), ne_beq (show 39 + f ≠ 4 by omega), ne_beq (show 39 + f ≠ 24 by omega), ne_beq (show 39 + f ≠ 7 by omega), ne_beq (show 39 + f ≠ 27 by omega), ne_beq (show 39 + f ≠ 39 by omega)]
  simp only [cond_false, decide_eq_false (show ¬ 39 + f ≤ 37 by omega), decide_eq_true (show 39 + f ≥ 40 by omega), decide_eq_true (show 39 + f ≤ 47 by omega), Bool.and_self, Bool.and_false, cond_true]
  rw [show 39 + f - 39 = f by omega]
theorem okS_iff (s : St) : okS s = true ↔ 0 ≤ s.f ∧ s.f ≤ 8 ∧ 0 ≤ s.b ∧ s.b ≤ 8 := by
  simp [okS, and_assoc]
theorem chg_ok {s : St} (n : Int) (h : okS s = true) : okS (chg s n) = true := by
  rw [okS_iff] at h ⊢
  unfold chg
  repeat' first
    | (cases hc : (n == 0) <;> simp only [cond_true, cond_false])
    | (cases hc : (n == 1) <;> simp only [cond_true, cond_false])
    | (cases hc : (n == 22) <;> simp only [cond_true, cond_false])
    | (cases hc : (n == 4) <;> simp only [cond_true, cond_false])
    | (cases hc : (n == 24) <;> simp only [cond_true, cond_false])
    | (cases hc : (n == 7) <;> simp only [cond_true, cond_false])
    | (cases hc : (n == 27) <;> simp only [cond_true, cond_false])
    | (cases hc : (decide (n ≥ 30) && decide (n ≤ 37)) <;> simp only [cond_true, cond_false])
    | (cases hc : (n == 39) <;> simp only [cond_true, cond_false])
    | (cases hc : (decide (n ≥ 40) && decide (n ≤ 47)) <;> simp only [cond_true, cond_false])
    | (cases hc : (n == 49) <;> simp only [cond_true, cond_false])
  all_goals first
    | omega
    | (simp only [Bool.and_eq_true, decide_eq_true_eq] at *; omega)
theorem styles_true (s t : St) (n : Int) : callC T known5 50 4 [s.av, t.av, .int .i64 n] [.row wideRow .ro] (fun v _ => some v) = some (.bool true) := by
  refine (styles_tree s t n (fun v => some v)).trans ?_
  cases hs : okS s
  · simp
  cases ht : okS t
  · simp
  have e := chg_ok n hs
  rw [okS_iff] at ht
  obtain ⟨b0, b1, b2, f, b⟩ := t
  simp only at ht
  simp only [Bool.not_true, cond_false, cond_true, beq_self_eq_true, Bool.and_self, e, chg0, chg1, chg4, chg7]
  cases b0 <;> cases b1 <;> cases b2 <;> simp only [cond_true, cond_false]
  all_goals
    by_cases hf : f > 0 <;> by_cases hb : b > 0
    all_goals
      simp only [hf, hb, decide_true, decide_false, cond_true, cond_false]
      first
        | (simp [chg_fore _ hf ht.2.1, chg_back _ hb ht.2.2.2]; done)
        | (obtain rfl : b = 0 := by omega
           simp [chg_fore _ hf ht.2.1]; done)
        | (obtain rfl : f = 0 := by omega
           simp [chg_back _ hb ht.2.2.2]; done)
        | (obtain rfl : f = 0 := by omega
           obtain rfl : b = 0 := by omega
           simp; done)
end Go.Abs.TA
