/-
Decimal numerals, plain.
-/
import Derived.Lib.AtoiAllCases
import Derived.Lib.ItoaNum
namespace Go.Abs
open Go

def isD (c : UInt8) : Bool := decide (48 ≤ c.toNat) && decide (c.toNat ≤ 57)
theorem isD_iff {c : UInt8} : isD c = true ↔ 48 ≤ c.toNat ∧ c.toNat ≤ 57 := by simp [isD]
/-- What digits spell, behind others. -/
def valD (acc : Nat) (l : List UInt8) : Nat := l.foldl (fun a c => a * 10 + (c.toNat - 48)) acc
theorem valD_cons (acc : Nat) (c : UInt8) (l : List UInt8) : valD acc (c :: l) = valD (acc * 10 + (c.toNat - 48)) l := by
  unfold valD
  rw [List.foldl_cons]
theorem valD_append (acc : Nat) (l m : List UInt8) : valD acc (l ++ m) = valD (valD acc l) m := by simp [valD]
theorem valD_nil (acc : Nat) : valD acc [] = acc := rfl
theorem valD_ge (l : List UInt8) : ∀ acc : Nat, acc ≤ valD acc l := by
  induction l with
  | nil => exact fun acc => Nat.le_refl _
  | cons c l ih =>
    intro acc
    rw [valD_cons]
    have := ih (acc * 10 + (c.toNat - 48))
    omega
/-- How many digits a text begins with. -/
def digsN : List UInt8 → Nat
  | [] => 0
  | c :: r => if isD c then digsN r + 1 else 0
theorem digsN_le : ∀ l : List UInt8, digsN l ≤ l.length
  | [] => Nat.le_refl _
  | c :: r => by
    have := digsN_le r
    unfold digsN
    split <;> simp <;> omega
theorem digsN_append : ∀ (ds r : List UInt8), (∀ c ∈ ds, isD c = true) → digsN (ds ++ r) = ds.length + digsN r
  | [], r, _ => by simp
  | c :: ds, r, h => by
    rw [List.cons_append, digsN, if_pos (h c (by simp)), digsN_append ds r fun x hx => h x (by simp [hx]), List.length_cons]
    omega
theorem digsN_stop {c : UInt8} (r : List UInt8) (h : isD c = false) : digsN (c :: r) = 0 := by rw [digsN, if_neg (by simp [h])]
theorem digsN_take : ∀ (l : List UInt8), ∀ c ∈ l.take (digsN l), isD c = true
  | [], c, h => by simp at h
  | x :: r, c, h => by
    unfold digsN at h
    split at h
    · rename_i hx
      rw [List.take_succ_cons] at h
      rcases List.mem_cons.1 h with rfl | h
      · exact hx
      · exact digsN_take r c h
    · simp at h
theorem digsN_at : ∀ (l : List UInt8) (i : Nat), i < digsN l → isD (l.getD i 0) = true
  | [], i, h => by simp [digsN] at h
  | x :: r, i, h => by
    unfold digsN at h
    split at h
    · rename_i hx
      cases i with
      | zero => exact hx
      | succ i => rw [List.getD_cons_succ]; exact digsN_at r i (by omega)
    · omega
theorem digsN_end : ∀ (l : List UInt8), digsN l < l.length → isD (l.getD (digsN l) 0) = false
  | [], h => by simp at h
  | x :: r, h => by
    unfold digsN at h ⊢
    split at h
    · rename_i hx
      rw [if_pos hx, List.getD_cons_succ]
      exact digsN_end r (by simpa using h)
    · rename_i hx
      rw [if_neg hx, List.getD_cons_zero]
      simpa using hx
/-! ### What is parsed -/
theorem parse_digits : ∀ (ds : List UInt8) (acc : Nat), acc < 18446744073709551616 → (∀ c ∈ ds, isD c = true) →
    Lib.parseUint10 acc ds = if valD acc ds < 18446744073709551616 then .ok (valD acc ds) else .range
  | [], acc, h, _ => by rw [Lib.parseUint10, show valD acc [] = acc from rfl, if_pos h]
  | c :: r, acc, h, hd => by
    have hc := isD_iff.1 (hd c (by simp))
    have hg := valD_ge r (acc * 10 + (c.toNat - 48))
    rw [Lib.parseUint10, if_pos hc, valD_cons]
    split
    · rw [if_neg (by omega)]
    · split
      · rw [if_neg (by omega)]
      · exact parse_digits r _ (by omega) fun x hx => hd x (by simp [hx])
theorem atoi_digits {ds : List UInt8} (hne : ds ≠ []) (hd : ∀ c ∈ ds, isD c = true) : Lib.atoiAll ds = if valD 0 ds < 9223372036854775808 then .ok (valD 0 ds : Int) else .range := by
  cases ds with
  | nil => exact absurd rfl hne
  | cons c r =>
    have hc := isD_iff.1 (hd c (by simp))
    rw [Lib.atoiAll_plain c r (by omega) (by omega), Lib.parseMag, if_neg hne, parse_digits _ 0 (by decide) hd]
    unfold Lib.signless
    by_cases h1 : valD 0 (c :: r) < 18446744073709551616
    · rw [if_pos h1]
      by_cases h2 : valD 0 (c :: r) < 9223372036854775808
      · rw [if_pos h2]
        simp only
        rw [if_neg (by omega)]
      · rw [if_neg h2]
        simp only
        rw [if_pos (by omega)]
    · rw [if_neg h1, if_neg (by omega)]
/-! ### Numerals -/
theorem dig_ofNat {d : Nat} (h : d < 10) : isD (UInt8.ofNat (48 + d)) = true ∧ (UInt8.ofNat (48 + d)).toNat = 48 + d := by
  have e : (UInt8.ofNat (48 + d)).toNat = 48 + d := by simp; omega
  exact ⟨isD_iff.2 (by omega), e⟩
theorem decDigits_small {u : Nat} (h : u < 10) : Lib.decDigits u = [UInt8.ofNat (48 + u)] := Lib.decDigits_one h
theorem decDigits_big {u : Nat} (h : ¬ u < 10) : Lib.decDigits u = Lib.decDigits (u / 10) ++ [UInt8.ofNat (48 + u % 10)] := by rw [Lib.decDigits, dif_neg h]
theorem dec_digits : ∀ (u : Nat), (∀ c ∈ Lib.decDigits u, isD c = true) ∧ valD 0 (Lib.decDigits u) = u ∧ Lib.decDigits u ≠ [] := fun u => by
  induction u using Nat.strongRecOn with
  | _ u ih =>
    by_cases h : u < 10
    · rw [decDigits_small h]
      obtain ⟨h1, h2⟩ := dig_ofNat h
      refine ⟨fun c hc => by simp only [List.mem_cons, List.not_mem_nil, or_false] at hc; rw [hc]; exact h1, ?_, by simp⟩
      rw [valD_cons, h2]
      show 0 * 10 + (48 + u - 48) = u
      omega
    · obtain ⟨h1, h2, h3⟩ := ih (u / 10) (by omega)
      obtain ⟨g1, g2⟩ := dig_ofNat (show u % 10 < 10 by omega)
      rw [decDigits_big h]
      refine ⟨fun c hc => ?_, ?_, by simp⟩
      · rcases List.mem_append.1 hc with hc | hc
        · exact h1 c hc
        · simp only [List.mem_cons, List.not_mem_nil, or_false] at hc; rw [hc]; exact g1
      · rw [valD_append, h2, valD_cons, g2]
        show u / 10 * 10 + (48 + u % 10 - 48) = u
        omega
theorem dec_head : ∀ (u : Nat), 1 ≤ u → (Lib.decDigits u).getD 0 0 ≠ 48 := fun u => by
  induction u using Nat.strongRecOn with
  | _ u ih =>
    intro h1
    by_cases h : u < 10
    · rw [decDigits_small h, List.getD_cons_zero]
      intro e
      have := congrArg UInt8.toNat e
      rw [(dig_ofNat h).2] at this
      change 48 + u = 48 at this
      omega
    · rw [decDigits_big h]
      have hne := (dec_digits (u / 10)).2.2
      have := ih (u / 10) (by omega) (by omega)
      have hl := List.length_pos_iff.2 hne
      rw [List.getD_eq_getElem?_getD, List.getElem?_append_left hl, ← List.getD_eq_getElem?_getD]
      exact this
theorem dec_noZero (u : Nat) : 1 < (Lib.decDigits u).length → (Lib.decDigits u).getD 0 0 ≠ 48 := fun h => by
  refine dec_head u ?_
  rcases Nat.eq_zero_or_pos u with rfl | h'
  · rw [decDigits_small (by decide)] at h; simp at h
  · exact h'
theorem byte_of {c : UInt8} (h : isD c = true) : UInt8.ofNat (48 + (c.toNat - 48)) = c := by
  have := isD_iff.1 h
  rw [show 48 + (c.toNat - 48) = c.toNat by omega]
  exact UInt8.ofNat_toNat
theorem valD_pos : ∀ (ds : List UInt8), ds ≠ [] → isD (ds.getD 0 0) = true → ds.getD 0 0 ≠ 48 → 1 ≤ valD 0 ds
  | [], h, _, _ => absurd rfl h
  | c :: r, _, hd, h0 => by
    rw [List.getD_cons_zero] at hd h0
    have hc := isD_iff.1 hd
    rw [valD_cons]
    have := valD_ge r (0 * 10 + (c.toNat - 48))
    have : c.toNat ≠ 48 := fun e => h0 (UInt8.toNat_inj.1 e)
    omega
theorem dec_val : ∀ (n : Nat) (ds : List UInt8), ds.length = n → ds ≠ [] → (∀ c ∈ ds, isD c = true) → (1 < ds.length → ds.getD 0 0 ≠ 48) → Lib.decDigits (valD 0 ds) = ds
  | 0, ds, hn, hne, _, _ => absurd (List.eq_nil_of_length_eq_zero hn) hne
  | n + 1, ds, hn, hne, hd, h0 => by
    obtain ⟨ds', c, rfl⟩ : ∃ xs x, ds = xs ++ [x] := ⟨ds.dropLast, ds.getLast hne, (List.dropLast_concat_getLast hne).symm⟩
    have hc := hd c (by simp)
    have hcn := isD_iff.1 hc
    have hd' : ∀ x ∈ ds', isD x = true := fun x hx => hd x (by simp [hx])
    rw [valD_append, valD_cons]
    show Lib.decDigits (valD 0 ds' * 10 + (c.toNat - 48)) = _
    cases ds' with
    | nil =>
      show Lib.decDigits (0 * 10 + (c.toNat - 48)) = [c]
      rw [decDigits_small (by omega), Nat.zero_mul, Nat.zero_add, byte_of hc]
    | cons x xs =>
      have hx : x ≠ 48 := by simpa using h0 (by simp)
      have hp := valD_pos (x :: xs) (by simp) (hd' x (by simp)) hx
      have ih := dec_val n (x :: xs) (by simpa using hn) (by simp) hd' fun _ => hx
      rw [decDigits_big (by omega), show (valD 0 (x :: xs) * 10 + (c.toNat - 48)) / 10 = valD 0 (x :: xs) by omega, ih, show (valD 0 (x :: xs) * 10 + (c.toNat - 48)) % 10 = c.toNat - 48 by omega, byte_of hc]
theorem valD_lt : ∀ (ds : List UInt8) (acc : Nat), (∀ c ∈ ds, isD c = true) → valD acc ds < (acc + 1) * 10 ^ ds.length
  | [], acc, _ => by
    show acc < (acc + 1) * 1
    omega
  | c :: r, acc, h => by
    have hc := isD_iff.1 (h c (by simp))
    have := valD_lt r (acc * 10 + (c.toNat - 48)) fun x hx => h x (by simp [hx])
    rw [valD_cons, List.length_cons, Nat.pow_succ]
    have e : (acc + 1) * (10 ^ r.length * 10) = (acc * 10 + 10) * 10 ^ r.length := by
      rw [Nat.mul_comm (10 ^ r.length) 10, ← Nat.mul_assoc]
      congr 1; omega
    rw [e]
    exact Nat.lt_of_lt_of_le this (Nat.mul_le_mul_right _ (by omega))
theorem dec_len_le {u k : Nat} (h : u < 10 ^ k) (hk : 1 ≤ k) : (Lib.decDigits u).length ≤ k := by
  induction k generalizing u with
  | zero => omega
  | succ k ih =>
    by_cases hu : u < 10
    · rw [decDigits_small hu]; simp
    · rw [decDigits_big hu, List.length_append]
      have := ih (u := u / 10) (by rw [Nat.pow_succ] at h; omega) (by
        rcases Nat.eq_zero_or_pos k with rfl | h'
        · simp at h; omega
        · exact h')
      simp; omega
/-! ### Whole numbers, and what is behind them -/
def numL (l : List UInt8) : Option (Nat × List UInt8) :=
  if digsN l = 0 ∨ (1 < digsN l ∧ l.getD 0 0 = 48) ∨ 9223372036854775808 ≤ valD 0 (l.take (digsN l)) then none else some (valD 0 (l.take (digsN l)), l.drop (digsN l))
theorem numL_back {u : Nat} (hu : u < 9223372036854775808) (r : List UInt8) (hr : digsN r = 0) : numL (Lib.decDigits u ++ r) = some (u, r) := by
  obtain ⟨h1, h2, h3⟩ := dec_digits u
  have hn : digsN (Lib.decDigits u ++ r) = (Lib.decDigits u).length := by rw [digsN_append _ _ h1, hr, Nat.add_zero]
  have hl := List.length_pos_iff.2 h3
  unfold numL
  rw [hn, List.take_left, List.drop_left, h2, if_neg]
  rintro (h | ⟨h, h'⟩ | h)
  · omega
  · rw [List.getD_eq_getElem?_getD, List.getElem?_append_left hl, ← List.getD_eq_getElem?_getD] at h'
    exact dec_noZero u h h'
  · omega
theorem numL_sound {l r : List UInt8} {n : Nat} (h : numL l = some (n, r)) : l = Lib.decDigits n ++ r ∧ n < 9223372036854775808 ∧ 1 ≤ digsN l ∧ n = valD 0 (l.take (digsN l)) ∧ r = l.drop (digsN l) := by
  unfold numL at h
  split at h
  · cases h
  · rename_i hc
    injection h with h
    injection h with e1 e2
    have hle := digsN_le l
    have hlen : (l.take (digsN l)).length = digsN l := by rw [List.length_take]; omega
    have hd := dec_val _ (l.take (digsN l)) rfl (by intro e; rw [e] at hlen; simp at hlen; omega) (digsN_take l) (fun h1 h2 => by
      rw [hlen] at h1
      apply hc
      refine .inr (.inl ⟨h1, ?_⟩)
      rw [List.getD_eq_getElem?_getD, List.getElem?_take_of_lt (by omega), ← List.getD_eq_getElem?_getD] at h2
      exact h2)
    subst e1; subst e2
    exact ⟨by rw [hd, List.take_append_drop], by omega, by omega, rfl, rfl⟩
end Go.Abs
