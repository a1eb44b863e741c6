/-
Decimal numerals, plain.
Times, plain.
Contracts of json.Number, json.Time, json.Untime.
-/
import Derived.Lib.AtoiAllCases
import Derived.Lib.ItoaNum
import Derived.Test.YtohlebkhlbcnaaaDoorMConQ
import Derived.Test.YtohlebkhlbcnaaaDoorEqB5
namespace Go.Abs
open Go

def isD (c : UInt8) : Bool := decide (48 ≤ c.toNat) && decide (c.toNat ≤ 57)
theorem isD_iff {c : UInt8} : isD c = true ↔ 48 ≤ c.toNat ∧ c.toNat ≤ 57 := by simp [isD]
/-- What digits spell, behind others. -/
def valD (acc : Nat) (l : List UInt8) : Nat := l.foldl (fun a c => a * 10 + (c.toNat - 48)) acc
theorem valD_cons (acc : Nat) (c : UInt8) (l : List UInt8) : valD acc (c :: l) = valD (acc * 10 + (c.toNat - 48)) l := by
  unfold valD
  rw [List.foldl_cons]
theorem valD_append (acc : Nat) (l m : List UInt8) : valD acc (l ++ m) = valD (valD acc l) m := by simp [valD]
theorem valD_nil (acc : Nat) : valD acc [] = acc := rfl
theorem valD_ge (l : List UInt8) : ∀ acc : Nat, acc ≤ valD acc l := by
  induction l with
  | nil => exact fun acc => Nat.le_refl _
  | cons c l ih =>
    intro acc
    rw [valD_cons]
    have := ih (acc * 10 + (c.toNat - 48))
    omega
/-- How many digits a text begins with. -/
def digsN : List UInt8 → Nat
  | [] => 0
  | c :: r => if isD c then digsN r + 1 else 0
theorem digsN_le : ∀ l : List UInt8, digsN l ≤ l.length
  | [] => Nat.le_refl _
  | c :: r => by
    have := digsN_le r
    unfold digsN
    split <;> simp <;> omega
theorem digsN_append : ∀ (ds r : List UInt8), (∀ c ∈ ds, isD c = true) → digsN (ds ++ r) = ds.length + digsN r
  | [], r, _ => by simp
  | c :: ds, r, h => by
    rw [List.cons_append, digsN, if_pos (h c (by simp)), digsN_append ds r fun x hx => h x (by simp [hx]), List.length_cons]
    omega
theorem digsN_stop {c : UInt8} (r : List UInt8) (h : isD c = false) : digsN (c :: r) = 0 := by rw [digsN, if_neg (by simp [h])]
theorem digsN_take : ∀ (l : List UInt8), ∀ c ∈ l.take (digsN l), isD c = true
  | [], c, h => by simp at h
  | x :: r, c, h => by
    unfold digsN at h
    split at h
    · rename_i hx
      rw [List.take_succ_cons] at h
      rcases List.mem_cons.1 h with rfl | h
      · exact hx
      · exact digsN_take r c h
    · simp at h
theorem digsN_at : ∀ (l : List UInt8) (i : Nat), i < digsN l → isD (l.getD i 0) = true
  | [], i, h => by simp [digsN] at h
  | x :: r, i, h => by
    unfold digsN at h
    split at h
    · rename_i hx
      cases i with
      | zero => exact hx
      | succ i => rw [List.getD_cons_succ]; exact digsN_at r i (by omega)
    · omega
theorem digsN_end : ∀ (l : List UInt8), digsN l < l.length → isD (l.getD (digsN l) 0) = false
  | [], h => by simp at h
  | x :: r, h => by
    unfold digsN at h ⊢
    split at h
    · rename_i hx
      rw [if_pos hx, List.getD_cons_succ]
      exact digsN_end r (by simpa using h)
    · rename_i hx
      rw [if_neg hx, List.getD_cons_zero]
      simpa using hx
/-! ### What is parsed -/
theorem parse_digits : ∀ (ds : List UInt8) (acc : Nat), acc < 18446744073709551616 → (∀ c ∈ ds, isD c = true) →
    Lib.parseUint10 acc ds = if valD acc ds < 18446744073709551616 then .ok (valD acc ds) else .range
  | [], acc, h, _ => by rw [Lib.parseUint10, show valD acc [] = acc from rfl, if_pos h]
  | c :: r, acc, h, hd => by
    have hc := isD_iff.1 (hd c (by simp))
    have hg := valD_ge r (acc * 10 + (c.toNat - 48))
    rw [Lib.parseUint10, if_pos hc, valD_cons]
    split
    · rw [if_neg (by omega)]
    · split
      · rw [if_neg (by omega)]
      · exact parse_digits r _ (by omega) fun x hx => hd x (by simp [hx])
theorem atoi_digits {ds : List UInt8} (hne : ds ≠ []) (hd : ∀ c ∈ ds, isD c = true) : Lib.atoiAll ds = if valD 0 ds < 9223372036854775808 then .ok (valD 0 ds : Int) else .range := by
  cases ds with
  | nil => exact absurd rfl hne
  | cons c r =>
    have hc := isD_iff.1 (hd c (by simp))
    rw [Lib.atoiAll_plain c r (by omega) (by omega), Lib.parseMag, if_neg hne, parse_digits _ 0 (by decide) hd]
    unfold Lib.signless
    by_cases h1 : valD 0 (c :: r) < 18446744073709551616
    · rw [if_pos h1]
      by_cases h2 : valD 0 (c :: r) < 9223372036854775808
      · rw [if_pos h2]
        simp only
        rw [if_neg (by omega)]
      · rw [if_neg h2]
        simp only
        rw [if_pos (by omega)]
    · rw [if_neg h1, if_neg (by omega)]
/-! ### Numerals -/
theorem dig_ofNat {d : Nat} (h : d < 10) : isD (UInt8.ofNat (48 + d)) = true ∧ (UInt8.ofNat (48 + d)).toNat = 48 + d := by
  have e : (UInt8.ofNat (48 + d)).toNat = 48 + d := by simp; omega
  exact ⟨isD_iff.2 (by omega), e⟩
theorem decDigits_small {u : Nat} (h : u < 10) : Lib.decDigits u = [UInt8.ofNat (48 + u)] := Lib.decDigits_one h
theorem decDigits_big {u : Nat} (h : ¬ u < 10) : Lib.decDigits u = Lib.decDigits (u / 10) ++ [UInt8.ofNat (48 + u % 10)] := by rw [Lib.decDigits, dif_neg h]
theorem dec_digits : ∀ (u : Nat), (∀ c ∈ Lib.decDigits u, isD c = true) ∧ valD 0 (Lib.decDigits u) = u ∧ Lib.decDigits u ≠ [] := fun u => by
  induction u using Nat.strongRecOn with
  | _ u ih =>
    by_cases h : u < 10
    · rw [decDigits_small h]
      obtain ⟨h1, h2⟩ := dig_ofNat h
      refine ⟨fun c hc => by simp only [List.mem_cons, List.not_mem_nil, or_false] at hc; rw [hc]; exact h1, ?_, by simp⟩
      rw [valD_cons, h2]
      show 0 * 10 + (48 + u - 48) = u
      omega
    · obtain ⟨h1, h2, h3⟩ := ih (u / 10) (by omega)
      obtain ⟨g1, g2⟩ := dig_ofNat (show u % 10 < 10 by omega)
      rw [decDigits_big h]
      refine ⟨fun c hc => ?_, ?_, by simp⟩
      · rcases List.mem_append.1 hc with hc | hc
        · exact h1 c hc
        · simp only [List.mem_cons, List.not_mem_nil, or_false] at hc; rw [hc]; exact g1
      · rw [valD_append, h2, valD_cons, g2]
        show u / 10 * 10 + (48 + u % 10 - 48) = u
        omega
theorem dec_head : ∀ (u : Nat), 1 ≤ u → (Lib.decDigits u).getD 0 0 ≠ 48 := fun u => by
  induction u using Nat.strongRecOn with
  | _ u ih =>
    intro h1
    by_cases h : u < 10
    · rw [decDigits_small h, List.getD_cons_zero]
      intro e
      have := congrArg UInt8.toNat e
      rw [(dig_ofNat h).2] at this
      change 48 + u = 48 at this
      omega
    · rw [decDigits_big h]
      have hne := (dec_digits (u / 10)).2.2
      have := ih (u / 10) (by omega) (by omega)
      have hl := List.length_pos_iff.2 hne
      rw [List.getD_eq_getElem?_getD, List.getElem?_append_left hl, ← List.getD_eq_getElem?_getD]
      exact this
theorem dec_noZero (u : Nat) : 1 < (Lib.decDigits u).length → (Lib.decDigits u).getD 0 0 ≠ 48 := fun h => by
  refine dec_head u ?_
  rcases Nat.eq_zero_or_pos u with rfl | h'
  · rw [decDigits_small (by decide)] at h; simp at h
  · exact h'
theorem byte_of {c : UInt8} (h : isD c = true) : UInt8.ofNat (48 + (c.toNat - 48)) = c := by
  have := isD_iff.1 h
  rw [show 48 + (c.toNat - 48) = c.toNat by omega]
  exact UInt8.ofNat_toNat
theorem valD_pos : ∀ (ds : List UInt8), ds ≠ [] → isD (ds.getD 0 0) = true → ds.getD 0 0 ≠ 48 → 1 ≤ valD 0 ds
  | [], h, _, _ => absurd rfl h
  | c :: r, _, hd, h0 => by
    rw [List.getD_cons_zero] at hd h0
    have hc := isD_iff.1 hd
    rw [valD_cons]
    have := valD_ge r (0 * 10 + (c.toNat - 48))
    have : c.toNat ≠ 48 := fun e => h0 (UInt8.toNat_inj.1 e)
    omega
theorem dec_val : ∀ (n : Nat) (ds : List UInt8), ds.length = n → ds ≠ [] → (∀ c ∈ ds, isD c = true) → (1 < ds.length → ds.getD 0 0 ≠ 48) → Lib.decDigits (valD 0 ds) = ds
  | 0, ds, hn, hne, _, _ => absurd (List.eq_nil_of_length_eq_zero hn) hne
  | n + 1, ds, hn, hne, hd, h0 => by
    obtain ⟨ds', c, rfl⟩ : ∃ xs x, ds = xs ++ [x] := ⟨ds.dropLast, ds.getLast hne, (List.dropLast_concat_getLast hne).symm⟩
    have hc := hd c (by simp)
    have hcn := isD_iff.1 hc
    have hd' : ∀ x ∈ ds', isD x = true := fun x hx => hd x (by simp [hx])
    rw [valD_append, valD_cons]
    show Lib.decDigits (valD 0 ds' * 10 + (c.toNat - 48)) = _
    cases ds' with
    | nil =>
      show Lib.decDigits (0 * 10 + (c.toNat - 48)) = [c]
      rw [decDigits_small (by omega), Nat.zero_mul, Nat.zero_add, byte_of hc]
    | cons x xs =>
      have hx : x ≠ 48 := by simpa using h0 (by simp)
      have hp := valD_pos (x :: xs) (by simp) (hd' x (by simp)) hx
      have ih := dec_val n (x :: xs) (by simpa using hn) (by simp) hd' fun _ => hx
      rw [decDigits_big (by omega), show (valD 0 (x :: xs) * 10 + (c.toNat - 48)) / 10 = valD 0 (x :: xs) by omega, ih, show (valD 0 (x :: xs) * 10 + (c.toNat - 48)) % 10 = c.toNat - 48 by omega, byte_of hc]
theorem valD_lt : ∀ (ds : List UInt8) (acc : Nat), (∀ c ∈ ds, isD c = true) → valD acc ds < (acc + 1) * 10 ^ ds.length
  | [], acc, _ => by
    show acc < (acc + 1) * 1
    omega
  | c :: r, acc, h => by
    have hc := isD_iff.1 (h c (by simp))
    have := valD_lt r (acc * 10 + (c.toNat - 48)) fun x hx => h x (by simp [hx])
    rw [valD_cons, List.length_cons, Nat.pow_succ]
    have e : (acc + 1) * (10 ^ r.length * 10) = (acc * 10 + 10) * 10 ^ r.length := by
      rw [Nat.mul_comm (10 ^ r.length) 10, ← Nat.mul_assoc]
      congr 1; omega
    rw [e]
    exact Nat.lt_of_lt_of_le this (Nat.mul_le_mul_right _ (by omega))
theorem dec_len_le {u k : Nat} (h : u < 10 ^ k) (hk : 1 ≤ k) : (Lib.decDigits u).length ≤ k := by
  induction k generalizing u with
  | zero => omega
  | succ k ih =>
    by_cases hu : u < 10
    · rw [decDigits_small hu]; simp
    · rw [decDigits_big hu, List.length_append]
      have := ih (u := u / 10) (by rw [Nat.pow_succ] at h; omega) (by
        rcases Nat.eq_zero_or_pos k with rfl | h'
        · simp at h; omega
        · exact h')
      simp; omega
/-! ### Whole numbers, and what is behind them -/
def numL (l : List UInt8) : Option (Nat × List UInt8) :=
  if digsN l = 0 ∨ (1 < digsN l ∧ l.getD 0 0 = 48) ∨ 9223372036854775808 ≤ valD 0 (l.take (digsN l)) then none else some (valD 0 (l.take (digsN l)), l.drop (digsN l))
theorem numL_back {u : Nat} (hu : u < 9223372036854775808) (r : List UInt8) (hr : digsN r = 0) : numL (Lib.decDigits u ++ r) = some (u, r) := by
  obtain ⟨h1, h2, h3⟩ := dec_digits u
  have hn : digsN (Lib.decDigits u ++ r) = (Lib.decDigits u).length := by rw [digsN_append _ _ h1, hr, Nat.add_zero]
  have hl := List.length_pos_iff.2 h3
  unfold numL
  rw [hn, List.take_left, List.drop_left, h2, if_neg]
  rintro (h | ⟨h, h'⟩ | h)
  · omega
  · rw [List.getD_eq_getElem?_getD, List.getElem?_append_left hl, ← List.getD_eq_getElem?_getD] at h'
    exact dec_noZero u h h'
  · omega
theorem numL_sound {l r : List UInt8} {n : Nat} (h : numL l = some (n, r)) : l = Lib.decDigits n ++ r ∧ n < 9223372036854775808 ∧ 1 ≤ digsN l ∧ n = valD 0 (l.take (digsN l)) ∧ r = l.drop (digsN l) := by
  unfold numL at h
  split at h
  · cases h
  · rename_i hc
    injection h with h
    injection h with e1 e2
    have hle := digsN_le l
    have hlen : (l.take (digsN l)).length = digsN l := by rw [List.length_take]; omega
    have hd := dec_val _ (l.take (digsN l)) rfl (by intro e; rw [e] at hlen; simp at hlen; omega) (digsN_take l) (fun h1 h2 => by
      rw [hlen] at h1
      apply hc
      refine .inr (.inl ⟨h1, ?_⟩)
      rw [List.getD_eq_getElem?_getD, List.getElem?_take_of_lt (by omega), ← List.getD_eq_getElem?_getD] at h2
      exact h2)
    subst e1; subst e2
    exact ⟨by rw [hd, List.take_append_drop], by omega, by omega, rfl, rfl⟩
end Go.Abs
namespace Go.Abs
open Go

theorem valD_eq (l : List UInt8) : ∀ acc : Nat, valD acc l = acc * 10 ^ l.length + valD 0 l := by
  induction l with
  | nil => intro acc; rw [valD, valD]; simp
  | cons c l ih =>
    intro acc
    rw [valD_cons, valD_cons, ih, ih (0 * 10 + _), List.length_cons, Nat.pow_succ, Nat.add_mul, Nat.zero_mul, Nat.zero_add, Nat.mul_assoc, Nat.mul_comm 10 (10 ^ l.length)]
    omega
theorem valD_lt' {l : List UInt8} (h : ∀ c ∈ l, isD c = true) : valD 0 l < 10 ^ l.length := by
  have := valD_lt l 0 h
  rw [Nat.zero_add, Nat.one_mul] at this
  exact this
theorem valD_inj : ∀ (l m : List UInt8), l.length = m.length → (∀ c ∈ l, isD c = true) → (∀ c ∈ m, isD c = true) → valD 0 l = valD 0 m → l = m
  | [], [], _, _, _, _ => rfl
  | [], _ :: _, h, _, _, _ => by cases h
  | _ :: _, [], h, _, _, _ => by cases h
  | c :: l, d :: m, h, hl, hm, e => by
    have hlen : l.length = m.length := by simpa using h
    have h1 := valD_lt' fun x hx => hl x (List.mem_cons_of_mem _ hx)
    have h2 := valD_lt' fun x hx => hm x (List.mem_cons_of_mem _ hx)
    rw [valD_cons, valD_cons, valD_eq l, valD_eq m, Nat.zero_mul, Nat.zero_add, Nat.zero_add, hlen] at e
    rw [hlen] at h1
    have hc := isD_iff.1 (hl c (by simp))
    have hd := isD_iff.1 (hm d (by simp))
    have q1 : (c.toNat - 48) * 10 ^ m.length + valD 0 l = (d.toNat - 48) * 10 ^ m.length + valD 0 m := e
    have q2 : c.toNat - 48 = d.toNat - 48 := by
      have a := congrArg (· / 10 ^ m.length) q1
      simp only [Nat.mul_comm _ (10 ^ m.length)] at a
      rw [Nat.mul_add_div (by omega), Nat.mul_add_div (by omega), Nat.div_eq_of_lt h1, Nat.div_eq_of_lt h2] at a
      exact a
    have q3 : valD 0 l = valD 0 m := by rw [q2] at q1; omega
    rw [valD_inj l m hlen (fun x hx => hl x (List.mem_cons_of_mem _ hx)) (fun x hx => hm x (List.mem_cons_of_mem _ hx)) q3]
    rw [UInt8.toNat_inj.1 (show c.toNat = d.toNat by omega)]
theorem valD_zeros : ∀ (k : Nat) (l : List UInt8), valD 0 (List.replicate k 48 ++ l) = valD 0 l
  | 0, l => rfl
  | k + 1, l => by
    rw [List.replicate_succ, List.cons_append, valD_cons]
    exact valD_zeros k l
/-- A number in six places. -/
def pad6 (m : Nat) : List UInt8 := List.replicate (6 - (Lib.decDigits m).length) 48 ++ Lib.decDigits m
theorem pad6_digits (m : Nat) : ∀ c ∈ pad6 m, isD c = true := fun c hc => by
  rcases List.mem_append.1 hc with hc | hc
  · rw [List.eq_of_mem_replicate hc]; decide
  · exact (dec_digits m).1 c hc
theorem pad6_val (m : Nat) : valD 0 (pad6 m) = m := by rw [pad6, valD_zeros, (dec_digits m).2.1]
theorem pad6_len {m : Nat} (h : m < 1000000) : (pad6 m).length = 6 := by
  have := dec_len_le (u := m) (k := 6) h (by decide)
  rw [pad6, List.length_append, List.length_replicate]; omega
theorem pad6_of {l : List UInt8} (hl : l.length = 6) (hd : ∀ c ∈ l, isD c = true) : pad6 (valD 0 l) = l := by
  have := valD_lt' hd
  rw [hl] at this
  exact valD_inj _ _ (by rw [pad6_len this, hl]) (pad6_digits _) hd (pad6_val _)
/-- A number of millionths as seconds. -/
def timeL (n : Nat) : List UInt8 := Lib.decDigits (n / 1000000) ++ 46 :: pad6 (n % 1000000)
def six (l : List UInt8) : Bool := l.all isD
theorem six_iff {l : List UInt8} : six l = true ↔ ∀ c ∈ l, isD c = true := by simp [six]
def untL (l : List UInt8) : Option (Nat × List UInt8) :=
  match numL l with
  | none => none
  | some (n, r) => if r.length < 7 ∨ r.getD 0 0 ≠ 46 ∨ 4611686018427 < n ∨ six ((r.drop 1).take 6) = false then none else some (n * 1000000 + valD 0 ((r.drop 1).take 6), r.drop 7)
theorem timeL_six (m : Nat) (more : List UInt8) (hm : m < 1000000) : ((46 :: pad6 m ++ more).drop 1).take 6 = pad6 m ∧ (46 :: pad6 m ++ more).drop 7 = more := by
  have h6 := pad6_len hm
  rw [List.cons_append, List.drop_succ_cons, List.drop_zero, List.drop_succ_cons]
  rw [show (6 : Nat) = (pad6 m).length from h6.symm, List.take_left, List.drop_left]
  exact ⟨rfl, rfl⟩
theorem untL_back {n : Nat} (h : n < 4611686018427387904) (more : List UInt8) : untL (timeL n ++ more) = some (n, more) := by
  have hm : n % 1000000 < 1000000 := Nat.mod_lt _ (by decide)
  have hn := numL_back (u := n / 1000000) (by omega) (46 :: pad6 (n % 1000000) ++ more) (digsN_stop _ (by decide))
  obtain ⟨h1, h2⟩ := timeL_six (n % 1000000) more hm
  unfold untL timeL
  rw [List.append_assoc, hn]
  simp only [h1, h2]
  rw [if_neg, pad6_val]
  · congr 2; omega
  · rintro (q | q | q | q)
    · rw [List.length_append, List.length_cons, pad6_len hm] at q; omega
    · exact q rfl
    · omega
    · rw [six_iff.2 (pad6_digits _)] at q; cases q
theorem six_parts {r : List UInt8} (h7 : 7 ≤ r.length) (h46 : r.getD 0 0 = 46) : r = 46 :: ((r.drop 1).take 6 ++ r.drop 7) := by
  cases r with
  | nil => simp at h7
  | cons c r =>
    rw [List.getD_cons_zero] at h46
    rw [h46, List.drop_succ_cons, List.drop_zero, List.drop_succ_cons, List.take_append_drop]
theorem untL_sound {l r : List UInt8} {n : Nat} (h : untL l = some (n, r)) : timeL n ++ r = l ∧ n < 4611686018428000000 := by
  unfold untL at h
  split at h
  · cases h
  · rename_i a q hq
    obtain ⟨h1, _, _⟩ := numL_sound hq
    split at h
    · cases h
    · rename_i hc
      injection h with h
      injection h with e1 e2
      have h7 : 7 ≤ q.length := by omega
      have h46 : q.getD 0 0 = 46 := by
        by_cases e : q.getD 0 0 = 46
        · exact e
        · exact absurd (.inr (.inl e)) hc
      have hd : ∀ c ∈ (q.drop 1).take 6, isD c = true := six_iff.1 (by
        cases e : six ((q.drop 1).take 6) with
        | true => rfl
        | false => exact absurd (.inr (.inr (.inr e))) hc)
      have hl : ((q.drop 1).take 6).length = 6 := by rw [List.length_take, List.length_drop]; omega
      have hv := valD_lt' hd
      rw [hl] at hv
      have hp := pad6_of hl hd
      have hs := six_parts h7 h46
      generalize (q.drop 1).take 6 = ds at hv hp hs e1
      have ha : a ≤ 4611686018427 := by omega
      refine ⟨?_, by omega⟩
      subst e1
      unfold timeL
      rw [show (a * 1000000 + valD 0 ds) / 1000000 = a by omega, show (a * 1000000 + valD 0 ds) % 1000000 = valD 0 ds by omega, hp, h1, List.append_assoc, ← e2]
      congr 1
      exact hs.symm
/-- A text that has the form of a time, but for the greatest ones, is one. -/
theorem untL_form {l : List UInt8} (h0 : digsN l ≠ 0) (h12 : digsN l ≤ 12) (hz : 1 < digsN l → l.getD 0 0 ≠ 48) (h7 : digsN l + 7 ≤ l.length) (h46 : l.getD (digsN l) 0 = 46) (hd : six ((l.drop (digsN l + 1)).take 6) = true) : untL l ≠ none := by
  have hlen : (l.take (digsN l)).length = digsN l := by rw [List.length_take]; omega
  have hv := valD_lt' (digsN_take l)
  rw [hlen] at hv
  have hp : (10 : Nat) ^ digsN l ≤ 10 ^ 12 := Nat.pow_le_pow_right (by decide) h12
  have hp' : (10 : Nat) ^ 12 = 1000000000000 := by decide
  have hn : numL l = some (valD 0 (l.take (digsN l)), l.drop (digsN l)) := by
    unfold numL
    rw [if_neg]
    rintro (q | ⟨q, q'⟩ | q)
    · exact h0 q
    · exact hz q q'
    · omega
  unfold untL
  rw [hn]
  simp only
  rw [if_neg]
  · simp
  · rintro (q | q | q | q)
    · rw [List.length_drop] at q; omega
    · rw [List.getD_eq_getElem?_getD, List.getElem?_drop, ← List.getD_eq_getElem?_getD] at q
      exact q h46
    · omega
    · rw [List.drop_drop, hd] at q; cases q
end Go.Abs
namespace Go.Abs.TB
open Go Go.Abs Go.Proofs

theorem getD_mem {l : List UInt8} {i : Nat} (h : i < l.length) : l.getD i 0 ∈ l := by
  rw [List.getD_eq_getElem?_getD, List.getElem?_eq_getElem h]; exact List.getElem_mem h
theorem ge48 {c : UInt8} : decide (((c.toNat : Nat) : Int) ≥ 48) = decide (48 ≤ c.toNat) := by
  by_cases h : 48 ≤ c.toNat
  · rw [decide_eq_true h, decide_eq_true (by omega)]
  · rw [decide_eq_false h, decide_eq_false (by omega)]
theorem le57 {c : UInt8} : decide (((c.toNat : Nat) : Int) ≤ 57) = decide (c.toNat ≤ 57) := by
  by_cases h : c.toNat ≤ 57
  · rw [decide_eq_true h, decide_eq_true (by omega)]
  · rw [decide_eq_false h, decide_eq_false (by omega)]
def numV (s : ByteArray) : Int × ByteArray × Bool := match numL s.data.toList with
  | some (n, r) => ((n : Int), ba r, true)
  | none => (0, ba [], false)
noncomputable def c_json_Number : C_json_Number := { strconv_Atoi := w_strconv_Atoi }
theorem Number_loop {L : Nat} {l : List UInt8} {σ : Heap} {R : Type} {K : AVal → Heap → Option R} (hl : l.length ≤ 1000000) : ∀ (k i m : Nat), i + k = digsN l → k < m →
    json_Number_L2 c_json_Number L m (ba l) (i : Int) σ K = json_Number_J4 c_json_Number L (ba l) (digsN l : Int) σ K
  | k, i, 0, _, h => by omega
  | k, i, m + 1, h, hm => by
    have hle := digsN_le l
    rw [json_Number_L2_eq]
    simp only [ba_size, ba_data]
    by_cases hi : i < l.length
    · rw [lt_true hi, cond_true, dec0, Bool.true_and, cond_true, Int.toNat_natCast, cond_true, ge48, le57]
      cases k with
      | zero =>
        have he : i = digsN l := by omega
        have := digsN_end l (by omega)
        rw [← he] at this
        unfold isD at this
        cases h1 : decide (48 ≤ (l.getD i 0).toNat) with
        | false => rw [cond_false, he]
        | true =>
          rw [h1, Bool.true_and] at this
          rw [cond_true, this, cond_false, he]
      | succ k =>
        have := isD_iff.1 (digsN_at l i (by omega))
        rw [decide_eq_true this.1, cond_true, decide_eq_true this.2, cond_true, wrap_i64_succ i (by omega)]
        exact Number_loop hl k (i + 1) m (by omega) (by omega)
    · rw [lt_false hi, cond_false, show i = digsN l by omega]
theorem atoiV_digits {ds : List UInt8} (hne : ds ≠ []) (hd : ∀ c ∈ ds, isD c = true) : atoiV (ba ds) = if valD 0 ds < 9223372036854775808 then ((valD 0 ds : Int), ⟨true⟩) else (Lib.atoiSat ds, ⟨false⟩) := by
  unfold atoiV
  rw [ba_data, atoi_digits hne hd]
  by_cases h : valD 0 ds < 9223372036854775808
  · rw [if_pos h, if_pos h]
  · rw [if_neg h, if_neg h]
theorem atoiV_nil : atoiV (ba []) = (0, ⟨false⟩) := rfl
noncomputable def w_json_Number (s : ByteArray) (σ : Heap) : Option ((Int × ByteArray × Bool) × Heap) := wIf (GE σ ∧ s.size ≤ 1000000) (numV s, σ)
theorem w_json_Number_eq {s : ByteArray} {σ : Heap} (h : GE σ) (h2 : s.size ≤ 1000000) : w_json_Number s σ = some (numV s, σ) := wIf_eq ⟨h, h2⟩
theorem ok_json_Number : Ok_json_Number w_json_Number := fun s σ v σ' h => by
  obtain ⟨⟨hp, hs⟩, e⟩ := wIf_some h
  injection e with e1 e2
  subst e1; subst e2
  obtain ⟨l, rfl⟩ : ∃ l, s = ba l := ⟨_, ba_self s⟩
  rw [ba_size] at hs
  refine call_ok ok (K_json_Number c_json_Number ok_strconv_Atoi) (L := l.length + 1) (n := 2) ((json_Number_eq c_json_Number (l.length + 1) (ba l) σ _).trans ?_)
  have hle := digsN_le l
  have p1 : c_json_Number.strconv_Atoi = w_strconv_Atoi := rfl
  rw [show (0 : Int) = ((0 : Nat) : Int) from rfl, Number_loop hs (digsN l) 0 _ (by omega) (by omega), json_Number_J4_eq, p1]
  simp only [ba_size, ba_data, ba_nil]
  have hf := ba_from l (digsN l)
  rw [ba_size] at hf
  rw [show decide ((0 : Int) ≤ ((digsN l : Nat) : Int)) = true by simp, Bool.true_and, decide_eq_true (show ((digsN l : Nat) : Int) ≤ (l.length : Int) by omega), cond_true, Int.toNat_natCast, ba_to, w_strconv_Atoi_eq hp (by rw [ba_size, List.length_take]; omega), Option.bind_some, Bool.true_and, decide_eq_true (show (l.length : Int) ≤ (l.length : Int) by omega), cond_true, hf]
  unfold numV numL
  rw [ba_data]
  by_cases h0 : digsN l = 0
  · rw [h0, List.take_zero, atoiV_nil, if_pos (.inl rfl)]
    rfl
  · have hlen : (l.take (digsN l)).length = digsN l := by rw [List.length_take]; omega
    rw [atoiV_digits (by intro e; rw [e] at hlen; simp at hlen; omega) (digsN_take l)]
    by_cases hv : valD 0 (l.take (digsN l)) < 9223372036854775808
    · rw [if_pos hv]
      dsimp only
      rw [Bool.not_true, cond_false]
      by_cases h1 : 1 < digsN l
      · rw [decide_eq_true (show ((digsN l : Nat) : Int) > 1 by omega), cond_true, decide_eq_true (show (0 : Int) < (l.length : Int) by omega), cond_true, show (48 : Int) = ((48 : Nat) : Int) from rfl, byte_eq _ 48 (by decide)]
        by_cases h48 : l.getD 0 0 = 48
        · rw [decide_eq_true (show l.getD 0 0 = UInt8.ofNat 48 from h48), cond_true, if_pos (.inr (.inl ⟨h1, h48⟩))]
          rfl
        · rw [decide_eq_false (show ¬ l.getD 0 0 = UInt8.ofNat 48 from h48), cond_false, if_neg (by
          rintro (q | ⟨q, q2⟩ | q)
          · exact h0 q
          · exact h48 q2
          · omega)]
          rfl
      · rw [decide_eq_false (show ¬ ((digsN l : Nat) : Int) > 1 by omega), cond_false, if_neg (by
          rintro (q | ⟨q, _⟩ | q)
          · exact h0 q
          · exact h1 q
          · omega)]
        rfl
    · rw [if_neg hv, if_pos (.inr (.inr (by omega)))]
      rfl
/-! ### Time -/
noncomputable def c_json_Time : C_json_Time := { strconv_Itoa := w_strconv_Itoa }
theorem Time_loop {L : Nat} {σ : Heap} {R : Type} {K : AVal → Heap → Option R} (a : List UInt8) (ha : a.length ≤ 100) (b : List UInt8) (hb : b.length ≤ 6) : ∀ (k m : Nat), b.length + k ≤ 6 → 6 - (b.length + k) < m →
    json_Time_L3 c_json_Time L m (ba a) (ba (List.replicate k 48 ++ b)) σ K = K (.str (ba (a ++ 46 :: (List.replicate (6 - b.length) 48 ++ b)))) σ
  | k, 0, _, h => by omega
  | k, m + 1, h1, h2 => by
    rw [json_Time_L3_eq]
    have hl : (List.replicate k (48 : UInt8) ++ b).length = k + b.length := by simp
    simp only [ba_size]
    rw [hl]
    by_cases hk : k + b.length < 6
    · rw [decide_eq_true (show ((k + b.length : Nat) : Int) < 6 by omega), cond_true, if_pos (by show 1 + _ ≤ _; omega), show (⟨#[48]⟩ : ByteArray) = ba [48] from rfl, ba_append]
      have := Time_loop (L := L) (σ := σ) (K := K) a ha b hb (k + 1) m (by omega) (by omega)
      rw [List.replicate_succ] at this
      exact this
    · rw [decide_eq_false (show ¬ ((k + b.length : Nat) : Int) < 6 by omega), cond_false, if_pos (by show _ + 1 ≤ _; omega), show (⟨#[46]⟩ : ByteArray) = ba [46] from rfl, ba_append, ba_size, if_pos (by rw [List.length_append]; show _ + 1 + _ ≤ _; omega), ba_append, show k = 6 - b.length by omega, List.append_assoc]
      rfl
noncomputable def w_json_Time (n : Int) (σ : Heap) : Option (ByteArray × Heap) := wIf (GP σ ∧ 0 ≤ n ∧ n < 9223372036854775808) (ba (timeL n.toNat), σ)
theorem w_json_Time_eq {n : Nat} {σ : Heap} (h : GP σ) (h2 : n < 9223372036854775808) : w_json_Time (n : Int) σ = some (ba (timeL n), σ) := by
  have := wIf_eq (r := (ba (timeL (n : Int).toNat), σ)) (show GP σ ∧ 0 ≤ (n : Int) ∧ (n : Int) < 9223372036854775808 from ⟨h, by omega, by omega⟩)
  rw [Int.toNat_natCast] at this
  exact this
theorem wrap_nat {n : Nat} (h : n < 9223372036854775808) : IntKind.i64.wrap (n : Int) = (n : Int) := by
  cases n with
  | zero => rfl
  | succ n => have := wrap_i64_succ n (by omega); rwa [show ((n : Int) + 1) = ((n + 1 : Nat) : Int) by omega] at this
theorem itoa_nat (n : Nat) : Lib.itoa (n : Int) = Lib.decDigits n := by
  unfold Lib.itoa
  rw [if_neg (by omega), Int.toNat_natCast]
theorem dec_len20 {n : Nat} (h : n < 9223372036854775808) : (Lib.decDigits n).length ≤ 19 := dec_len_le (k := 19) (Nat.lt_trans h (by decide)) (by decide)
theorem ok_json_Time : Ok_json_Time w_json_Time := fun n σ v σ' h => by
  obtain ⟨⟨hp, h0, h1⟩, e⟩ := wIf_some h
  injection e with e1 e2
  subst e1; subst e2
  obtain ⟨n, rfl⟩ : ∃ m : Nat, n = (m : Int) := ⟨n.toNat, by omega⟩
  refine call_ok ok (K_json_Time c_json_Time ok_strconv_Itoa) (L := 10) (n := 2) ((json_Time_eq c_json_Time 10 (n : Int) σ _).trans ?_)
  have p1 : c_json_Time.strconv_Itoa = w_strconv_Itoa := rfl
  have hm : n % 1000000 < 1000000 := Nat.mod_lt _ (by decide)
  have d1 : Int.tdiv (n : Int) 1000000 = ((n / 1000000 : Nat) : Int) := rfl
  have d2 : Int.tmod (n : Int) 1000000 = ((n % 1000000 : Nat) : Int) := rfl
  rw [p1, d1, d2, wrap_nat (by omega), w_strconv_Itoa_eq hp ⟨by omega, by omega⟩, Option.bind_some]
  dsimp only
  rw [w_strconv_Itoa_eq hp ⟨by omega, by omega⟩, Option.bind_some, itoa_nat, itoa_nat, Int.toNat_natCast]
  have h6 := dec_len_le (u := n % 1000000) (k := 6) hm (by decide)
  have h19 := dec_len20 (n := n / 1000000) (by omega)
  have := Time_loop (L := 10) (σ := σ) (K := fun v σ => some (v, σ)) (Lib.decDigits (n / 1000000)) (by omega) (Lib.decDigits (n % 1000000)) h6 0 10 (by omega) (by omega)
  rw [List.replicate_zero, List.nil_append] at this
  exact this
/-! ### Untime -/
def untV (s : ByteArray) : Int × ByteArray × Bool := match untL s.data.toList with
  | some (n, r) => ((n : Int), ba r, true)
  | none => (0, ba [], false)
def untO (x : Option (Nat × List UInt8)) : AVal := match x with
  | some (n, r) => .tuple [.int .i64 (n : Int), .str (ba r), .bool true]
  | none => .tuple [.int .i64 0, .str (ba []), .bool false]
noncomputable def c_json_Untime : C_json_Untime := { json_Number := w_json_Number }
theorem digit_num : ∀ c : Fin 256, 48 ≤ c.val → c.val ≤ 57 → IntKind.i64.wrap (IntKind.u8.wrap (((c.val : Nat) : Int) - 48)) = (((c.val - 48 : Nat)) : Int) := by decide +kernel
theorem digit_num' {c : UInt8} (h : isD c = true) : IntKind.i64.wrap (IntKind.u8.wrap (((c.toNat : Nat) : Int) - 48)) = ((c.toNat - 48 : Nat) : Int) := by
  have h1 := isD_iff.1 h
  exact digit_num ⟨c.toNat, c.toNat_lt⟩ h1.1 h1.2
theorem Untime_loop {L : Nat} {σ : Heap} {R : Type} {K : AVal → Heap → Option R} {a : Nat} (ha : a ≤ 4611686018427) {r : List UInt8} (h7 : 7 ≤ r.length) (hr : r.length ≤ 1000000) : ∀ (k i m acc : Nat), i + k = 7 → 1 ≤ i → k < m → acc < 10 ^ (i - 1) →
    json_Untime_L6 c_json_Untime L m (a : Int) (ba r) (acc : Int) (i : Int) σ K =
      K (untO (if six ((r.drop i).take k) then some (a * 1000000 + valD acc ((r.drop i).take k), r.drop 7) else none)) σ
  | k, i, 0, _, _, _, h, _ => by omega
  | 0, i, m + 1, acc, h, h1, hm, hacc => by
    obtain rfl : i = 7 := by omega
    have hp : (10 : Nat) ^ (7 - 1) = 1000000 := by decide
    rw [json_Untime_L6_eq, decide_eq_false (by decide), cond_false]
    simp only [ba_size]
    have hf := ba_from r 7
    rw [ba_size] at hf
    rw [decide_eq_true (show (7 : Int) ≤ (r.length : Int) by omega), Bool.true_and, decide_eq_true (show (r.length : Int) ≤ (r.length : Int) by omega), cond_true, hf, List.take_zero, show six [] = true from rfl, if_pos rfl, valD_nil]
    have e1 : IntKind.i64.wrap ((a : Int) * 1000000) = ((a * 1000000 : Nat) : Int) := by
      rw [show ((a : Int) * 1000000) = ((a * 1000000 : Nat) : Int) by omega, wrap_nat (by omega)]
    rw [e1, show ((a * 1000000 : Nat) : Int) + (acc : Int) = ((a * 1000000 + acc : Nat) : Int) by omega, wrap_nat (by omega)]
    rfl
  | k + 1, i, m + 1, acc, h, h1, hm, hacc => by
    have hi : i < r.length := by omega
    have hp : (10 : Nat) ^ (i - 1) ≤ 10 ^ 6 := Nat.pow_le_pow_right (by decide) (by omega)
    have hp' : (10 : Nat) ^ 6 = 1000000 := by decide
    have hg : (r.drop i).take (k + 1) = r.getD i 0 :: (r.drop (i + 1)).take k := by
      rw [List.drop_eq_getElem_cons hi, List.take_succ_cons, List.getD_eq_getElem?_getD, List.getElem?_eq_getElem hi]; rfl
    rw [json_Untime_L6_eq, decide_eq_true (show (i : Int) < 7 by omega), cond_true]
    simp only [ba_size, ba_data]
    rw [dec0, Bool.true_and, lt_true hi, cond_true, Int.toNat_natCast, cond_true, cond_true, hg]
    generalize r.getD i 0 = c
    have ib : six (c :: (r.drop (i + 1)).take k) = (isD c && six ((r.drop (i + 1)).take k)) := by simp [six]
    rw [ib]
    by_cases g1 : 48 ≤ c.toNat
    · rw [decide_eq_false (show ¬ ((c.toNat : Nat) : Int) < 48 by omega), cond_false]
      by_cases g2 : c.toNat ≤ 57
      · have hc : isD c = true := isD_iff.2 ⟨g1, g2⟩
        rw [decide_eq_false (show ¬ ((c.toNat : Nat) : Int) > 57 by omega), cond_false, hc, Bool.true_and, valD_cons, digit_num' hc, wrap_i64_succ i (by omega)]
        have e1 : IntKind.i64.wrap (10 * (acc : Int)) = ((acc * 10 : Nat) : Int) := by
          rw [show (10 * (acc : Int)) = ((acc * 10 : Nat) : Int) by omega, wrap_nat (by omega)]
        rw [e1, show ((acc * 10 : Nat) : Int) + ((c.toNat - 48 : Nat) : Int) = ((acc * 10 + (c.toNat - 48) : Nat) : Int) by omega, wrap_nat (by omega)]
        exact Untime_loop ha h7 hr k (i + 1) m _ (by omega) (by omega) (by omega) (by
          rw [show i + 1 - 1 = (i - 1) + 1 by omega, Nat.pow_succ]; omega)
      · rw [decide_eq_true (show ((c.toNat : Nat) : Int) > 57 by omega), cond_true, show isD c = false by unfold isD; rw [decide_eq_false g2, Bool.and_false], Bool.false_and, if_neg (by decide)]
        rfl
    · rw [decide_eq_true (show ((c.toNat : Nat) : Int) < 48 by omega), cond_true, show isD c = false by unfold isD; rw [decide_eq_false g1, Bool.false_and], Bool.false_and, if_neg (by decide)]
      rfl
noncomputable def w_json_Untime (s : ByteArray) (σ : Heap) : Option ((Int × ByteArray × Bool) × Heap) := wIf (GE σ ∧ s.size ≤ 1000000) (untV s, σ)
theorem w_json_Untime_eq {s : ByteArray} {σ : Heap} (h : GE σ) (h2 : s.size ≤ 1000000) : w_json_Untime s σ = some (untV s, σ) := wIf_eq ⟨h, h2⟩
theorem untO_eq (s : ByteArray) : untO (untL s.data.toList) = (tTrip (tInt .i64) tStr tBool).av (untV s) := by
  unfold untV
  cases untL s.data.toList with
  | none => rfl
  | some q => obtain ⟨n, r⟩ := q; rfl
theorem ok_json_Untime : Ok_json_Untime w_json_Untime := fun s σ v σ' h => by
  obtain ⟨⟨hp, hs⟩, e⟩ := wIf_some h
  injection e with e1 e2
  subst e1; subst e2
  obtain ⟨l, rfl⟩ : ∃ l, s = ba l := ⟨_, ba_self s⟩
  refine call_ok ok (K_json_Untime c_json_Untime ok_json_Number) (L := 10) (n := 2) ((json_Untime_eq c_json_Untime 10 (ba l) σ _).trans ?_)
  have p1 : c_json_Untime.json_Number = w_json_Number := rfl
  rw [← untO_eq, ba_data, p1, w_json_Number_eq hp hs, Option.bind_some]
  rw [ba_size] at hs
  unfold numV untL
  rw [ba_data]
  cases hn : numL l with
  | none => rfl
  | some q =>
    obtain ⟨a, r⟩ := q
    have hlen := congrArg List.length (numL_sound hn).1
    rw [List.length_append] at hlen
    simp only [ba_size, ba_data, Bool.not_true, cond_false]
    by_cases h7 : r.length < 7
    · rw [decide_eq_true (show (r.length : Int) < 7 by omega), cond_true, if_pos (.inl h7)]; rfl
    · rw [decide_eq_false (show ¬ (r.length : Int) < 7 by omega), cond_false, decide_eq_true (show (0 : Int) < (r.length : Int) by omega), cond_true]
      by_cases h46 : r.getD 0 0 = 46
      · rw [h46, show (((((46 : UInt8)).toNat : Nat) : Int) != 46) = false from rfl, cond_false]
        by_cases ha : 4611686018427 < a
        · rw [decide_eq_true (show (a : Int) > 4611686018427 by omega), cond_true, if_pos (.inr (.inr (.inl ha)))]; rfl
        · rw [decide_eq_false (show ¬ (a : Int) > 4611686018427 by omega), cond_false]
          have := Untime_loop (L := 10) (σ := σ) (K := fun v σ => some (v, σ)) (a := a) (by omega) (r := r) (by omega) (by omega) 6 1 10 0 rfl (by decide) (by decide) (by decide)
          refine Eq.trans this ?_
          cases hsix : six ((r.drop 1).take 6) with
          | true => rw [if_pos rfl, if_neg (by
            rintro (q | q | q | q)
            · exact h7 q
            · exact q rfl
            · exact ha q
            · cases q)]
          | false => rw [if_neg (by decide), if_pos (.inr (.inr (.inr rfl)))]
      · rw [bne, show (46 : Int) = ((46 : Nat) : Int) from rfl, byte_eq _ 46 (by decide), decide_eq_false (show ¬ r.getD 0 0 = UInt8.ofNat 46 from h46), Bool.not_false, cond_true, if_pos (.inr (.inl h46))]; rfl
end Go.Abs.TB
