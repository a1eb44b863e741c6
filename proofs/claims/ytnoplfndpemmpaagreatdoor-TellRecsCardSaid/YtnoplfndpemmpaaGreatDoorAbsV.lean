/-
Numbers' bytes, plain.
-/
import Derived.Test.YtnoplfndpemmpaaGreatDoorMAd
namespace Go.Abs
open Go

/-! Texts as lists -/
def ba (xs : List UInt8) : ByteArray := ⟨xs.toArray⟩
theorem ba_append (xs ys : List UInt8) : ba xs ++ ba ys = ba (xs ++ ys) := by
  apply ByteArray.ext; simp [ba, ByteArray.data_append]
theorem ba_size (xs : List UInt8) : (ba xs).size = xs.length := by simp [ba, ByteArray.size]
theorem ba_self (s : ByteArray) : s = ba s.data.toList := by
  apply ByteArray.ext; simp [ba]
theorem ba_data (l : List UInt8) : (ba l).data.toList = l := by simp [ba]
theorem ba_toList (l : List UInt8) : (ba l).toList = l := by rw [ByteArray.toList_eq, ba_data]
theorem ba_extract (l : List UInt8) (a b : Nat) : (ba l).extract a b = ba ((l.drop a).take (b - a)) := by
  apply ByteArray.ext
  apply Array.ext'
  rw [ByteArray.data_extract, Array.toList_extract, ba_data, ba_data, List.extract_eq_take_drop]
theorem ba_from (l : List UInt8) (a : Nat) : (ba l).extract a l.length = ba (l.drop a) := by
  rw [ba_extract, List.take_of_length_le (by rw [List.length_drop]; omega)]
theorem ba_to (l : List UInt8) (b : Nat) : (ba l).extract 0 b = ba (l.take b) := by
  rw [ba_extract, List.drop_zero, Nat.sub_zero]
theorem ba_inj {l m : List UInt8} (h : ba l = ba m) : l = m := by
  have := congrArg (fun x : ByteArray => x.data.toList) h
  simpa only [ba_data] using this
theorem ba_nil : (⟨#[]⟩ : ByteArray) = ba [] := rfl
theorem ofNat_toNat {n : Nat} (h : n < 256) : (UInt8.ofNat n).toNat = n := by simp; omega
/-- A number's bytes. -/
def vput (n : Nat) : List UInt8 := if n < 128 then [UInt8.ofNat n] else UInt8.ofNat (n % 128 + 128) :: vput (n / 128)
termination_by n
decreasing_by omega
theorem vput_lt {n : Nat} (h : n < 128) : vput n = [UInt8.ofNat n] := by rw [vput, if_pos h]
theorem vput_ge {n : Nat} (h : 128 ≤ n) : vput n = UInt8.ofNat (n % 128 + 128) :: vput (n / 128) := by rw [vput, if_neg (by omega)]
def vputs : List Nat → List UInt8
  | [] => []
  | n :: ns => vput n ++ vputs ns
theorem vput_ne (n : Nat) : vput n ≠ [] := by
  rw [vput]
  split <;> simp
theorem vput_len : ∀ (k n : Nat), n < 128 ^ k → 0 < k → (vput n).length ≤ k
  | 0, n, h, h0 => by omega
  | k + 1, n, h, _ => by
    by_cases h1 : n < 128
    · rw [vput_lt h1]; simp
    · rw [vput_ge (by omega)]
      cases k with
      | zero => simp at h; omega
      | succ k =>
        have := vput_len (k + 1) (n / 128) (by rw [Nat.div_lt_iff_lt_mul (by omega), ← Nat.pow_succ]; exact h) (by omega)
        simp; omega
theorem vput_len10 {n : Nat} (h : n < 18446744073709551616) : (vput n).length ≤ 10 := vput_len 10 n (Nat.lt_of_lt_of_le h (by decide)) (by omega)
theorem vputs_len : ∀ (ns : List Nat), (∀ n ∈ ns, n < 18446744073709551616) → (vputs ns).length ≤ 10 * ns.length
  | [], _ => by simp [vputs]
  | n :: ns, h => by
    have h1 := vput_len10 (h n List.mem_cons_self)
    have h2 := vputs_len ns fun m hm => h m (List.mem_cons_of_mem _ hm)
    simp only [vputs, List.length_append, List.length_cons]
    omega
theorem vputs_append : ∀ (a b : List Nat), vputs (a ++ b) = vputs a ++ vputs b
  | [], b => rfl
  | n :: a, b => by simp [vputs, vputs_append a b]
theorem vputs_ne {ns : List Nat} (h : ns ≠ []) : vputs ns ≠ [] := by
  cases ns with
  | nil => exact absurd rfl h
  | cons n ns =>
    rw [vputs]
    intro e
    exact vput_ne n (List.append_eq_nil_iff.1 e).1
/-- The number that bytes begin with, and how many it has; 0, 0: none. -/
def vtakeGo : Nat → Nat → List UInt8 → Nat × Nat
  | _, _, [] => (0, 0)
  | i, n, c :: cs => if (i = 9 ∧ c.toNat > 1) ∨ i > 9 then (0, 0) else
      if c.toNat < 128 then (if c.toNat = 0 ∧ i > 0 then (0, 0) else (n + c.toNat % 128 * 2 ^ (7 * i), i + 1))
      else vtakeGo (i + 1) (n + c.toNat % 128 * 2 ^ (7 * i)) cs
def vtake (xs : List UInt8) : Nat × Nat := vtakeGo 0 0 xs
theorem vtakeGo_le : ∀ (xs : List UInt8) (i n : Nat), (vtakeGo i n xs).2 ≤ i + xs.length
  | [], i, n => by simp [vtakeGo]
  | c :: cs, i, n => by
    rw [vtakeGo]
    split
    · simp
    · split
      · split
        · simp
        · simp only [List.length_cons]; omega
      · have := vtakeGo_le cs (i + 1) (n + c.toNat % 128 * 2 ^ (7 * i))
        simp; omega
theorem vtake_le (xs : List UInt8) : (vtake xs).2 ≤ xs.length := by
  have := vtakeGo_le xs 0 0
  unfold vtake
  omega
theorem vtakeGo_vput (rest : List UInt8) : ∀ (n i acc : Nat), acc + n * 2 ^ (7 * i) < 18446744073709551616 → (0 < i → n ≠ 0) → i ≤ 9 → vtakeGo i acc (vput n ++ rest) = (acc + n * 2 ^ (7 * i), i + (vput n).length) := by
  intro n
  induction n using Nat.strongRecOn with
  | ind n ih =>
    intro i acc h h0 hi
    by_cases h1 : n < 128
    · rw [vput_lt h1, List.singleton_append, vtakeGo, ofNat_toNat (by omega)]
      have h9 : ¬ ((i = 9 ∧ n > 1) ∨ i > 9) := by
        rintro (⟨e, h2⟩ | h2)
        · subst e
          have e : (2 : Nat) ^ (7 * 9) = 9223372036854775808 := by decide
          have : 2 * 2 ^ (7 * 9) ≤ n * 2 ^ (7 * 9) := Nat.mul_le_mul_right _ (by omega)
          omega
        · omega
      rw [if_neg h9, if_pos h1, if_neg (by rintro ⟨h2, h3⟩; exact h0 h3 h2), Nat.mod_eq_of_lt h1]
      rfl
    · rw [vput_ge (by omega), List.cons_append, vtakeGo, ofNat_toNat (by omega)]
      have hlt : i < 9 := by
        rcases Nat.lt_or_ge i 9 with h2 | h2
        · exact h2
        · have e9 : i = 9 := by omega
          subst e9
          have e : (2 : Nat) ^ (7 * 9) = 9223372036854775808 := by decide
          have : 128 * 2 ^ (7 * 9) ≤ n * 2 ^ (7 * 9) := Nat.mul_le_mul_right _ (by omega)
          omega
      have hm : (n % 128 + 128) % 128 = n % 128 := by omega
      have hs : acc + n % 128 * 2 ^ (7 * i) + n / 128 * 2 ^ (7 * (i + 1)) = acc + n * 2 ^ (7 * i) := by
        rw [show 7 * (i + 1) = 7 * i + 7 by omega, Nat.pow_add, Nat.add_assoc, Nat.mul_comm (2 ^ (7 * i)) (2 ^ 7), ← Nat.mul_assoc, ← Nat.add_mul]
        congr 2
        have := Nat.div_add_mod n 128
        omega
      rw [if_neg (by omega), if_neg (by omega), hm, ih (n / 128) (by omega) (i + 1) _ (by rw [hs]; exact h) (fun _ => by omega) (by omega), hs]
      simp only [List.length_cons]
      congr 1
      omega
theorem vtake_vput {n : Nat} (h : n < 18446744073709551616) (rest : List UInt8) : vtake (vput n ++ rest) = (n, (vput n).length) := by
  unfold vtake
  rw [vtakeGo_vput rest n 0 0 (by simpa using h) (by omega) (by omega)]
  simp

theorem vtakeGo_canon : ∀ (xs : List UInt8) (i acc v k : Nat), vtakeGo i acc xs = (v, k) → k ≠ 0 →
    ∃ n, v = acc + n * 2 ^ (7 * i) ∧ k = i + (vput n).length ∧ xs = vput n ++ xs.drop (vput n).length ∧ (0 < i → n ≠ 0)
  | [], i, acc, v, k, h, hk => by
    simp [vtakeGo] at h
    exact absurd h.2.symm hk
  | c :: cs, i, acc, v, k, h, hk => by
    have hc := c.toNat_lt
    have hof : UInt8.ofNat c.toNat = c := by simp
    unfold vtakeGo at h
    split at h
    · simp at h; exact absurd h.2.symm hk
    · split at h
      · rename_i h1
        split at h
        · simp at h; exact absurd h.2.symm hk
        · rename_i h2
          simp only [Prod.mk.injEq] at h
          refine ⟨c.toNat, ?_, ?_, ?_, fun hi h0 => h2 ⟨h0, hi⟩⟩
          · rw [← h.1, Nat.mod_eq_of_lt h1]
          · rw [vput_lt h1, ← h.2]; rfl
          · rw [vput_lt h1, hof]; rfl
      · rename_i h1
        obtain ⟨n, e1, e2, e3, e4⟩ := vtakeGo_canon cs (i + 1) _ v k h hk
        have hn := e4 (by omega)
        have hge : 128 ≤ c.toNat % 128 + 128 * n := by omega
        refine ⟨c.toNat % 128 + 128 * n, ?_, ?_, ?_, fun _ => by omega⟩
        · rw [e1, show 7 * (i + 1) = 7 * i + 7 by omega, Nat.pow_add, Nat.add_mul, Nat.add_assoc]
          congr 1
          congr 1
          rw [Nat.mul_comm (2 ^ (7 * i)) (2 ^ 7), ← Nat.mul_assoc, Nat.mul_comm n (2 ^ 7)]
        · rw [vput_ge hge, show (c.toNat % 128 + 128 * n) / 128 = n by omega, e2]
          simp only [List.length_cons]
          omega
        · rw [vput_ge hge, show (c.toNat % 128 + 128 * n) / 128 = n by omega, show (c.toNat % 128 + 128 * n) % 128 + 128 = c.toNat by omega, hof]
          simp only [List.length_cons, List.cons_append, List.drop_succ_cons]
          rw [← e3]
theorem vtake_canon {xs : List UInt8} (h : (vtake xs).2 ≠ 0) : xs = vput (vtake xs).1 ++ xs.drop (vtake xs).2 := by
  obtain ⟨n, e1, e2, e3, _⟩ := vtakeGo_canon xs 0 0 (vtake xs).1 (vtake xs).2 rfl h
  simp at e1 e2
  rw [e1, e2]
  exact e3
end Go.Abs
