/-
Contracts of vary: taking numbers, a reader.
-/
import Derived.Test.YtcfohnfnajfahaaDoorConB1
import Derived.Test.YtcfohnfnajfahaaDoorEqA2
namespace Go.Abs.TA
open Go Go.Abs Go.Proofs

/-- The number that bytes begin with, and how many it has; 0, 0: none. -/
def vtakeGo : Nat → Nat → List UInt8 → Nat × Nat
  | _, _, [] => (0, 0)
  | i, n, c :: cs => if (i = 9 ∧ c.toNat > 1) ∨ i > 9 then (0, 0) else
      if c.toNat < 128 then (if c.toNat = 0 ∧ i > 0 then (0, 0) else (n + c.toNat % 128 * 2 ^ (7 * i), i + 1))
      else vtakeGo (i + 1) (n + c.toNat % 128 * 2 ^ (7 * i)) cs
def vtake (xs : List UInt8) : Nat × Nat := vtakeGo 0 0 xs
theorem and127 (c : UInt8) : IntKind.u8.wrap (BitVec.ofInt IntKind.u8.bits (c.toNat : Int) &&& BitVec.ofInt IntKind.u8.bits 127).toNat = ((c.toNat % 128 : Nat) : Int) := by
  have hc := c.toNat_lt
  rw [BitVec.toNat_and]
  have e1 : (BitVec.ofInt IntKind.u8.bits (c.toNat : Int)).toNat = c.toNat := by
    show (BitVec.ofInt 8 (c.toNat : Int)).toNat = _
    rw [BitVec.toNat_ofInt]
    omega
  have e2 : (BitVec.ofInt IntKind.u8.bits 127).toNat = 127 := by decide
  rw [e1, e2]
  have key : ∀ m : Fin 256, (m.val &&& 127) = m.val % 128 := by decide +kernel
  have := key ⟨c.toNat, hc⟩
  simp only at this
  rw [this, IntKind.wrap_u8]
  omega
theorem pow7 {i : Nat} (h : i ≤ 9) : 2 ^ (7 * i) ≤ 9223372036854775808 := by
  have : 2 ^ (7 * i) ≤ 2 ^ 63 := Nat.pow_le_pow_right (by decide) (by omega)
  exact this
theorem take_step {n i : Nat} {c : UInt8} (hn : n < 2 ^ (7 * i)) (hi : i ≤ 9) (hc : i = 9 → c.toNat ≤ 1) :
    n + c.toNat % 128 * 2 ^ (7 * i) < 18446744073709551616 ∧ (i < 9 → n + c.toNat % 128 * 2 ^ (7 * i) < 2 ^ (7 * (i + 1))) := by
  have hp := pow7 hi
  constructor
  · by_cases h : i = 9
    · subst h
      have := hc rfl
      have h1 : c.toNat % 128 ≤ 1 := by omega
      have : c.toNat % 128 * 2 ^ (7 * 9) ≤ 1 * 2 ^ (7 * 9) := Nat.mul_le_mul_right _ h1
      have e : (2 : Nat) ^ (7 * 9) = 9223372036854775808 := by decide
      omega
    · have h1 : c.toNat % 128 ≤ 127 := by omega
      have h2 : c.toNat % 128 * 2 ^ (7 * i) ≤ 127 * 2 ^ (7 * i) := Nat.mul_le_mul_right _ h1
      have h3 : 2 ^ (7 * i) ≤ 2 ^ 56 := Nat.pow_le_pow_right (by decide) (by omega)
      have e : (2 : Nat) ^ 56 = 72057594037927936 := by decide
      omega
  · intro h
    have h1 : c.toNat % 128 ≤ 127 := by omega
    have h2 : c.toNat % 128 * 2 ^ (7 * i) ≤ 127 * 2 ^ (7 * i) := Nat.mul_le_mul_right _ h1
    rw [show 7 * (i + 1) = 7 * i + 7 by omega, Nat.pow_add]
    omega
theorem take_or {n i : Nat} {c : UInt8} (hn : n < 2 ^ (7 * i)) (hi : i ≤ 9) (hc : i = 9 → c.toNat ≤ 1) :
    IntKind.u64.wrap (BitVec.ofInt IntKind.u64.bits (n : Int) ||| BitVec.ofInt IntKind.u64.bits (IntKind.u64.wrap ((IntKind.u64.wrap ((c.toNat % 128 : Nat) : Int)) * 2 ^ (min (IntKind.i64.wrap (7 * (i : Int))).toNat IntKind.u64.bits)))).toNat = ((n + c.toNat % 128 * 2 ^ (7 * i) : Nat) : Int) := by
  have hs := (take_step (c := c) hn hi hc).1
  have hp := pow7 hi
  rw [show IntKind.i64.wrap (7 * (i : Int)) = ((7 * i : Nat) : Int) by rw [wrap_i64_of (by omega) (by omega)]; simp, Int.toNat_natCast, show min (7 * i) IntKind.u64.bits = 7 * i by have : IntKind.u64.bits = 64 := rfl; omega]
  rw [IntKind.wrap_u64, IntKind.wrap_u64, IntKind.wrap_u64]
  rw [show ((c.toNat % 128 : Nat) : Int) % 18446744073709551616 = ((c.toNat % 128 : Nat) : Int) by omega]
  rw [show (((c.toNat % 128 : Nat) : Int) * 2 ^ (7 * i)) = ((c.toNat % 128 * 2 ^ (7 * i) : Nat) : Int) by simp]
  rw [show ((c.toNat % 128 * 2 ^ (7 * i) : Nat) : Int) % 18446744073709551616 = ((c.toNat % 128 * 2 ^ (7 * i) : Nat) : Int) by omega]
  rw [BitVec.toNat_or]
  have e : ∀ m : Nat, m < 18446744073709551616 → (BitVec.ofInt IntKind.u64.bits (m : Int)).toNat = m := fun m hm => by
    show (BitVec.ofInt 64 (m : Int)).toNat = _
    rw [BitVec.toNat_ofInt]
    omega
  rw [e n (by omega), e _ (by omega)]
  have := Nat.two_pow_add_eq_or_of_lt hn (c.toNat % 128)
  rw [Nat.or_comm, Nat.mul_comm, ← this, Nat.mul_comm]
  omega
theorem vary_Take_loop {R : Type} {L : Nat} {b : Sl} {σ : Heap} {K : AVal → Heap → Option R} {xs : List UInt8} (hb : b.Is eU8 σ xs) :
    ∀ (d i m n : Nat), i + d = xs.length → d < m → (i ≤ 9 → n < 2 ^ (7 * i)) → vary_Take_L3 L m (n : Int) b (i : Int) σ K = K (.tuple [.int .u64 ((vtakeGo i n (xs.drop i)).1 : Int), .int .i64 ((vtakeGo i n (xs.drop i)).2 : Int)]) σ
  | d, i, 0, _, _, h, _ => by omega
  | 0, i, m + 1, n, h, _, _ => by
    rw [vary_Take_L3_eq, hb.n, lt_false (by omega), cond_false, List.drop_eq_nil_of_le (by omega)]
    rfl
  | d + 1, i, m + 1, n, h, hm, hn => by
    have hi : i < xs.length := by omega
    have hs := hb.small
    obtain ⟨c, hc, f0⟩ := u8_cell hb (List.getElem?_eq_getElem hi)
    rw [vary_Take_L3_eq]
    simp only [hb.n, dec0, lt_true hi, Bool.and_self, cond_true, hc, Option.bind_some, Int.toNat_natCast, f0, int?, if_true, and127, wrap_i64_succ i (by omega)]
    rw [List.drop_eq_getElem_cons hi]
    by_cases h9 : i > 9
    · have ev : vtakeGo i n (xs[i] :: xs.drop (i + 1)) = (0, 0) := by rw [vtakeGo]; exact if_pos (.inr h9)
      rw [ev, show ((i : Int) == 9) = false by simp; omega, cond_false, show decide ((i : Int) > 9) = true by simp; omega, cond_true]
      rfl
    · by_cases h8 : i = 9 ∧ xs[i].toNat > 1
      · have ev : vtakeGo i n (xs[i] :: xs.drop (i + 1)) = (0, 0) := by rw [vtakeGo]; exact if_pos (.inl h8)
        rw [ev, show ((i : Int) == 9) = true by simp; omega, cond_true, show decide (((xs[i].toNat : Nat) : Int) > 1) = true by simp; omega, cond_true]
        rfl
      · have hor := take_or (c := xs[i]) (hn (by omega)) (by omega) (fun e => by omega)
        have hst := (take_step (c := xs[i]) (hn (by omega)) (by omega) (fun e => by omega)).2
        have hng : ¬ IntKind.i64.wrap (7 * (i : Int)) < 0 := by rw [wrap_i64_of (by omega) (by omega)]; omega
        have ih := vary_Take_loop (L := L) (K := K) hb d (i + 1) m (n + xs[i].toNat % 128 * 2 ^ (7 * i)) (by omega) (by omega) (fun h => hst (by omega))
        rw [show decide ((i : Int) > 9) = false by simp; omega]
        simp only [cond_false, if_neg hng, hor, ih]
        generalize hN : n + xs[i].toNat % 128 * 2 ^ (7 * i) = N
        have hcond : ¬ ((i = 9 ∧ xs[i].toNat > 1) ∨ i > 9) := fun h => h.elim h8 h9
        have ev : vtakeGo i n (xs[i] :: xs.drop (i + 1)) = (if xs[i].toNat < 128 then (if xs[i].toNat = 0 ∧ i > 0 then (0, 0) else (N, i + 1)) else vtakeGo (i + 1) N (xs.drop (i + 1))) := by
          rw [vtakeGo, if_neg hcond, hN]
        rw [ev]
        have tail : (bif decide (((xs[i].toNat : Nat) : Int) < 128) then (bif (((xs[i].toNat : Nat) : Int) == 0) then (bif decide ((i : Int) > 0) then K (.tuple [.int .u64 0, .int .i64 0]) σ else K (.tuple [.int .u64 (N : Int), .int .i64 ((i + 1 : Nat) : Int)]) σ) else K (.tuple [.int .u64 (N : Int), .int .i64 ((i + 1 : Nat) : Int)]) σ)
            else K (.tuple [.int .u64 ((vtakeGo (i + 1) N (xs.drop (i + 1))).1 : Int), .int .i64 ((vtakeGo (i + 1) N (xs.drop (i + 1))).2 : Int)]) σ) =
            K (.tuple [.int .u64 (((if xs[i].toNat < 128 then (if xs[i].toNat = 0 ∧ i > 0 then (0, 0) else (N, i + 1)) else vtakeGo (i + 1) N (xs.drop (i + 1))).1 : Nat) : Int), .int .i64 (((if xs[i].toNat < 128 then (if xs[i].toNat = 0 ∧ i > 0 then (0, 0) else (N, i + 1)) else vtakeGo (i + 1) N (xs.drop (i + 1))).2 : Nat) : Int)]) σ := by
          by_cases a1 : xs[i].toNat < 128
          · rw [show decide (((xs[i].toNat : Nat) : Int) < 128) = true by simp; omega, cond_true, if_pos a1]
            by_cases a2 : xs[i].toNat = 0
            · rw [show (((xs[i].toNat : Nat) : Int) == 0) = true by rw [a2]; rfl, cond_true]
              by_cases a3 : i > 0
              · rw [show decide ((i : Int) > 0) = true by simp; omega, cond_true, if_pos ⟨a2, a3⟩]
                rfl
              · rw [show decide ((i : Int) > 0) = false by simp; omega, cond_false, if_neg (fun h => a3 h.2)]
            · rw [show (((xs[i].toNat : Nat) : Int) == 0) = false by rw [beq_eq_false_iff_ne]; omega, cond_false, if_neg (fun h => a2 h.1)]
          · rw [show decide (((xs[i].toNat : Nat) : Int) < 128) = false by simp; omega, cond_false, if_neg a1]
        by_cases e9 : i = 9
        · rw [show ((i : Int) == 9) = true by simp; omega, cond_true, show decide (((xs[i].toNat : Nat) : Int) > 1) = false by rw [decide_eq_false_iff_not]; omega, cond_false]
          exact tail
        · rw [show ((i : Int) == 9) = false by simp; omega, cond_false]
          exact tail
noncomputable def w_vary_Take (b : Sl) (σ : Heap) : Option ((Int × Int) × Heap) := wOf (fun xs => b.Is eU8 σ xs) fun xs => (((vtake xs).1, (vtake xs).2), σ)
theorem w_vary_Take_eq {b : Sl} {σ : Heap} {xs : List UInt8} (h : b.Is eU8 σ xs) : w_vary_Take b σ = some ((((vtake xs).1 : Int), ((vtake xs).2 : Int)), σ) :=
  wOf_eq h fun y hy => by rw [hy.uniq (by decide) h]
theorem ok_vary_Take : Ok_vary_Take w_vary_Take := fun b σ v σ' h => by
  obtain ⟨xs, hb, e⟩ := wOf_some h
  injection e with e1 e2
  subst e1; subst e2
  exact call_ok ok known0_ok (L := xs.length + 1) (n := 2) ((vary_Take_eq (xs.length + 1) b σ _).trans (vary_Take_loop hb xs.length 0 (xs.length + 1) 0 (by simp) (by omega) (fun _ => by simp)))
end Go.Abs.TA
