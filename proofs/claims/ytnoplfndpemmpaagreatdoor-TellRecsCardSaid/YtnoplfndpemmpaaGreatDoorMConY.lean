/-
Contracts of vary: numbers' bytes behind others.
Contracts of vary: taking numbers.
Contracts of vary's reader.
Contracts: slices.Repeat of one cell, blank lines.
A closed run: what it stands on (Run5).
Contracts: flags, crc.Sum.
-/
import Derived.Test.YtnoplfndpemmpaaGreatDoorAbsO
import Derived.Test.YtnoplfndpemmpaaGreatDoorEqE0
import Derived.Test.YtnoplfndpemmpaaGreatDoorEqE1
import Derived.Test.YtnoplfndpemmpaaGreatDoorEqE2
import Derived.Test.YtnoplfndpemmpaaGreatDoorEqE3
import Derived.Test.YtnoplfndpemmpaaGreatDoorEqE4
import Derived.Test.YtnoplfndpemmpaaGreatDoorEqE5
namespace Go.Abs.TE
open Go Go.Abs Go.Proofs

def eU64 : El Int := ⟨1, fun n => [.int .u64 n], fun _ => rfl, fun a b h => by simpa using h⟩
instance : El.Flat eU64 := ⟨fun _ => rfl⟩
theorem u64_cell {s : Sl} {σ : Heap} {l : List Int} (h : s.Is eU64 σ l) {i : Nat} {x : Int} (hi : l[i]? = some x) : ∃ b, s.b = some b ∧ σ.cell? b (s.o + i * 1) = some (.int .u64 x) := by
  obtain ⟨b, hb, hc⟩ := h.cell hi
  exact ⟨b, hb, hc 0 (by decide)⟩
theorem u8_wrap (n : Nat) : IntKind.u8.wrap (n : Int) = ((UInt8.ofNat n).toNat : Int) := by
  rw [IntKind.wrap_u8]
  simp
theorem u8_or128 (n : Nat) : IntKind.u8.wrap (BitVec.ofInt IntKind.u8.bits (IntKind.u8.wrap (n : Int)) ||| BitVec.ofInt IntKind.u8.bits 128).toNat = ((UInt8.ofNat (n % 128 + 128)).toNat : Int) := by
  rw [BitVec.toNat_or]
  have e1 : (BitVec.ofInt IntKind.u8.bits (IntKind.u8.wrap (n : Int))).toNat = n % 256 := by
    rw [IntKind.wrap_u8]
    show (BitVec.ofInt 8 ((n : Int) % 256)).toNat = _
    rw [BitVec.toNat_ofInt]
    omega
  have e2 : (BitVec.ofInt IntKind.u8.bits 128).toNat = 128 := by decide
  rw [e1, e2]
  have key : ∀ m : Fin 256, (m.val ||| 128) = m.val % 128 + 128 := by decide +kernel
  have := key ⟨n % 256, Nat.mod_lt _ (by omega)⟩
  simp only at this
  rw [this, u8_wrap]
  congr 2
  congr 1
  omega
theorem fdiv128 (n : Nat) : Int.fdiv (n : Int) (2 ^ 7) = ((n / 128 : Nat) : Int) := by
  rw [Int.fdiv_eq_ediv_of_nonneg _ (by decide)]
  simp

theorem vary_Put_L4_ok {R : Type} {L : Nat} {l : Sl} {x : Int} {fu : Nat} {σ0 : Heap} {s : Sl} {K : AVal → Heap → Option R} :
    ∀ (k n m : Nat) (b : Sl) (σ : Heap) (ys : List UInt8), n < 128 ^ k → k < m → Grown eU8 s σ0 b σ ys → ys.length + k ≤ 2000000 →
      ∃ b1 σ1, Grown eU8 s σ0 b1 σ1 (ys ++ vput n) ∧ (∀ c, b1.b = some c → σ0.length ≤ c) ∧
        vary_Put_L4 L fu m b (n : Int) l x σ K = vary_Put_L2 L fu b1 l (IntKind.i64.wrap (x + 1)) σ1 K
  | k, n, 0, _, _, _, _, h, _, _ => by omega
  | k, n, m + 1, b, σ, ys, hn, hm, hg, hl => by
    rw [vary_Put_L4_eq]
    by_cases h : n < 128
    · rw [show decide ((n : Int) ≥ 128) = false by simp; omega, cond_false, u8_wrap]
      obtain ⟨q, σ', h1, h2, h3⟩ := hg.append (zs := [UInt8.ofNat n]) (bytes := 1) (vs := [.int .u8 ((UInt8.ofNat n).toNat : Int)]) (k := 1) rfl rfl (by simp) (by simp; omega) (by simp; omega)
      have h1' : σ.append b.b b.o b.n 1 1 [.int .u8 ((UInt8.ofNat n).toNat : Int)] 1 = some (q, σ') := h1
      rw [h1', Option.bind_some, vput_lt h]
      exact ⟨_, _, h2, h3, rfl⟩
    · cases k with
      | zero => simp at hn; omega
      | succ k =>
        rw [show decide ((n : Int) ≥ 128) = true by simp; omega, cond_true, u8_or128, fdiv128]
        obtain ⟨q, σ', h1, h2, h3⟩ := hg.append (zs := [UInt8.ofNat (n % 128 + 128)]) (bytes := 1) (vs := [.int .u8 ((UInt8.ofNat (n % 128 + 128)).toNat : Int)]) (k := 1) rfl rfl (by simp) (by simp; omega) (by simp; omega)
        have h1' : σ.append b.b b.o b.n 1 1 [.int .u8 ((UInt8.ofNat (n % 128 + 128)).toNat : Int)] 1 = some (q, σ') := h1
        obtain ⟨b1, σ1, k1, k2, k3⟩ := vary_Put_L4_ok (L := L) (l := l) (x := x) (fu := fu) (K := K) k (n / 128) m ⟨q.1, q.2.1, q.2.2⟩ σ' _ (by rw [Nat.div_lt_iff_lt_mul (by omega), ← Nat.pow_succ]; exact hn) (by omega) h2 (by simp; omega)
        refine ⟨b1, σ1, ?_, k2, ?_⟩
        · rw [vput_ge (by omega)]
          simpa using k1
        · rw [h1', Option.bind_some]
          exact k3
theorem vary_Put_loop {R : Type} {L : Nat} {l s : Sl} {σ0 : Heap} {K : AVal → Heap → Option R} {ns : List Nat} (hL : 10 < L) (hl : l.Is eU64 σ0 (ns.map Int.ofNat)) (hne : ∀ b, s.b = some b → l.b ≠ some b) (hns : ∀ n ∈ ns, n < 18446744073709551616) :
    ∀ (d i m : Nat) (b : Sl) (σ : Heap) (ys : List UInt8), i + d = ns.length → d < m → Grown eU8 s σ0 b σ ys → ys.length + 10 * d ≤ 1000000 → (0 < i → ∀ c, b.b = some c → σ0.length ≤ c) →
      ∃ b1 σ1, Grown eU8 s σ0 b1 σ1 (ys ++ vputs (ns.drop i)) ∧ (0 < ns.length → ∀ c, b1.b = some c → σ0.length ≤ c) ∧ vary_Put_L2 L m b l (i : Int) σ K = K (.slice b1.b b1.o b1.n 1) σ1
  | d, i, 0, _, _, _, _, h, _, _, _ => by omega
  | 0, i, m + 1, b, σ, ys, h, _, hg, _, hi => by
    refine ⟨b, σ, ?_, fun h0 => hi (by omega), ?_⟩
    · rw [List.drop_eq_nil_of_le (by omega), vputs, List.append_nil]; exact hg
    · rw [vary_Put_L2_eq, hl.n, List.length_map, lt_false (by omega)]
      rfl
  | d + 1, i, m + 1, b, σ, ys, h, hm, hg, hb, _ => by
    have hi : i < ns.length := by omega
    have hl' := hl.kept hg.kept hne
    have hs := hl.small
    rw [List.length_map] at hs
    obtain ⟨c, hc, f0⟩ := u64_cell hl' (i := i) (x := (ns[i] : Int)) (by rw [List.getElem?_map, List.getElem?_eq_getElem hi]; rfl)
    have hn := hns ns[i] (List.getElem_mem hi)
    obtain ⟨b1, σ1, k1, k2, k3⟩ := vary_Put_L4_ok (L := L) (l := l) (x := (i : Int)) (fu := m) (K := K) 10 ns[i] L b σ ys (Nat.lt_of_lt_of_le hn (by decide)) hL hg (by omega)
    have hvl := vput_len10 hn
    obtain ⟨b2, σ2, j1, j2, j3⟩ := vary_Put_loop (K := K) hL hl hne hns d (i + 1) m b1 σ1 (ys ++ vput ns[i]) (by omega) (by omega) k1 (by simp; omega) (fun _ => k2)
    refine ⟨b2, σ2, ?_, j2, ?_⟩
    · rw [List.drop_eq_getElem_cons hi, vputs]
      simpa using j1
    · rw [vary_Put_L2_eq]
      simp only [hl.n, List.length_map, dec0, lt_true hi, Bool.and_self, cond_true, hc, Option.bind_some, Int.toNat_natCast, f0, int?, if_true]
      rw [k3, wrap_i64_succ i (by omega)]
      exact j3

structure PutPre (s l : Sl) (σ : Heap) (ys : List UInt8) (ns : List Nat) : Prop where
  own : s.Own eU8 σ ys
  nums : l.Is eU64 σ (ns.map Int.ofNat)
  ne : ns ≠ []
  lt : ∀ n ∈ ns, n < 18446744073709551616
  small : ys.length + 10 * ns.length ≤ 1000000
  apart : ∀ b, s.b = some b → l.b ≠ some b
noncomputable def w_vary_Put (s l : Sl) (σ : Heap) : Option (Sl × Heap) := wOf (fun p : List UInt8 × List Nat => PutPre s l σ p.1 p.2) fun p => grow eU8 σ s (p.1 ++ vputs p.2)
theorem w_vary_Put_eq {s l : Sl} {σ : Heap} {ys : List UInt8} {ns : List Nat} (h : PutPre s l σ ys ns) : w_vary_Put s l σ = some (grow eU8 σ s (ys ++ vputs ns)) :=
  wOf_eq (x := (ys, ns)) h fun p hp => by
    obtain ⟨y, n⟩ := p
    rw [show y = ys from hp.own.uniq (by decide) h.own]
    have : n = ns := by
      have e := hp.nums.uniq (by decide) h.nums
      exact List.map_inj_right (fun a b h => Int.ofNat.inj h) |>.1 e
    rw [this]
theorem ok_vary_Put : Ok_vary_Put w_vary_Put := fun s l σ v σ' h => by
  obtain ⟨⟨ys, ns⟩, hp, e⟩ := wOf_some h
  obtain ⟨rfl, rfl⟩ : v = (grow eU8 σ s (ys ++ vputs ns)).1 ∧ σ' = (grow eU8 σ s (ys ++ vputs ns)).2 := by rw [e]; exact ⟨rfl, rfl⟩
  have hsm := hp.small
  simp only at hsm
  obtain ⟨b1, σ1, k1, k2, k3⟩ := vary_Put_loop (R := AVal × Heap) (L := ns.length + 11) (K := fun v σ => some (v, σ)) (by omega) hp.nums hp.apart hp.lt ns.length 0 (ns.length + 11) s σ ys (by simp) (by omega) (Grown.start hp.own) (by omega) (fun h => by omega)
  rw [List.drop_zero] at k1
  exact call_grow (call_ok ok known0_ok (L := ns.length + 11) (n := 2) ((vary_Put_eq (ns.length + 11) s l σ _).trans k3)) hp.own k1.own (by
    intro e
    exact vputs_ne hp.ne (List.append_eq_nil_iff.1 e).2) k1.kept (k2 (List.length_pos_iff.2 hp.ne))
end Go.Abs.TE
namespace Go.Abs.TE
open Go Go.Abs Go.Proofs

theorem and127 (c : UInt8) : IntKind.u8.wrap (BitVec.ofInt IntKind.u8.bits (c.toNat : Int) &&& BitVec.ofInt IntKind.u8.bits 127).toNat = ((c.toNat % 128 : Nat) : Int) := by
  have hc := c.toNat_lt
  rw [BitVec.toNat_and]
  have e1 : (BitVec.ofInt IntKind.u8.bits (c.toNat : Int)).toNat = c.toNat := by
    show (BitVec.ofInt 8 (c.toNat : Int)).toNat = _
    rw [BitVec.toNat_ofInt]
    omega
  have e2 : (BitVec.ofInt IntKind.u8.bits 127).toNat = 127 := by decide
  rw [e1, e2]
  have key : ∀ m : Fin 256, (m.val &&& 127) = m.val % 128 := by decide +kernel
  have := key ⟨c.toNat, hc⟩
  simp only at this
  rw [this, IntKind.wrap_u8]
  omega
theorem pow7 {i : Nat} (h : i ≤ 9) : 2 ^ (7 * i) ≤ 9223372036854775808 := by
  have : 2 ^ (7 * i) ≤ 2 ^ 63 := Nat.pow_le_pow_right (by decide) (by omega)
  exact this
theorem take_step {n i : Nat} {c : UInt8} (hn : n < 2 ^ (7 * i)) (hi : i ≤ 9) (hc : i = 9 → c.toNat ≤ 1) :
    n + c.toNat % 128 * 2 ^ (7 * i) < 18446744073709551616 ∧ (i < 9 → n + c.toNat % 128 * 2 ^ (7 * i) < 2 ^ (7 * (i + 1))) := by
  have hp := pow7 hi
  constructor
  · by_cases h : i = 9
    · subst h
      have := hc rfl
      have h1 : c.toNat % 128 ≤ 1 := by omega
      have : c.toNat % 128 * 2 ^ (7 * 9) ≤ 1 * 2 ^ (7 * 9) := Nat.mul_le_mul_right _ h1
      have e : (2 : Nat) ^ (7 * 9) = 9223372036854775808 := by decide
      omega
    · have h1 : c.toNat % 128 ≤ 127 := by omega
      have h2 : c.toNat % 128 * 2 ^ (7 * i) ≤ 127 * 2 ^ (7 * i) := Nat.mul_le_mul_right _ h1
      have h3 : 2 ^ (7 * i) ≤ 2 ^ 56 := Nat.pow_le_pow_right (by decide) (by omega)
      have e : (2 : Nat) ^ 56 = 72057594037927936 := by decide
      omega
  · intro h
    have h1 : c.toNat % 128 ≤ 127 := by omega
    have h2 : c.toNat % 128 * 2 ^ (7 * i) ≤ 127 * 2 ^ (7 * i) := Nat.mul_le_mul_right _ h1
    rw [show 7 * (i + 1) = 7 * i + 7 by omega, Nat.pow_add]
    omega
theorem take_or {n i : Nat} {c : UInt8} (hn : n < 2 ^ (7 * i)) (hi : i ≤ 9) (hc : i = 9 → c.toNat ≤ 1) :
    IntKind.u64.wrap (BitVec.ofInt IntKind.u64.bits (n : Int) ||| BitVec.ofInt IntKind.u64.bits (IntKind.u64.wrap ((IntKind.u64.wrap ((c.toNat % 128 : Nat) : Int)) * 2 ^ (min (IntKind.i64.wrap (7 * (i : Int))).toNat IntKind.u64.bits)))).toNat = ((n + c.toNat % 128 * 2 ^ (7 * i) : Nat) : Int) := by
  have hs := (take_step (c := c) hn hi hc).1
  have hp := pow7 hi
  rw [show IntKind.i64.wrap (7 * (i : Int)) = ((7 * i : Nat) : Int) by rw [wrap_i64_of (by omega) (by omega)]; simp, Int.toNat_natCast, show min (7 * i) IntKind.u64.bits = 7 * i by have : IntKind.u64.bits = 64 := rfl; omega]
  rw [IntKind.wrap_u64, IntKind.wrap_u64, IntKind.wrap_u64]
  rw [show ((c.toNat % 128 : Nat) : Int) % 18446744073709551616 = ((c.toNat % 128 : Nat) : Int) by omega]
  rw [show (((c.toNat % 128 : Nat) : Int) * 2 ^ (7 * i)) = ((c.toNat % 128 * 2 ^ (7 * i) : Nat) : Int) by simp]
  rw [show ((c.toNat % 128 * 2 ^ (7 * i) : Nat) : Int) % 18446744073709551616 = ((c.toNat % 128 * 2 ^ (7 * i) : Nat) : Int) by omega]
  rw [BitVec.toNat_or]
  have e : ∀ m : Nat, m < 18446744073709551616 → (BitVec.ofInt IntKind.u64.bits (m : Int)).toNat = m := fun m hm => by
    show (BitVec.ofInt 64 (m : Int)).toNat = _
    rw [BitVec.toNat_ofInt]
    omega
  rw [e n (by omega), e _ (by omega)]
  have := Nat.two_pow_add_eq_or_of_lt hn (c.toNat % 128)
  rw [Nat.or_comm, Nat.mul_comm, ← this, Nat.mul_comm]
  omega
theorem vary_Take_loop {R : Type} {L : Nat} {b : Sl} {σ : Heap} {K : AVal → Heap → Option R} {xs : List UInt8} (hb : b.Is eU8 σ xs) :
    ∀ (d i m n : Nat), i + d = xs.length → d < m → (i ≤ 9 → n < 2 ^ (7 * i)) → vary_Take_L3 L m (n : Int) b (i : Int) σ K = K (.tuple [.int .u64 ((vtakeGo i n (xs.drop i)).1 : Int), .int .i64 ((vtakeGo i n (xs.drop i)).2 : Int)]) σ
  | d, i, 0, _, _, h, _ => by omega
  | 0, i, m + 1, n, h, _, _ => by
    rw [vary_Take_L3_eq, hb.n, lt_false (by omega), cond_false, List.drop_eq_nil_of_le (by omega)]
    rfl
  | d + 1, i, m + 1, n, h, hm, hn => by
    have hi : i < xs.length := by omega
    have hs := hb.small
    obtain ⟨c, hc, f0⟩ := u8_cell hb (List.getElem?_eq_getElem hi)
    rw [vary_Take_L3_eq]
    simp only [hb.n, dec0, lt_true hi, Bool.and_self, cond_true, hc, Option.bind_some, Int.toNat_natCast, f0, int?, if_true, and127, wrap_i64_succ i (by omega)]
    rw [List.drop_eq_getElem_cons hi]
    by_cases h9 : i > 9
    · have ev : vtakeGo i n (xs[i] :: xs.drop (i + 1)) = (0, 0) := by rw [vtakeGo]; exact if_pos (.inr h9)
      rw [ev, show ((i : Int) == 9) = false by simp; omega, cond_false, show decide ((i : Int) > 9) = true by simp; omega, cond_true]
      rfl
    · by_cases h8 : i = 9 ∧ xs[i].toNat > 1
      · have ev : vtakeGo i n (xs[i] :: xs.drop (i + 1)) = (0, 0) := by rw [vtakeGo]; exact if_pos (.inl h8)
        rw [ev, show ((i : Int) == 9) = true by simp; omega, cond_true, show decide (((xs[i].toNat : Nat) : Int) > 1) = true by simp; omega, cond_true]
        rfl
      · have hor := take_or (c := xs[i]) (hn (by omega)) (by omega) (fun e => by omega)
        have hst := (take_step (c := xs[i]) (hn (by omega)) (by omega) (fun e => by omega)).2
        have hng : ¬ IntKind.i64.wrap (7 * (i : Int)) < 0 := by rw [wrap_i64_of (by omega) (by omega)]; omega
        have ih := vary_Take_loop (L := L) (K := K) hb d (i + 1) m (n + xs[i].toNat % 128 * 2 ^ (7 * i)) (by omega) (by omega) (fun h => hst (by omega))
        rw [show decide ((i : Int) > 9) = false by simp; omega]
        simp only [cond_false, if_neg hng, hor, ih]
        generalize hN : n + xs[i].toNat % 128 * 2 ^ (7 * i) = N
        have hcond : ¬ ((i = 9 ∧ xs[i].toNat > 1) ∨ i > 9) := fun h => h.elim h8 h9
        have ev : vtakeGo i n (xs[i] :: xs.drop (i + 1)) = (if xs[i].toNat < 128 then (if xs[i].toNat = 0 ∧ i > 0 then (0, 0) else (N, i + 1)) else vtakeGo (i + 1) N (xs.drop (i + 1))) := by
          rw [vtakeGo, if_neg hcond, hN]
        rw [ev]
        have tail : (bif decide (((xs[i].toNat : Nat) : Int) < 128) then (bif (((xs[i].toNat : Nat) : Int) == 0) then (bif decide ((i : Int) > 0) then K (.tuple [.int .u64 0, .int .i64 0]) σ else K (.tuple [.int .u64 (N : Int), .int .i64 ((i + 1 : Nat) : Int)]) σ) else K (.tuple [.int .u64 (N : Int), .int .i64 ((i + 1 : Nat) : Int)]) σ)
            else K (.tuple [.int .u64 ((vtakeGo (i + 1) N (xs.drop (i + 1))).1 : Int), .int .i64 ((vtakeGo (i + 1) N (xs.drop (i + 1))).2 : Int)]) σ) =
            K (.tuple [.int .u64 (((if xs[i].toNat < 128 then (if xs[i].toNat = 0 ∧ i > 0 then (0, 0) else (N, i + 1)) else vtakeGo (i + 1) N (xs.drop (i + 1))).1 : Nat) : Int), .int .i64 (((if xs[i].toNat < 128 then (if xs[i].toNat = 0 ∧ i > 0 then (0, 0) else (N, i + 1)) else vtakeGo (i + 1) N (xs.drop (i + 1))).2 : Nat) : Int)]) σ := by
          by_cases a1 : xs[i].toNat < 128
          · rw [show decide (((xs[i].toNat : Nat) : Int) < 128) = true by simp; omega, cond_true, if_pos a1]
            by_cases a2 : xs[i].toNat = 0
            · rw [show (((xs[i].toNat : Nat) : Int) == 0) = true by rw [a2]; rfl, cond_true]
              by_cases a3 : i > 0
              · rw [show decide ((i : Int) > 0) = true by simp; omega, cond_true, if_pos ⟨a2, a3⟩]
                rfl
              · rw [show decide ((i : Int) > 0) = false by simp; omega, cond_false, if_neg (fun h => a3 h.2)]
            · rw [show (((xs[i].toNat : Nat) : Int) == 0) = false by rw [beq_eq_false_iff_ne]; omega, cond_false, if_neg (fun h => a2 h.1)]
          · rw [show decide (((xs[i].toNat : Nat) : Int) < 128) = false by simp; omega, cond_false, if_neg a1]
        by_cases e9 : i = 9
        · rw [show ((i : Int) == 9) = true by simp; omega, cond_true, show decide (((xs[i].toNat : Nat) : Int) > 1) = false by rw [decide_eq_false_iff_not]; omega, cond_false]
          exact tail
        · rw [show ((i : Int) == 9) = false by simp; omega, cond_false]
          exact tail
noncomputable def w_vary_Take (b : Sl) (σ : Heap) : Option ((Int × Int) × Heap) := wOf (fun xs => b.Is eU8 σ xs) fun xs => (((vtake xs).1, (vtake xs).2), σ)
theorem w_vary_Take_eq {b : Sl} {σ : Heap} {xs : List UInt8} (h : b.Is eU8 σ xs) : w_vary_Take b σ = some ((((vtake xs).1 : Int), ((vtake xs).2 : Int)), σ) :=
  wOf_eq h fun y hy => by rw [hy.uniq (by decide) h]
theorem ok_vary_Take : Ok_vary_Take w_vary_Take := fun b σ v σ' h => by
  obtain ⟨xs, hb, e⟩ := wOf_some h
  injection e with e1 e2
  subst e1; subst e2
  exact call_ok ok known0_ok (L := xs.length + 1) (n := 2) ((vary_Take_eq (xs.length + 1) b σ _).trans (vary_Take_loop hb xs.length 0 (xs.length + 1) 0 (by simp) (by omega) (fun _ => by simp)))
end Go.Abs.TE
namespace Go.Abs.TE
open Go Go.Abs Go.Proofs

/-- A reader lies there. -/
def Rdr (σ : Heap) (p : Nat) (s : Sl) (bad : Bool) : Prop := σ[p]? = some (.row [.slice s.b s.o s.n 1, .bool bad] .rw)
def setR (σ : Heap) (p : Nat) (s : Sl) (bad : Bool) : Heap := σ.set p (.row [.slice s.b s.o s.n 1, .bool bad] .rw)
section
variable {σ : Heap} {p : Nat} {s : Sl} {bad : Bool}
theorem Rdr.lt (h : Rdr σ p s bad) : p < σ.length := (List.getElem?_eq_some_iff.1 h).1
theorem Rdr.row (h : Rdr σ p s bad) : σ.row? p = some [.slice s.b s.o s.n 1, .bool bad] := row?_of h (by simp)
theorem Rdr.cell0 (h : Rdr σ p s bad) : slice? (σ.cell? p 0) 1 = some (s.b, s.o, s.n) := by
  unfold Heap.cell?
  rw [h.row]
  rfl
theorem Rdr.cell1 (h : Rdr σ p s bad) : bool? (σ.cell? p (0 + 1)) = some bad := by
  unfold Heap.cell?
  rw [h.row]
  rfl
theorem Rdr.set (h : Rdr σ p s bad) (s' : Sl) (bad' : Bool) : Rdr (setR σ p s' bad') p s' bad' := by
  unfold Rdr setR
  exact List.getElem?_set_self h.lt
theorem Rdr.set_bad (h : Rdr σ p s bad) (b : Bool) : σ.store p (0 + 1) [.bool b] = some (setR σ p s b) := by
  unfold Heap.store
  unfold Rdr at h
  rw [h]
  rfl
theorem Rdr.set_sl (h : Rdr σ p s bad) (t : Sl) : σ.store p 0 [.slice t.b t.o t.n 1] = some (setR σ p t bad) := by
  unfold Heap.store
  unfold Rdr at h
  rw [h]
  rfl
theorem Rdr.uniq {s' : Sl} {bad' : Bool} (h : Rdr σ p s bad) (h' : Rdr σ p s' bad') : s = s' ∧ bad = bad' := by
  unfold Rdr at h h'
  rw [h] at h'
  simp at h'
  obtain ⟨⟨h1, h2, h3⟩, h4⟩ := h'
  refine ⟨?_, h4⟩
  cases s; cases s'
  simp at h1 h2 h3
  rw [h1, h2, h3]
theorem setR_len : (setR σ p s bad).length = σ.length := by simp [setR]
theorem setR_ne {b : Nat} (h : b ≠ p) : (setR σ p s bad)[b]? = σ[b]? := List.getElem?_set_ne (Ne.symm h)
end
/-- A limit: 0 or less: any number. -/
def limN (limit : Int) : Nat := if 0 < limit then limit.toNat else 9223372036854775808
/-- Is there a number below a limit? -/
def numOK (bad : Bool) (xs : List UInt8) (limit : Int) : Bool := !bad && decide ((vtake xs).2 ≠ 0 ∧ (vtake xs).1 < limN limit)
structure NumPre (r : Pt) (limit : Int) (σ : Heap) (p : Nat) (s : Sl) (bad : Bool) (xs : List UInt8) : Prop where
  at_ : r = some (p, 0)
  rdr : Rdr σ p s bad
  is : s.Is eU8 σ xs
  l1 : limit ≤ 9223372036854775807
def numRes (limit : Int) (σ : Heap) (p : Nat) (s : Sl) (bad : Bool) (xs : List UInt8) : Int × Heap :=
  bif numOK bad xs limit then (((vtake xs).1 : Int), setR σ p ⟨s.b, s.o + (vtake xs).2 * 1, s.n - (vtake xs).2⟩ bad) else (0, setR σ p s true)
noncomputable def w_vary_Reader_Num (r : Pt) (limit : Int) (σ : Heap) : Option (Int × Heap) :=
  wOf (fun t : Nat × Sl × Bool × List UInt8 => NumPre r limit σ t.1 t.2.1 t.2.2.1 t.2.2.2) fun t => numRes limit σ t.1 t.2.1 t.2.2.1 t.2.2.2
theorem w_vary_Reader_Num_eq {r : Pt} {limit : Int} {σ : Heap} {p : Nat} {s : Sl} {bad : Bool} {xs : List UInt8} (h : NumPre r limit σ p s bad xs) : w_vary_Reader_Num r limit σ = some (numRes limit σ p s bad xs) :=
  wOf_eq (x := (p, s, bad, xs)) h fun y hy => by
    obtain ⟨p', s', bad', xs'⟩ := y
    have e1 := hy.at_
    rw [h.at_] at e1
    simp at e1
    subst e1
    obtain ⟨e2, e3⟩ := h.rdr.uniq hy.rdr
    simp only at e2 e3
    subst e2; subst e3
    rw [show xs' = xs from hy.is.uniq (by decide) h.is]
noncomputable def c_vary_Reader_Num : C_vary_Reader_Num := ⟨w_vary_Take⟩
theorem ok_vary_Reader_Num : Ok_vary_Reader_Num w_vary_Reader_Num := fun r limit σ v σ' h => by
  obtain ⟨⟨p, s, bad, xs⟩, hp, e⟩ := wOf_some h
  obtain ⟨rfl, hr, hs, l1⟩ := hp
  simp only at hr hs
  obtain ⟨rfl, rfl⟩ : v = (numRes limit σ p s bad xs).1 ∧ σ' = (numRes limit σ p s bad xs).2 := by rw [e]; exact ⟨rfl, rfl⟩
  refine call_ok ok (K_vary_Reader_Num c_vary_Reader_Num ok_vary_Take) (L := 0) (n := 2) ((vary_Reader_Num_eq c_vary_Reader_Num 0 (some (p, 0)) limit σ _).trans ?_)
  have p1 : c_vary_Reader_Num.vary_Take = w_vary_Take := rfl
  have hk := vtake_le xs
  have hT : w_vary_Take ⟨s.b, s.o, s.n⟩ σ = some ((((vtake xs).1 : Int), ((vtake xs).2 : Int)), σ) := w_vary_Take_eq hs
  simp only [Option.bind_some, hr.cell0, p1, hT, hr.cell1, hr.set_bad]
  show _ = some (AVal.int .i64 (numRes limit σ p s bad xs).1, (numRes limit σ p s bad xs).2)
  have bad_res : numOK bad xs limit = false → numRes limit σ p s bad xs = (0, setR σ p s true) := fun h => by unfold numRes; rw [h]; rfl
  have hlim : (0 < limit ∧ (limN limit : Int) = limit) ∨ (¬ 0 < limit ∧ limN limit = 9223372036854775808) := by
    unfold limN
    split
    · left; omega
    · right; exact ⟨by assumption, rfl⟩
  cases bad with
  | true =>
    rw [bad_res rfl]
    rfl
  | false =>
    simp only [cond_false]
    by_cases h0 : (vtake xs).2 = 0
    · rw [show (((vtake xs).2 : Int) == 0) = true by rw [h0]; rfl, cond_true, bad_res (by simp [numOK, h0])]
    · rw [show (((vtake xs).2 : Int) == 0) = false by rw [beq_eq_false_iff_ne]; omega, cond_false]
      by_cases h1 : (vtake xs).1 < limN limit
      · have good : numOK false xs limit = true := by simp [numOK, h0, h1]
        have hst := hr.set_sl ⟨s.b, s.o + (vtake xs).2 * 1, xs.length - (vtake xs).2⟩
        simp only at hst
        rw [show decide (((vtake xs).1 : Int) > 9223372036854775807) = false by rw [decide_eq_false_iff_not]; omega, cond_false]
        rcases hlim with ⟨c1, c2⟩ | ⟨c1, c2⟩
        · rw [show decide (limit > 0) = true by simpa using c1, cond_true,
            show decide (((vtake xs).1 : Int) ≥ IntKind.u64.wrap limit) = false by rw [decide_eq_false_iff_not, IntKind.wrap_u64]; omega, cond_false]
          simp only [dec0, hs.n, show decide (((vtake xs).2 : Int) ≤ (xs.length : Int)) = true by simpa using hk, Int.le_refl, decide_true, Bool.and_self, cond_true, Int.toNat_natCast]
          rw [hst, Option.bind_some, wrap_i64_of (by omega) (by omega)]
          unfold numRes
          rw [good, hs.n]
          rfl
        · rw [show decide (limit > 0) = false by simpa using c1, cond_false]
          simp only [dec0, hs.n, show decide (((vtake xs).2 : Int) ≤ (xs.length : Int)) = true by simpa using hk, Int.le_refl, decide_true, Bool.and_self, cond_true, Int.toNat_natCast]
          rw [hst, Option.bind_some, wrap_i64_of (by omega) (by omega)]
          unfold numRes
          rw [good, hs.n]
          rfl
      · rw [bad_res (by simp [numOK, h1])]
        by_cases h2 : ((vtake xs).1 : Int) > 9223372036854775807
        · rw [decide_eq_true h2, cond_true]
        · rcases hlim with ⟨c1, c2⟩ | ⟨c1, c2⟩
          · rw [decide_eq_false h2, cond_false, show decide (limit > 0) = true by simpa using c1, cond_true,
              show decide (((vtake xs).1 : Int) ≥ IntKind.u64.wrap limit) = true by rw [decide_eq_true_iff, IntKind.wrap_u64]; omega, cond_true]
          · omega

noncomputable def w_vary_Reader_Good (r : Pt) (σ : Heap) : Option (Bool × Heap) := wOf (fun t : Nat × Bool => r = some (t.1, 0) ∧ bool? (σ.cell? t.1 (0 + 1)) = some t.2) fun t => (!t.2, σ)
theorem w_vary_Reader_Good_eq {σ : Heap} {p : Nat} {bad : Bool} (h : bool? (σ.cell? p (0 + 1)) = some bad) : w_vary_Reader_Good (some (p, 0)) σ = some (!bad, σ) :=
  wOf_eq (x := (p, bad)) ⟨rfl, h⟩ fun y hy => by
    obtain ⟨p', bad'⟩ := y
    obtain ⟨e1, e2⟩ := hy
    simp at e1
    subst e1
    simp only at e2
    rw [h] at e2
    injection e2 with e2
    rw [e2]
theorem ok_vary_Reader_Good : Ok_vary_Reader_Good w_vary_Reader_Good := fun r σ v σ' h => by
  obtain ⟨⟨p, bad⟩, ⟨rfl, hr⟩, e⟩ := wOf_some h
  injection e with e1 e2
  subst e1; subst e2
  refine call_ok ok known0_ok (L := 0) (n := 2) ((vary_Reader_Good_eq 0 (some (p, 0)) σ _).trans ?_)
  simp only at hr
  simp only [Option.bind_some, hr]
  rfl
def w_vary_Of (b : Sl) (σ : Heap) : Option (Pt × Heap) := some (some (σ.length, 0), σ ++ [.row [.slice b.b b.o b.n 1, .bool false] .rw])
theorem ok_vary_Of : Ok_vary_Of w_vary_Of := fun b σ v σ' h => by
  injection h with h; injection h with h1 h2; subst h1; subst h2
  exact call_ok ok known0_ok (L := 0) (n := 2) (vary_Of_eq 0 b σ _)

/-! What a reader has left -/
/-- 'c': the block of its bytes. -/
structure RdAt (σ : Heap) (p : Nat) (c : Option Nat) (st : RS) : Prop where
  ex : ∃ s xs, Rdr σ p s st.isNone ∧ s.Is eU8 σ xs ∧ s.b = c ∧ c ≠ some p ∧ (st = none ∨ st = some xs)
/-- All other blocks are as they were. -/
structure But (p : Nat) (σ σ' : Heap) : Prop where
  len : σ'.length = σ.length
  at_ : ∀ b, b ≠ p → σ'[b]? = σ[b]?
theorem But.refl (p : Nat) (σ : Heap) : But p σ σ := ⟨rfl, fun _ _ => rfl⟩
theorem But.trans {p : Nat} {σ σ' σ'' : Heap} (h : But p σ σ') (k : But p σ' σ'') : But p σ σ'' := ⟨k.len.trans h.len, fun b hb => (k.at_ b hb).trans (h.at_ b hb)⟩
theorem but_set (σ : Heap) (p : Nat) (s : Sl) (bad : Bool) : But p σ (setR σ p s bad) := ⟨setR_len, fun _ hb => setR_ne hb⟩
theorem is_set {σ : Heap} {p : Nat} {s t : Sl} {bad : Bool} {xs : List UInt8} (h : s.Is eU8 σ xs) (hne : s.b ≠ some p) : s.Is eU8 (setR σ p t bad) xs :=
  h.of_row fun b cs hb hr => by rw [row?_congr (setR_ne (fun e => hne (by rw [hb, e])))]; exact hr
section
variable {σ σ' : Heap} {p : Nat} {c : Option Nat} {st : RS}
theorem RdAt.lt (h : RdAt σ p c st) : p < σ.length := let ⟨_, _, hr, _⟩ := h.ex; hr.lt
theorem RdAt.of_get (h : RdAt σ p c st) (hp : σ'[p]? = σ[p]?) (hc : ∀ b, c = some b → σ'[b]? = σ[b]?) : RdAt σ' p c st := by
  obtain ⟨s, xs, hr, hs, hb, hne, he⟩ := h.ex
  exact ⟨s, xs, hp.trans hr, hs.of_row fun b cs h1 h2 => by rw [row?_congr (hc b (by rw [← hb, h1]))]; exact h2, hb, hne, he⟩
theorem RdAt.clt (h : RdAt σ p c st) {b : Nat} (hc : c = some b) : b < σ.length := by
  obtain ⟨s, xs, hr, hs, hb, hne, he⟩ := h.ex
  exact hs.lt (hb.trans hc)
theorem RdAt.pre (h : RdAt σ p c st) (hp : σ <+: σ') : RdAt σ' p c st := h.of_get (get_pre hp h.lt) fun _ hc => get_pre hp (h.clt hc)
theorem RdAt.uniq {c' : Option Nat} {st' : RS} (h : RdAt σ p c st) (h' : RdAt σ p c' st') : c = c' ∧ st = st' := by
  obtain ⟨s, xs, hr, hs, hb, hne, he⟩ := h.ex
  obtain ⟨s', xs', hr', hs', hb', hne', he'⟩ := h'.ex
  obtain ⟨e1, e2⟩ := hr.uniq hr'
  subst e1
  refine ⟨hb.symm.trans hb', ?_⟩
  have := hs.uniq (by decide) hs'
  subst this
  rcases he with rfl | rfl <;> rcases he' with rfl | rfl <;> simp_all
theorem RdAt.bad (h : RdAt σ p c st) : bool? (σ.cell? p (0 + 1)) = some st.isNone := let ⟨_, _, hr, _⟩ := h.ex; hr.cell1
end
theorem num_at {σ : Heap} {p : Nat} {c : Option Nat} {st : RS} (h : RdAt σ p c st) {limit : Int} (hl : limit ≤ 9223372036854775807) :
    ∃ σ', w_vary_Reader_Num (some (p, 0)) limit σ = some (((numV (limN limit) st).1 : Int), σ') ∧ RdAt σ' p c (numV (limN limit) st).2 ∧ But p σ σ' := by
  obtain ⟨s, xs, hr, hs, hb, hne, he⟩ := h.ex
  have hne' : s.b ≠ some p := by rw [hb]; exact hne
  rw [w_vary_Reader_Num_eq ⟨rfl, hr, hs, hl⟩]
  unfold numRes
  rcases he with rfl | rfl
  · have : numOK (none : RS).isNone xs limit = false := rfl
    rw [this, cond_false, numV_none]
    exact ⟨_, rfl, ⟨s, xs, hr.set s true, is_set hs hne', hb, hne, .inl rfl⟩, but_set ..⟩
  · unfold numV
    by_cases hc : (vtake xs).2 ≠ 0 ∧ (vtake xs).1 < limN limit
    · have : numOK (some xs : RS).isNone xs limit = true := by simp [numOK, hc]
      rw [this, cond_true]
      simp only [if_pos hc]
      refine ⟨_, rfl, ⟨_, xs.drop (vtake xs).2, hr.set _ _, is_set (hs.drop (vtake_le xs)) hne', hb, hne, .inr rfl⟩, but_set ..⟩
    · have : numOK (some xs : RS).isNone xs limit = false := by
        unfold numOK
        rw [decide_eq_false hc, Bool.and_false]
      rw [this, cond_false]
      simp only [if_neg hc]
      exact ⟨_, rfl, ⟨s, xs, hr.set s true, is_set hs hne', hb, hne, .inl rfl⟩, but_set ..⟩
theorem good_at {σ : Heap} {p : Nat} {c : Option Nat} {st : RS} (h : RdAt σ p c st) : w_vary_Reader_Good (some (p, 0)) σ = some (st.isSome, σ) := by
  rw [w_vary_Reader_Good_eq h.bad]
  cases st <;> rfl
theorem good_frz {σ : Heap} {p : Nat} {c : Option Nat} {st : RS} (h : RdAt σ p c st) : w_vary_Reader_Good (some (p, 0)) σ.frz = some (st.isSome, σ.frz) := by
  rw [w_vary_Reader_Good_eq (bad := st.isNone) (by rw [Heap.cell?_frz]; exact h.bad)]
  cases st <;> rfl

/-! ### Is there more? -/
noncomputable def w_vary_Reader_Done (r : Pt) (σ : Heap) : Option (Bool × Heap) :=
  wOf (fun t : Nat × Bool × (Option Nat × Nat × Nat) => r = some (t.1, 0) ∧ bool? (σ.cell? t.1 (0 + 1)) = some t.2.1 ∧ slice? (σ.cell? t.1 0) 1 = some t.2.2) fun t => (!t.2.1 && ((t.2.2.2.2 : Int) == 0), σ)
theorem done_at {σ : Heap} {p : Nat} {c : Option Nat} {xs : List UInt8} (h : RdAt σ p c (some xs)) : w_vary_Reader_Done (some (p, 0)) σ = some (xs.isEmpty, σ) := by
  obtain ⟨s, ys, hr, hs, hb, hne, he⟩ := h.ex
  obtain rfl : xs = ys := by rcases he with he | he <;> simp_all
  have e := wOf_eq (P := fun t : Nat × Bool × (Option Nat × Nat × Nat) => some (p, 0) = some (t.1, 0) ∧ bool? (σ.cell? t.1 (0 + 1)) = some t.2.1 ∧ slice? (σ.cell? t.1 0) 1 = some t.2.2) (f := fun t => (!t.2.1 && ((t.2.2.2.2 : Int) == 0), σ)) (x := (p, false, (s.b, s.o, s.n))) ⟨rfl, hr.cell1, hr.cell0⟩ fun y hy => by
    obtain ⟨p', bad', q⟩ := y
    obtain ⟨e1, e2, e3⟩ := hy
    simp at e1
    subst e1
    simp only at e2 e3
    rw [hr.cell1] at e2
    rw [hr.cell0] at e3
    injection e2 with e2
    injection e3 with e3
    rw [← e2, ← e3]
    rfl
  refine e.trans ?_
  simp only [hs.n]
  cases xs with
  | nil => rfl
  | cons x r => rw [show (((x :: r).length : Int) == 0) = false by rw [beq_eq_false_iff_ne]; simp; omega]; rfl
theorem ok_vary_Reader_Done : Ok_vary_Reader_Done w_vary_Reader_Done := fun r σ v σ' h => by
  obtain ⟨⟨p, bad, b, o, n⟩, ⟨rfl, h1, h2⟩, e⟩ := wOf_some h
  injection e with e1 e2
  subst e1; subst e2
  refine call_ok ok known0_ok (L := 0) (n := 2) ((vary_Reader_Done_eq 0 (some (p, 0)) σ _).trans ?_)
  simp only at h1 h2
  simp only [Option.bind_some, h1, h2]
  cases bad <;> rfl
end Go.Abs.TE
namespace Go.Abs.TE
open Go Go.Abs Go.Proofs
def eI64 : El Int := ⟨1, fun n => [.int .i64 n], fun _ => rfl, fun a b h => by simpa using h⟩
instance : El.Flat eI64 := ⟨fun _ => rfl⟩
def eCell : El api_Cell := ⟨6, api_Cell.cells, fun _ => rfl, fun a b h => by
  obtain ⟨r, b0, b1, b2, f, k⟩ := a
  obtain ⟨r', b0', b1', b2', f', k'⟩ := b
  simp [api_Cell.cells] at h
  obtain ⟨rfl, rfl, rfl, rfl, rfl, rfl⟩ := h
  rfl⟩
instance : El.Flat eCell := ⟨fun _ => rfl⟩
def w_cell_Blank (s : api_Style) (σ : Heap) : Option (api_Cell × Heap) := some (⟨32, ⟨false, false, false, 0, s.Back⟩⟩, σ)
theorem ok_cell_Blank : Ok_cell_Blank w_cell_Blank := fun s σ v σ' h => by
  injection h with h; injection h with h1 h2; subst h1; subst h2
  exact call_ok ok known0_ok (L := 0) (n := 2) (cell_Blank_eq 0 s σ _)

/-! ### slices.Repeat of one cell -/
noncomputable def w_math_bits_Mul64 (x y : Int) (σ : Heap) : Option ((Int × Int) × Heap) := wIf (x = 1 ∧ 0 ≤ y ∧ y < 2147483648) ((0, y), σ)
theorem mask32 {y : Int} (h0 : 0 ≤ y) (h1 : y < 2147483648) : IntKind.u64.wrap (BitVec.ofInt IntKind.u64.bits y &&& BitVec.ofInt IntKind.u64.bits 4294967295).toNat = y := by
  obtain ⟨k, rfl⟩ := Int.eq_ofNat_of_zero_le h0
  rw [BitVec.toNat_and]
  have e1 : (BitVec.ofInt IntKind.u64.bits (k : Int)).toNat = k := by
    show (BitVec.ofInt 64 (k : Int)).toNat = _
    rw [BitVec.toNat_ofInt]
    omega
  have e2 : (BitVec.ofInt IntKind.u64.bits 4294967295).toNat = 2 ^ 32 - 1 := by decide
  rw [e1, e2, Nat.and_two_pow_sub_one_eq_mod, IntKind.wrap_u64]
  omega
theorem ok_math_bits_Mul64 : Ok_math_bits_Mul64 w_math_bits_Mul64 := fun x y σ v σ' h => by
  obtain ⟨⟨rfl, h0, h1⟩, e⟩ := wIf_some h
  injection e with e1 e2
  subst e1; subst e2
  refine call_ok ok known0_ok (L := 0) (n := 2) ((math_bits_Mul64_eq 0 1 y σ _).trans ?_)
  have e2 : Int.fdiv y (2 ^ 32) = 0 := by
    rw [Int.fdiv_eq_ediv_of_nonneg _ (by decide)]
    exact Int.ediv_eq_zero_of_lt h0 (by omega)
  have e1 : Int.fdiv 1 (2 ^ 32) = 0 := by decide
  have e3 : IntKind.u64.wrap (BitVec.ofInt IntKind.u64.bits 1 &&& BitVec.ofInt IntKind.u64.bits 4294967295).toNat = 1 := by decide
  have e4 := mask32 h0 h1
  have e5 : IntKind.u64.wrap y = y := by rw [IntKind.wrap_u64]; omega
  have e6 : IntKind.u64.wrap 0 = 0 := by decide
  have e7 : IntKind.u64.wrap (BitVec.ofInt IntKind.u64.bits 0 &&& BitVec.ofInt IntKind.u64.bits 4294967295).toNat = 0 := by decide
  have e8 : Int.fdiv 0 (2 ^ 32) = 0 := by decide
  simp only [e1, e2, e3, e4, e5, e6, e7, e8, Int.zero_mul, Int.mul_zero, Int.one_mul, Int.add_zero]
  rfl
noncomputable def c_math_bits_Mul : C_math_bits_Mul := ⟨w_math_bits_Mul64⟩
noncomputable def w_math_bits_Mul (x y : Int) (σ : Heap) : Option ((Int × Int) × Heap) := w_math_bits_Mul64 x y σ
theorem ok_math_bits_Mul : Ok_math_bits_Mul w_math_bits_Mul := fun x y σ v σ' h => by
  refine call_ok ok (K_math_bits_Mul c_math_bits_Mul ok_math_bits_Mul64) (L := 0) (n := 2) ((math_bits_Mul_eq c_math_bits_Mul 0 x y σ _).trans ?_)
  have p : c_math_bits_Mul.math_bits_Mul64 = w_math_bits_Mul64 := rfl
  have h' : w_math_bits_Mul64 x y σ = some (v, σ') := h
  rw [p, h']
  rfl
theorem rep_all {c : api_Cell} : ∀ (n : Nat), eCell.all (List.replicate n c) = (List.replicate n c.cells).flatten
  | 0 => rfl
  | n + 1 => by
    rw [List.replicate_succ, El.all_cons, rep_all n, List.replicate_succ, List.flatten_cons]
    rfl
/-- The first k of them are c, the others z. -/
def repTo (c z : api_Cell) (k n : Nat) : List api_Cell := List.replicate k c ++ List.replicate (n - k) z
theorem repTo_len {c z : api_Cell} {k n : Nat} (h : k ≤ n) : (repTo c z k n).length = n := by simp [repTo]; omega
theorem overwrite_rep {c z : api_Cell} {k m n : Nat} (h : k + m ≤ n) : overwrite (eCell.all (repTo c z k n)) (k * 6) (eCell.all (List.replicate m c)) = eCell.all (repTo c z (k + m) n) := by
  have e : eCell.all (repTo c z k n) = eCell.all (List.replicate k c) ++ eCell.all (List.replicate m z) ++ eCell.all (List.replicate (n - k - m) z) := by
    have e1 : List.replicate (n - k) z = List.replicate m z ++ List.replicate (n - k - m) z := by rw [List.replicate_append_replicate]; congr 1; omega
    unfold repTo
    rw [e1, El.all_append, El.all_append, List.append_assoc]
  have hl : (eCell.all (List.replicate k c)).length = k * 6 := by rw [El.all_len, List.length_replicate]; rfl
  rw [e]
  have := overwrite_append (eCell.all (List.replicate m c)) (eCell.all (List.replicate k c)) (eCell.all (List.replicate m z)) (eCell.all (List.replicate (n - k - m) z)) (by rw [El.all_len, El.all_len, List.length_replicate, List.length_replicate])
  rw [hl] at this
  rw [this, ← El.all_append, ← El.all_append, List.replicate_append_replicate, show n - k - m = n - (k + m) by omega]
  rfl
theorem store_rep {σ0 σ : Heap} {out : Sl} {c z : api_Cell} {k m n : Nat} (h : Mine eCell σ0 out σ (repTo c z k n)) (hb : out.b.isNone = false) (hk : k + m ≤ n) :
    ∃ b σ', out.b = some b ∧ σ.store b (out.o + k * 6) (eCell.all (List.replicate m c)) = some σ' ∧ Mine eCell σ0 out σ' (repTo c z (k + m) n) := by
  cases hob : out.b with
  | none => rw [hob] at hb; cases hb
  | some b =>
    obtain ⟨σ', h1, h2, h3, h4⟩ := store_own h.own hob (o := k * 6) (vs := eCell.all (List.replicate m c)) (overwrite_rep hk) (by rw [repTo_len hk, repTo_len (by omega)]) (by
      rw [El.all_len, List.length_replicate, repTo_len (by omega)]
      show k * 6 + m * 6 ≤ n * 6
      omega)
    have ho : out.o = 0 := by
      cases h.own with
      | nil hb' _ _ _ => rw [hob] at hb'; cases hb'
      | row _ _ ho _ _ => exact ho
    have hl := h.pre.length_le
    have hn := h.new b hob
    exact ⟨b, σ', rfl, by rw [ho, Nat.zero_add]; exact h1, pre_of_get (by omega) (fun d hd => by rw [h4 d (by omega)]; exact get_pre h.pre hd), h2, h.new⟩
noncomputable def c_slices_Repeat : C_slices_Repeat := ⟨w_math_bits_Mul⟩
theorem slices_Repeat_loop {R : Type} {L : Nat} {out : Sl} {σ0 : Heap} {K : AVal → Heap → Option R} {c z : api_Cell} {n : Nat} (hn : n ≤ 1000000) (hb : out.b.isNone = false) :
    ∀ (d k m : Nat) (σ : Heap), k + d = n → d < m → 0 < k → Mine eCell σ0 out σ (repTo c z k n) →
      ∃ σ1, Mine eCell σ0 out σ1 (List.replicate n c) ∧ slices_Repeat_L8 c_slices_Repeat L m out (k : Int) σ K = K (.slice out.b out.o out.n 6) σ1 := by
  intro d
  induction d using Nat.strongRecOn with
  | ind d ih =>
    intro k m σ hk hm h0 hM
    cases m with
    | zero => omega
    | succ m =>
      have hon : out.n = n := by rw [hM.own.len, repTo_len (by omega)]
      rw [slices_Repeat_L8_eq, hon]
      by_cases hd : d = 0
      · refine ⟨σ, ?_, ?_⟩
        · have : repTo c z k n = List.replicate n c := by unfold repTo; rw [show n - k = 0 by omega, show k = n by omega]; simp
          rw [← this]; exact hM
        · rw [lt_false (show ¬ k < n by omega)]
          rfl
      · have hr := (hM.own.is (by rw [repTo_len (by omega)]; omega)).readn (m := min k (n - k)) (by rw [repTo_len (by omega)]; omega)
        have ht : (repTo c z k n).take (min k (n - k)) = List.replicate (min k (n - k)) c := by
          unfold repTo
          rw [List.take_append_of_le_length (by simp; omega), List.take_replicate]
          congr 1
          omega
        rw [ht] at hr
        have hr' : σ.read out.b out.o (min k (n - k)) 6 = some (eCell.all (List.replicate (min k (n - k)) c)) := hr
        obtain ⟨b, σ', g1, g2, g3⟩ := store_rep hM hb (m := min k (n - k)) (by omega)
        obtain ⟨σ1, j1, j2⟩ := ih (d - min k (n - k)) (by omega) (k + min k (n - k)) m σ' (by omega) (by omega) (by omega) g3
        refine ⟨σ1, j1, ?_⟩
        rw [lt_true (show k < n by omega)]
        simp only [cond_true, dec0, show decide ((k : Int) ≤ (n : Int)) = true by simp; omega, Int.le_refl, decide_true, Bool.and_self, Int.toNat_natCast]
        rw [hr', Option.bind_some, g1]
        simp only [g2, Option.bind_some]
        rw [show (k : Int) + ((min k (n - k) : Nat) : Int) = ((k + min k (n - k) : Nat) : Int) by simp, wrap_i64_nat _ (by omega), ← g1, ← hon]
        rw [hon]
        rw [hon] at j2
        exact j2
def zeroC : api_Cell := ⟨0, ⟨false, false, false, 0, 0⟩⟩
noncomputable def w_slices_Repeat (x : Sl) (count : Int) (σ : Heap) : Option (Sl × Heap) := wOf (fun p : api_Cell × Nat => x.Is eCell σ [p.1] ∧ count = (p.2 : Int) ∧ p.2 ≤ 1000000) fun p => fresh eCell σ false (List.replicate p.2 p.1)
theorem w_slices_Repeat_eq {x : Sl} {σ : Heap} {c : api_Cell} {n : Nat} (h : x.Is eCell σ [c]) (hn : n ≤ 1000000) : w_slices_Repeat x (n : Int) σ = some (fresh eCell σ false (List.replicate n c)) :=
  wOf_eq (x := (c, n)) ⟨h, rfl, hn⟩ fun y hy => by
    obtain ⟨c', n'⟩ := y
    have e1 := hy.1.uniq (by decide) h
    have e2 := hy.2.1
    simp only [List.cons.injEq, and_true] at e1
    simp only at e2
    rw [e1, show n' = n by omega]
theorem ok_slices_Repeat : Ok_slices_Repeat w_slices_Repeat := fun x count σ v σ' h => by
  obtain ⟨⟨c, n⟩, ⟨hx, rfl, hn⟩, e⟩ := wOf_some h
  simp only at hx hn e
  obtain ⟨rfl, rfl⟩ : v = (fresh eCell σ false (List.replicate n c)).1 ∧ σ' = (fresh eCell σ false (List.replicate n c)).2 := by rw [e]; exact ⟨rfl, rfl⟩
  have p1 : c_slices_Repeat.math_bits_Mul = w_math_bits_Mul := rfl
  have hzr : (List.replicate n [AVal.int .i32 0, .bool false, .bool false, .bool false, .int .i64 0, .int .i64 0]).flatten = eCell.all (repTo c zeroC 0 n) := by
    unfold repTo
    rw [List.replicate_zero, List.nil_append, Nat.sub_zero, rep_all]
    rfl
  have hM0 : Mine eCell σ ⟨some σ.length, 0, n⟩ (σ ++ [.row (eCell.all (repTo c zeroC 0 n)) .rw]) (repTo c zeroC 0 n) :=
    ⟨pre_push .., .row _ rfl rfl (by rw [repTo_len (by omega)]) (get_push ..), fun d hd => by simp at hd; omega⟩
  obtain ⟨b, σ2, g1, g2, g3⟩ := store_rep hM0 rfl (m := min 1 n) (by omega)
  injection g1 with g1
  subst g1
  have hMul : w_math_bits_Mul (IntKind.u64.wrap ((1 : Nat) : Int)) (IntKind.u64.wrap (n : Int)) σ = some ((0, (n : Int)), σ) := by
    rw [show IntKind.u64.wrap ((1 : Nat) : Int) = 1 by decide, show IntKind.u64.wrap (n : Int) = (n : Int) by rw [IntKind.wrap_u64]; omega]
    exact wIf_eq ⟨rfl, by omega, by omega⟩
  have hxn : x.n = 1 := hx.n
  have hr := (hx.pre (pre_push σ (.row (eCell.all (repTo c zeroC 0 n)) .rw))).readn (m := min 1 n) (by simp; omega)
  have ht : ([c] : List api_Cell).take (min 1 n) = List.replicate (min 1 n) c := by
    rcases Nat.eq_zero_or_pos n with h0 | h0
    · subst h0; rfl
    · rw [show min 1 n = 1 by omega]; rfl
  rw [ht] at hr
  have hr' : Heap.read (σ ++ [.row (eCell.all (repTo c zeroC 0 n)) .rw]) x.b x.o (min 1 n) 6 = some (eCell.all (List.replicate (min 1 n) c)) := hr
  have g2' : Heap.store (σ ++ [.row (eCell.all (repTo c zeroC 0 n)) .rw]) σ.length 0 (eCell.all (List.replicate (min 1 n) c)) = some σ2 := g2
  have key : ∃ σ1, Mine eCell σ ⟨some σ.length, 0, n⟩ σ1 (List.replicate n c) ∧ slices_Repeat_L8 (R := AVal × Heap) c_slices_Repeat (n + 1) (n + 1) ⟨some σ.length, 0, n⟩ ((min 1 n : Nat) : Int) σ2 (fun v σ => some (v, σ)) = some (.slice (some σ.length) 0 n 6, σ1) := by
    rcases Nat.eq_zero_or_pos n with h0 | h0
    · subst h0
      refine ⟨σ2, g3, ?_⟩
      rw [slices_Repeat_L8_eq]
      rfl
    · exact slices_Repeat_loop (R := AVal × Heap) (L := n + 1) (K := fun v σ => some (v, σ)) hn rfl (n - min 1 n) (min 1 n) (n + 1) σ2 (by omega) (by omega) (by omega) (by rw [Nat.zero_add] at g3; exact g3)
  obtain ⟨σ1, k1, k2⟩ := key
  refine call_mine (out := ⟨some σ.length, 0, n⟩) (call_ok ok (K_slices_Repeat c_slices_Repeat ok_math_bits_Mul) (L := n + 1) (n := 2) (σ' := σ1) ((slices_Repeat_eq c_slices_Repeat (n + 1) x (n : Int) σ _).trans ?_)) k1 rfl
  rw [show decide ((n : Int) < 0) = false by simp, cond_false, p1, hxn, hMul, Option.bind_some]
  rw [show decide ((0 : Int) > 0) = false by decide, cond_false]
  simp only
  rw [show decide ((n : Int) > 9223372036854775807) = false by rw [decide_eq_false_iff_not]; omega, cond_false, wrap_i64_nat n (by omega)]
  simp only [dec0, Int.le_refl, decide_true, Bool.and_self, show decide (32 * (n : Int) ≤ 70368744177664) = true by rw [decide_eq_true_iff]; omega, show decide ((n : Int) ≤ 70368744177664) = true by rw [decide_eq_true_iff]; omega, cond_true, Int.toNat_natCast, alloc, hzr]
  rw [hr', Option.bind_some, g2', Option.bind_some]
  exact k2

theorem fresh_isNone {α : Type} (E : El α) (σ : Heap) (nil : Bool) (ys : List α) : (fresh E σ nil ys).1.b.isNone = nil := by cases nil <;> rfl
def blankC (s : api_Style) : api_Cell := ⟨32, ⟨false, false, false, 0, s.Back⟩⟩
noncomputable def c_grid_blank : C_grid_blank := { cell_Blank := w_cell_Blank, slices_Repeat := w_slices_Repeat }
noncomputable def w_grid_blank (w : Int) (s : api_Style) (σ : Heap) : Option (Sl × Heap) := wOf (fun n : Nat => w = (n : Int) ∧ n ≤ 1000000) fun n => fresh eCell σ false (List.replicate n (blankC s))
theorem w_grid_blank_eq {s : api_Style} {σ : Heap} {n : Nat} (hn : n ≤ 1000000) : w_grid_blank (n : Int) s σ = some (fresh eCell σ false (List.replicate n (blankC s))) :=
  wOf_eq ⟨rfl, hn⟩ fun y hy => by rw [show y = n by have := hy.1; omega]
theorem ok_grid_blank : Ok_grid_blank w_grid_blank := fun w s σ v σ' h => by
  obtain ⟨n, ⟨rfl, hn⟩, e⟩ := wOf_some h
  obtain ⟨rfl, rfl⟩ : v = (fresh eCell σ false (List.replicate n (blankC s))).1 ∧ σ' = (fresh eCell σ false (List.replicate n (blankC s))).2 := by rw [e]; exact ⟨rfl, rfl⟩
  have p1 : c_grid_blank.cell_Blank = w_cell_Blank := rfl
  have p2 : c_grid_blank.slices_Repeat = w_slices_Repeat := rfl
  have hp : σ <+: σ ++ [.row (blankC s).cells .rw] := pre_push ..
  have hR : w_slices_Repeat ⟨some σ.length, 0, 1⟩ (n : Int) (σ ++ [.row (blankC s).cells .rw]) = some (fresh eCell (σ ++ [.row (blankC s).cells .rw]) false (List.replicate n (blankC s))) :=
    w_slices_Repeat_eq (Sl.Is.new (E := eCell) (xs := [blankC s]) (by simp)) hn
  have ho := fresh_own eCell (σ ++ [.row (blankC s).cells .rw]) false (List.replicate n (blankC s)) (fun h => by cases h)
  have hpre := fresh_pre eCell (σ ++ [.row (blankC s).cells .rw]) false (List.replicate n (blankC s))
  have hnew := fresh_new eCell (σ ++ [.row (blankC s).cells .rw]) false (List.replicate n (blankC s))
  have hnone := fresh_isNone eCell (σ ++ [.row (blankC s).cells .rw]) false (List.replicate n (blankC s))
  generalize fresh eCell (σ ++ [.row (blankC s).cells .rw]) false (List.replicate n (blankC s)) = q at hR ho hpre hnew hnone
  refine call_mine (out := q.1) (call_ok ok (K_grid_blank c_grid_blank ok_slices_Repeat ok_cell_Blank) (L := 0) (n := 2) (σ' := q.2) ((grid_blank_eq c_grid_blank 0 (n : Int) s σ _).trans ?_)) ⟨hp.trans hpre, ho, fun c hc => by have := hnew c hc; simp at this; omega⟩ hnone.symm
  simp only [p1, p2, w_cell_Blank, Option.bind_some, alloc]
  have hR' : w_slices_Repeat ⟨some σ.length, 0, 1⟩ (n : Int) (σ ++ [.row [.int .i32 32, .bool false, .bool false, .bool false, .int .i64 0, .int .i64 s.Back] .rw]) = some q := hR
  rw [hR', Option.bind_some]

/-- .. for a run in the kernel. -/
def cBlank (w : Int) (s : api_Style) (σ : Heap) : Option (Sl × Heap) := match w with
  | .ofNat n => match Nat.ble n 1000000 with
    | true => some (fresh eCell σ false (List.replicate n (blankC s)))
    | false => none
  | .negSucc _ => none
theorem ok_cBlank : Ok_grid_blank cBlank := fun w s σ v σ' h => by
  refine ok_grid_blank w s σ v σ' ?_
  unfold cBlank at h
  split at h
  · split at h
    · rename_i n e
      rw [← h]
      exact w_grid_blank_eq (Nat.le_of_ble_eq_true e)
    · cases h
  · cases h
end Go.Abs.TE
namespace Go.Abs.TE
open Go Go.Abs Go.Proofs
/-! ### vary.Put, for a run in the kernel -/
def deU8 : List AVal → Option (List UInt8)
  | [] => some []
  | .int .u8 (.ofNat n) :: r => match Nat.blt n 256 with
    | true => match deU8 r with
      | some q => some (UInt8.ofNat n :: q)
      | none => none
    | false => none
  | _ => none
theorem deU8_all : ∀ {cs : List AVal} {ys : List UInt8}, deU8 cs = some ys → cs = eU8.all ys
  | [], ys, h => by
    simp only [deU8, Option.some.injEq] at h
    subst h; rfl
  | x :: r, ys, h => by
    unfold deU8 at h
    split at h
    · rename_i e; cases e
    · rename_i n r' e
      injection e with e1 e2
      subst e1; subst e2
      split at h
      · rename_i hn
        split at h
        · rename_i q hq
          injection h with h
          subst h
          rw [El.all_cons, ← deU8_all hq]
          have hlt : n < 256 := by simpa [Nat.blt_eq] using hn
          show _ = [AVal.int .u8 (((UInt8.ofNat n).toNat : Nat) : Int)] ++ _
          rw [UInt8.toNat_ofNat_of_lt' (by simpa using hlt)]
          rfl
        · cases h
      · cases h
    · cases h
def deU64 : List AVal → Option (List Nat)
  | [] => some []
  | .int .u64 (.ofNat n) :: r => match Nat.blt n 18446744073709551616 with
    | true => match deU64 r with
      | some q => some (n :: q)
      | none => none
    | false => none
  | _ => none
theorem deU64_all : ∀ {cs : List AVal} {ns : List Nat}, deU64 cs = some ns → cs = eU64.all (ns.map Int.ofNat) ∧ ∀ n ∈ ns, n < 18446744073709551616
  | [], ys, h => by
    simp only [deU64, Option.some.injEq] at h
    subst h; exact ⟨rfl, fun n hn => by cases hn⟩
  | x :: r, ys, h => by
    unfold deU64 at h
    split at h
    · rename_i e; cases e
    · rename_i n r' e
      injection e with e1 e2
      subst e1; subst e2
      split at h
      · rename_i hn
        split at h
        · rename_i q hq
          injection h with h
          subst h
          obtain ⟨k1, k2⟩ := deU64_all hq
          refine ⟨?_, fun m hm => ?_⟩
          · rw [List.map_cons, El.all_cons, ← k1]; rfl
          · rcases List.mem_cons.1 hm with rfl | hm
            · simpa [Nat.blt_eq] using hn
            · exact k2 m hm
        · cases h
      · cases h
    · cases h
def vputF : Nat → Nat → List UInt8
  | 0, _ => []
  | f + 1, n => match Nat.blt n 128 with
    | true => [UInt8.ofNat n]
    | false => UInt8.ofNat (n % 128 + 128) :: vputF f (n / 128)
theorem vputF_eq : ∀ (f n : Nat), n < 128 ^ (f + 1) → vputF (f + 1) n = vput n
  | f, n, h => by
    unfold vputF
    split
    · rename_i hn
      rw [Nat.blt_eq] at hn
      rw [vput_lt hn]
    · rename_i hn
      have hn' : 128 ≤ n := by
        rcases Nat.lt_or_ge n 128 with h' | h'
        · rw [Nat.blt_eq.mpr h'] at hn; cases hn
        · exact h'
      cases f with
      | zero => simp at h; omega
      | succ f => rw [vput_ge hn', vputF_eq f (n / 128) (by rw [Nat.div_lt_iff_lt_mul (by omega), ← Nat.pow_succ]; exact h)]
def vputsF : List Nat → List UInt8
  | [] => []
  | n :: r => vputF 10 n ++ vputsF r
theorem vputsF_eq : ∀ {ns : List Nat}, (∀ n ∈ ns, n < 18446744073709551616) → vputsF ns = vputs ns
  | [], _ => rfl
  | n :: r, h => by
    rw [vputsF, vputs, vputF_eq 9 n (Nat.lt_of_lt_of_le (h n (by simp)) (by decide)), vputsF_eq fun m hm => h m (by simp [hm])]
/-- The bytes of a slice that is its caller's own. -/
def ownB (s : Sl) (σ : Heap) : Option (List UInt8) := match s.b with
  | none => match decide (s.o = 0) && decide (s.n = 0) with
    | true => some []
    | false => none
  | some b => match σ[b]? with
    | some (.row cs .rw) => match deU8 cs with
      | some ys => match decide (s.o = 0) && decide (s.n = ys.length) with
        | true => some ys
        | false => none
      | none => none
    | _ => none
theorem ownB_own {s : Sl} {σ : Heap} {ys : List UInt8} (h : ownB s σ = some ys) : s.Own eU8 σ ys := by
  unfold ownB at h
  split at h
  · rename_i hb
    split at h
    · rename_i e
      injection h with h
      subst h
      simp only [Bool.and_eq_true, decide_eq_true_eq] at e
      exact .nil hb e.1 e.2 rfl
    · cases h
  · rename_i b hb
    split at h
    · rename_i cs hr
      split at h
      · rename_i q hq
        split at h
        · rename_i e
          injection h with h
          subst h
          simp only [Bool.and_eq_true, decide_eq_true_eq] at e
          rw [deU8_all hq] at hr
          exact .row b hb e.1 e.2 hr
        · cases h
      · cases h
    · cases h
def numsB (l : Sl) (σ : Heap) : Option (List Nat) := match l.b with
  | none => none
  | some b => match σ.row? b with
    | some cs => match deU64 ((cs.drop l.o).take l.n) with
      | some ns => match decide (l.n = ns.length) && decide (l.o + l.n ≤ cs.length) && decide (l.n ≤ 1099511627776) with
        | true => some ns
        | false => none
      | none => none
    | none => none
theorem numsB_is {l : Sl} {σ : Heap} {ns : List Nat} (h : numsB l σ = some ns) : l.Is eU64 σ (ns.map Int.ofNat) ∧ ∀ n ∈ ns, n < 18446744073709551616 := by
  unfold numsB at h
  split at h
  · cases h
  · rename_i b hb
    split at h
    · rename_i cs hr
      split at h
      · rename_i q hq
        split at h
        · rename_i e
          injection h with h
          subst h
          simp only [Bool.and_eq_true, decide_eq_true_eq] at e
          obtain ⟨k1, k2⟩ := deU64_all hq
          refine ⟨⟨by rw [List.length_map]; exact e.1.1, by rw [List.length_map, ← e.1.1]; exact e.2, .inr ⟨b, cs, hb, hr, ?_, ?_⟩⟩, k2⟩
          · rw [List.length_map, ← k1, ← e.1.1]
            show (cs.drop l.o).take (l.n * 1) = _
            rw [Nat.mul_one]
          · rw [List.length_map, ← e.1.1]
            show l.o + l.n * 1 ≤ _
            rw [Nat.mul_one]
            exact e.1.2
        · cases h
      · cases h
    · cases h
def cPut (s l : Sl) (σ : Heap) : Option (Sl × Heap) := match ownB s σ, numsB l σ with
  | some ys, some (n :: ns) => match Nat.ble (ys.length + 10 * (ns.length + 1)) 1000000 && (match s.b, l.b with | some b, some c => !Nat.beq b c | _, _ => true) with
    | true => some (grow eU8 σ s (ys ++ vputsF (n :: ns)))
    | false => none
  | _, _ => none
theorem ok_cPut : Ok_vary_Put cPut := fun s l σ v σ' h => by
  refine ok_vary_Put s l σ v σ' ?_
  unfold cPut at h
  split at h
  · rename_i ys n ns ho hn
    obtain ⟨k1, k2⟩ := numsB_is hn
    split at h
    · rename_i e
      rw [Bool.and_eq_true] at e
      injection h with h
      rw [← h, vputsF_eq k2]
      refine w_vary_Put_eq ⟨ownB_own ho, k1, by simp, k2, by simpa using Nat.le_of_ble_eq_true e.1, fun b hb hl => ?_⟩
      have := e.2
      rw [hb, hl] at this
      simp at this
    · cases h
  · cases h
end Go.Abs.TE
namespace Go.Abs.TE
open Go Go.Abs Go.Proofs
def eB : El Bool := ⟨1, fun b => [.bool b], fun _ => rfl, fun a b h => by simpa using h⟩
instance : El.Flat eB := ⟨fun _ => rfl⟩
theorem b_cell {s : Sl} {σ : Heap} {l : List Bool} (h : s.Is eB σ l) {i : Nat} {x : Bool} (hi : l[i]? = some x) : ∃ b, s.b = some b ∧ σ.cell? b (s.o + i * 1) = some (.bool x) := by
  obtain ⟨b, hb, hc⟩ := h.cell hi
  exact ⟨b, hb, hc 0 (by decide)⟩
def flagsI : List Bool → Nat → Int → Int
  | [], _, n => n
  | b :: r, i, n => flagsI r (i + 1) (match b with
    | true => IntKind.u64.wrap (BitVec.ofInt IntKind.u64.bits n ||| BitVec.ofInt IntKind.u64.bits (IntKind.u64.wrap (1 * 2 ^ (min (i : Int).toNat IntKind.u64.bits)))).toNat
    | false => n)
theorem state_flags_loop {R : Type} {L : Nat} {l : Sl} {σ : Heap} {K : AVal → Heap → Option R} {bs : List Bool} (hl : l.Is eB σ bs) (hs : bs.length ≤ 1000000) :
    ∀ (d i m : Nat) (n : Int), i + d = bs.length → d < m → state_flags_L3 L m n l (i : Int) σ K = K (.int .u64 (flagsI (bs.drop i) i n)) σ
  | _, i, 0, _, _, h => by omega
  | 0, i, m + 1, n, h, _ => by
    rw [state_flags_L3_eq, hl.n, lt_false (by omega), List.drop_eq_nil_of_le (by omega)]
    rfl
  | d + 1, i, m + 1, n, h, hm => by
    have hi : i < bs.length := by omega
    obtain ⟨c, hc, f0⟩ := b_cell hl (i := i) (x := bs[i]) (List.getElem?_eq_getElem hi)
    rw [state_flags_L3_eq, List.drop_eq_getElem_cons hi]
    simp only [hl.n, dec0, lt_true hi, Bool.and_self, cond_true, hc, Option.bind_some, Int.toNat_natCast, f0, bool?]
    rw [wrap_i64_succ i (by omega)]
    cases hb : bs[i] with
    | true =>
      rw [cond_true, if_neg (by omega)]
      exact state_flags_loop hl hs d (i + 1) m _ (by omega) (by omega)
    | false =>
      rw [cond_false]
      exact state_flags_loop hl hs d (i + 1) m _ (by omega) (by omega)
/-- The elements of a slice, read by a function that knows one of them. -/
def winB (z : Nat) (l : Sl) (σ : Heap) : Option (List AVal) := match l.b with
  | none => none
  | some b => match σ.row? b with
    | some cs => match decide (l.o + l.n * z ≤ cs.length) && decide (l.n ≤ 1000000) with
      | true => some ((cs.drop l.o).take (l.n * z))
      | false => none
    | none => none
theorem winB_is {α : Type} {E : El α} {l : Sl} {σ : Heap} {xs : List α} (hz : 0 < E.z) (h : winB E.z l σ = some (E.all xs)) : l.Is E σ xs ∧ xs.length ≤ 1000000 := by
  unfold winB at h
  split at h
  · cases h
  · rename_i b hb
    split at h
    · rename_i cs hr
      split at h
      · rename_i e
        injection h with h
        simp only [Bool.and_eq_true, decide_eq_true_eq] at e
        have hn : l.n = xs.length := by
          have := congrArg List.length h
          rw [El.all_len, List.length_take, List.length_drop] at this
          have h2 : min (l.n * E.z) (cs.length - l.o) = l.n * E.z := by omega
          rw [h2] at this
          exact Nat.eq_of_mul_eq_mul_right hz this
        refine ⟨⟨hn, by omega, .inr ⟨b, cs, hb, hr, by rw [← hn]; exact h, by rw [← hn]; exact e.1⟩⟩, by omega⟩
      · cases h
    · cases h
def deB : List AVal → Option (List Bool)
  | [] => some []
  | .bool b :: r => match deB r with
    | some q => some (b :: q)
    | none => none
  | _ => none
theorem deB_all : ∀ {cs : List AVal} {ys : List Bool}, deB cs = some ys → cs = eB.all ys
  | [], ys, h => by
    simp only [deB, Option.some.injEq] at h
    subst h; rfl
  | x :: r, ys, h => by
    unfold deB at h
    split at h
    · rename_i e; cases e
    · rename_i b r' e
      injection e with e1 e2
      subst e1; subst e2
      split at h
      · rename_i q hq
        injection h with h
        subst h
        rw [El.all_cons, ← deB_all hq]; rfl
      · cases h
    · cases h
def cFlags (l : Sl) (σ : Heap) : Option (Int × Heap) := match winB 1 l σ with
  | some cs => match deB cs with
    | some bs => some (flagsI bs 0 0, σ)
    | none => none
  | none => none
theorem ok_cFlags : Ok_state_flags cFlags := fun l σ v σ' h => by
  unfold cFlags at h
  split at h
  · rename_i cs hw
    split at h
    · rename_i bs hb
      injection h with h
      injection h with h1 h2
      subst h1; subst h2
      obtain ⟨hl, hs⟩ := winB_is (E := eB) (by decide) (by rw [← deB_all hb]; exact hw)
      refine call_ok ok known0_ok (L := bs.length + 1) (n := 2) ((state_flags_eq (bs.length + 1) l σ _).trans ?_)
      exact state_flags_loop hl hs bs.length 0 (bs.length + 1) 0 (by omega) (by omega)
    · cases h
  · cases h
/-! ### crc.Sum -/
def crcI (c : Int) : Int := IntKind.u32.wrap (BitVec.ofInt IntKind.u32.bits (Int.fdiv c (2 ^ 1)) ^^^ BitVec.ofInt IntKind.u32.bits (IntKind.u32.wrap (3988292384 * (IntKind.u32.wrap (BitVec.ofInt IntKind.u32.bits c &&& BitVec.ofInt IntKind.u32.bits 1).toNat)))).toNat
def crcI8 : Nat → Int → Int
  | 0, c => c
  | k + 1, c => crcI8 k (crcI c)
def crcS : List UInt8 → Int → Int
  | [], c => IntKind.u32.wrap (BitVec.ofInt IntKind.u32.bits IntKind.u32.max ^^^ BitVec.ofInt IntKind.u32.bits c).toNat
  | x :: r, c => crcS r (crcI8 8 (IntKind.u32.wrap (BitVec.ofInt IntKind.u32.bits c ^^^ BitVec.ofInt IntKind.u32.bits (IntKind.u32.wrap ((x.toNat : Nat) : Int))).toNat))
theorem crc_L7 {R : Type} {L fu : Nat} {b : Sl} {x : Int} {σ : Heap} {K : AVal → Heap → Option R} : ∀ (d j m : Nat) (c : Int), j + d = 8 → d < m → crc_Sum_L7 L fu m c b x (j : Int) σ K = crc_Sum_L3 L fu (crcI8 d c) b (IntKind.i64.wrap (x + 1)) σ K
  | _, j, 0, _, _, h => by omega
  | 0, j, m + 1, c, h, _ => by
    rw [crc_Sum_L7_eq, show decide ((j : Int) < 8) = false by rw [decide_eq_false_iff_not]; omega, cond_false]
    rfl
  | d + 1, j, m + 1, c, h, hm => by
    rw [crc_Sum_L7_eq, show decide ((j : Int) < 8) = true by rw [decide_eq_true_iff]; omega, cond_true, wrap_i64_succ j (by omega)]
    exact crc_L7 d (j + 1) m (crcI c) (by omega) (by omega)
theorem crc_L3 {R : Type} {L : Nat} {l : Sl} {σ : Heap} {K : AVal → Heap → Option R} {bs : List UInt8} (hL : 8 < L) (hl : l.Is eU8 σ bs) (hs : bs.length ≤ 1000000) :
    ∀ (d i m : Nat) (c : Int), i + d = bs.length → d < m → crc_Sum_L3 L m c l (i : Int) σ K = K (.int .u32 (crcS (bs.drop i) c)) σ
  | _, i, 0, _, _, h => by omega
  | 0, i, m + 1, c, h, _ => by
    rw [crc_Sum_L3_eq, hl.n, lt_false (by omega), List.drop_eq_nil_of_le (by omega)]
    rfl
  | d + 1, i, m + 1, c, h, hm => by
    have hi : i < bs.length := by omega
    obtain ⟨b, hc, f0⟩ := u8_cell hl (i := i) (x := bs[i]) (List.getElem?_eq_getElem hi)
    rw [crc_Sum_L3_eq, List.drop_eq_getElem_cons hi]
    simp only [hl.n, dec0, lt_true hi, Bool.and_self, cond_true, hc, Option.bind_some, Int.toNat_natCast, f0, int?, if_true]
    have e := crc_L7 (L := L) (fu := m) (b := l) (x := (i : Int)) (σ := σ) (K := K) 8 0 L (IntKind.u32.wrap (BitVec.ofInt IntKind.u32.bits c ^^^ BitVec.ofInt IntKind.u32.bits (IntKind.u32.wrap ((bs[i].toNat : Nat) : Int))).toNat) (by omega) hL
    rw [wrap_i64_succ i (by omega)] at e
    exact e.trans (crc_L3 hL hl hs d (i + 1) m _ (by omega) (by omega))
def cSum (l : Sl) (σ : Heap) : Option (Int × Heap) := match winB 1 l σ with
  | some cs => match deU8 cs with
    | some bs => some (crcS bs 4294967295, σ)
    | none => none
  | none => none
theorem ok_cSum : Ok_crc_Sum cSum := fun l σ v σ' h => by
  unfold cSum at h
  split at h
  · rename_i cs hw
    split at h
    · rename_i bs hb
      injection h with h
      injection h with h1 h2
      subst h1; subst h2
      obtain ⟨hl, hs⟩ := winB_is (E := eU8) (by decide) (by rw [← deU8_all hb]; exact hw)
      refine call_ok ok known0_ok (L := bs.length + 9) (n := 2) ((crc_Sum_eq (bs.length + 9) l σ _).trans ?_)
      exact crc_L3 (by omega) hl hs bs.length 0 (bs.length + 9) 4294967295 (by omega) (by omega)
    · cases h
  · cases h
end Go.Abs.TE
