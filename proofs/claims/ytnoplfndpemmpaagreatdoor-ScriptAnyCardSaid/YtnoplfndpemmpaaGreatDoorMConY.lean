/-
Contracts of vary: numbers' bytes behind others.
Contracts of vary: taking numbers.
Contracts of vary's reader.
Contracts: slices.Repeat of one cell, blank lines.
A closed run: what it stands on (Run5).
Contracts: flags, crc.Sum.
Contracts: a reader's texts, and the op that it has next.
Contracts: script.take, script.Decode.
Contract: script.Decode.
Contracts: vary.PutText, script.Encode.
Contracts of the law's own: tamed ops, the same ops.
-/
import Derived.Test.YtnoplfndpemmpaaGreatDoorAbsO
import Derived.Test.YtnoplfndpemmpaaGreatDoorEqE0
import Derived.Test.YtnoplfndpemmpaaGreatDoorEqE1
import Derived.Test.YtnoplfndpemmpaaGreatDoorEqE2
import Derived.Test.YtnoplfndpemmpaaGreatDoorEqE3
namespace Go.Abs.TE
open Go Go.Abs Go.Proofs

def eU64 : El Int := ⟨1, fun n => [.int .u64 n], fun _ => rfl, fun a b h => by simpa using h⟩
instance : El.Flat eU64 := ⟨fun _ => rfl⟩
theorem u64_cell {s : Sl} {σ : Heap} {l : List Int} (h : s.Is eU64 σ l) {i : Nat} {x : Int} (hi : l[i]? = some x) : ∃ b, s.b = some b ∧ σ.cell? b (s.o + i * 1) = some (.int .u64 x) := by
  obtain ⟨b, hb, hc⟩ := h.cell hi
  exact ⟨b, hb, hc 0 (by decide)⟩
theorem u8_wrap (n : Nat) : IntKind.u8.wrap (n : Int) = ((UInt8.ofNat n).toNat : Int) := by
  rw [IntKind.wrap_u8]
  simp
theorem u8_or128 (n : Nat) : IntKind.u8.wrap (BitVec.ofInt IntKind.u8.bits (IntKind.u8.wrap (n : Int)) ||| BitVec.ofInt IntKind.u8.bits 128).toNat = ((UInt8.ofNat (n % 128 + 128)).toNat : Int) := by
  rw [BitVec.toNat_or]
  have e1 : (BitVec.ofInt IntKind.u8.bits (IntKind.u8.wrap (n : Int))).toNat = n % 256 := by
    rw [IntKind.wrap_u8]
    show (BitVec.ofInt 8 ((n : Int) % 256)).toNat = _
    rw [BitVec.toNat_ofInt]
    omega
  have e2 : (BitVec.ofInt IntKind.u8.bits 128).toNat = 128 := by decide
  rw [e1, e2]
  have key : ∀ m : Fin 256, (m.val ||| 128) = m.val % 128 + 128 := by decide +kernel
  have := key ⟨n % 256, Nat.mod_lt _ (by omega)⟩
  simp only at this
  rw [this, u8_wrap]
  congr 2
  congr 1
  omega
theorem fdiv128 (n : Nat) : Int.fdiv (n : Int) (2 ^ 7) = ((n / 128 : Nat) : Int) := by
  rw [Int.fdiv_eq_ediv_of_nonneg _ (by decide)]
  simp

theorem vary_Put_L4_ok {R : Type} {L : Nat} {l : Sl} {x : Int} {fu : Nat} {σ0 : Heap} {s : Sl} {K : AVal → Heap → Option R} :
    ∀ (k n m : Nat) (b : Sl) (σ : Heap) (ys : List UInt8), n < 128 ^ k → k < m → Grown eU8 s σ0 b σ ys → ys.length + k ≤ 2000000 →
      ∃ b1 σ1, Grown eU8 s σ0 b1 σ1 (ys ++ vput n) ∧ (∀ c, b1.b = some c → σ0.length ≤ c) ∧
        vary_Put_L4 L fu m b (n : Int) l x σ K = vary_Put_L2 L fu b1 l (IntKind.i64.wrap (x + 1)) σ1 K
  | k, n, 0, _, _, _, _, h, _, _ => by omega
  | k, n, m + 1, b, σ, ys, hn, hm, hg, hl => by
    rw [vary_Put_L4_eq]
    by_cases h : n < 128
    · rw [show decide ((n : Int) ≥ 128) = false by simp; omega, cond_false, u8_wrap]
      obtain ⟨q, σ', h1, h2, h3⟩ := hg.append (zs := [UInt8.ofNat n]) (bytes := 1) (vs := [.int .u8 ((UInt8.ofNat n).toNat : Int)]) (k := 1) rfl rfl (by simp) (by simp; omega) (by simp; omega)
      have h1' : σ.append b.b b.o b.n 1 1 [.int .u8 ((UInt8.ofNat n).toNat : Int)] 1 = some (q, σ') := h1
      rw [h1', Option.bind_some, vput_lt h]
      exact ⟨_, _, h2, h3, rfl⟩
    · cases k with
      | zero => simp at hn; omega
      | succ k =>
        rw [show decide ((n : Int) ≥ 128) = true by simp; omega, cond_true, u8_or128, fdiv128]
        obtain ⟨q, σ', h1, h2, h3⟩ := hg.append (zs := [UInt8.ofNat (n % 128 + 128)]) (bytes := 1) (vs := [.int .u8 ((UInt8.ofNat (n % 128 + 128)).toNat : Int)]) (k := 1) rfl rfl (by simp) (by simp; omega) (by simp; omega)
        have h1' : σ.append b.b b.o b.n 1 1 [.int .u8 ((UInt8.ofNat (n % 128 + 128)).toNat : Int)] 1 = some (q, σ') := h1
        obtain ⟨b1, σ1, k1, k2, k3⟩ := vary_Put_L4_ok (L := L) (l := l) (x := x) (fu := fu) (K := K) k (n / 128) m ⟨q.1, q.2.1, q.2.2⟩ σ' _ (by rw [Nat.div_lt_iff_lt_mul (by omega), ← Nat.pow_succ]; exact hn) (by omega) h2 (by simp; omega)
        refine ⟨b1, σ1, ?_, k2, ?_⟩
        · rw [vput_ge (by omega)]
          simpa using k1
        · rw [h1', Option.bind_some]
          exact k3
theorem vary_Put_loop {R : Type} {L : Nat} {l s : Sl} {σ0 : Heap} {K : AVal → Heap → Option R} {ns : List Nat} (hL : 10 < L) (hl : l.Is eU64 σ0 (ns.map Int.ofNat)) (hne : ∀ b, s.b = some b → l.b ≠ some b) (hns : ∀ n ∈ ns, n < 18446744073709551616) :
    ∀ (d i m : Nat) (b : Sl) (σ : Heap) (ys : List UInt8), i + d = ns.length → d < m → Grown eU8 s σ0 b σ ys → ys.length + 10 * d ≤ 1000000 → (0 < i → ∀ c, b.b = some c → σ0.length ≤ c) →
      ∃ b1 σ1, Grown eU8 s σ0 b1 σ1 (ys ++ vputs (ns.drop i)) ∧ (0 < ns.length → ∀ c, b1.b = some c → σ0.length ≤ c) ∧ vary_Put_L2 L m b l (i : Int) σ K = K (.slice b1.b b1.o b1.n 1) σ1
  | d, i, 0, _, _, _, _, h, _, _, _ => by omega
  | 0, i, m + 1, b, σ, ys, h, _, hg, _, hi => by
    refine ⟨b, σ, ?_, fun h0 => hi (by omega), ?_⟩
    · rw [List.drop_eq_nil_of_le (by omega), vputs, List.append_nil]; exact hg
    · rw [vary_Put_L2_eq, hl.n, List.length_map, lt_false (by omega)]
      rfl
  | d + 1, i, m + 1, b, σ, ys, h, hm, hg, hb, _ => by
    have hi : i < ns.length := by omega
    have hl' := hl.kept hg.kept hne
    have hs := hl.small
    rw [List.length_map] at hs
    obtain ⟨c, hc, f0⟩ := u64_cell hl' (i := i) (x := (ns[i] : Int)) (by rw [List.getElem?_map, List.getElem?_eq_getElem hi]; rfl)
    have hn := hns ns[i] (List.getElem_mem hi)
    obtain ⟨b1, σ1, k1, k2, k3⟩ := vary_Put_L4_ok (L := L) (l := l) (x := (i : Int)) (fu := m) (K := K) 10 ns[i] L b σ ys (Nat.lt_of_lt_of_le hn (by decide)) hL hg (by omega)
    have hvl := vput_len10 hn
    obtain ⟨b2, σ2, j1, j2, j3⟩ := vary_Put_loop (K := K) hL hl hne hns d (i + 1) m b1 σ1 (ys ++ vput ns[i]) (by omega) (by omega) k1 (by simp; omega) (fun _ => k2)
    refine ⟨b2, σ2, ?_, j2, ?_⟩
    · rw [List.drop_eq_getElem_cons hi, vputs]
      simpa using j1
    · rw [vary_Put_L2_eq]
      simp only [hl.n, List.length_map, dec0, lt_true hi, Bool.and_self, cond_true, hc, Option.bind_some, Int.toNat_natCast, f0, int?, if_true]
      rw [k3, wrap_i64_succ i (by omega)]
      exact j3

structure PutPre (s l : Sl) (σ : Heap) (ys : List UInt8) (ns : List Nat) : Prop where
  own : s.Own eU8 σ ys
  nums : l.Is eU64 σ (ns.map Int.ofNat)
  ne : ns ≠ []
  lt : ∀ n ∈ ns, n < 18446744073709551616
  small : ys.length + 10 * ns.length ≤ 1000000
  apart : ∀ b, s.b = some b → l.b ≠ some b
noncomputable def w_vary_Put (s l : Sl) (σ : Heap) : Option (Sl × Heap) := wOf (fun p : List UInt8 × List Nat => PutPre s l σ p.1 p.2) fun p => grow eU8 σ s (p.1 ++ vputs p.2)
theorem w_vary_Put_eq {s l : Sl} {σ : Heap} {ys : List UInt8} {ns : List Nat} (h : PutPre s l σ ys ns) : w_vary_Put s l σ = some (grow eU8 σ s (ys ++ vputs ns)) :=
  wOf_eq (x := (ys, ns)) h fun p hp => by
    obtain ⟨y, n⟩ := p
    rw [show y = ys from hp.own.uniq (by decide) h.own]
    have : n = ns := by
      have e := hp.nums.uniq (by decide) h.nums
      exact List.map_inj_right (fun a b h => Int.ofNat.inj h) |>.1 e
    rw [this]
theorem ok_vary_Put : Ok_vary_Put w_vary_Put := fun s l σ v σ' h => by
  obtain ⟨⟨ys, ns⟩, hp, e⟩ := wOf_some h
  obtain ⟨rfl, rfl⟩ : v = (grow eU8 σ s (ys ++ vputs ns)).1 ∧ σ' = (grow eU8 σ s (ys ++ vputs ns)).2 := by rw [e]; exact ⟨rfl, rfl⟩
  have hsm := hp.small
  simp only at hsm
  obtain ⟨b1, σ1, k1, k2, k3⟩ := vary_Put_loop (R := AVal × Heap) (L := ns.length + 11) (K := fun v σ => some (v, σ)) (by omega) hp.nums hp.apart hp.lt ns.length 0 (ns.length + 11) s σ ys (by simp) (by omega) (Grown.start hp.own) (by omega) (fun h => by omega)
  rw [List.drop_zero] at k1
  exact call_grow (call_ok ok known0_ok (L := ns.length + 11) (n := 2) ((vary_Put_eq (ns.length + 11) s l σ _).trans k3)) hp.own k1.own (by
    intro e
    exact vputs_ne hp.ne (List.append_eq_nil_iff.1 e).2) k1.kept (k2 (List.length_pos_iff.2 hp.ne))
end Go.Abs.TE
namespace Go.Abs.TE
open Go Go.Abs Go.Proofs

theorem and127 (c : UInt8) : IntKind.u8.wrap (BitVec.ofInt IntKind.u8.bits (c.toNat : Int) &&& BitVec.ofInt IntKind.u8.bits 127).toNat = ((c.toNat % 128 : Nat) : Int) := by
  have hc := c.toNat_lt
  rw [BitVec.toNat_and]
  have e1 : (BitVec.ofInt IntKind.u8.bits (c.toNat : Int)).toNat = c.toNat := by
    show (BitVec.ofInt 8 (c.toNat : Int)).toNat = _
    rw [BitVec.toNat_ofInt]
    omega
  have e2 : (BitVec.ofInt IntKind.u8.bits 127).toNat = 127 := by decide
  rw [e1, e2]
  have key : ∀ m : Fin 256, (m.val &&& 127) = m.val % 128 := by decide +kernel
  have := key ⟨c.toNat, hc⟩
  simp only at this
  rw [this, IntKind.wrap_u8]
  omega
theorem pow7 {i : Nat} (h : i ≤ 9) : 2 ^ (7 * i) ≤ 9223372036854775808 := by
  have : 2 ^ (7 * i) ≤ 2 ^ 63 := Nat.pow_le_pow_right (by decide) (by omega)
  exact this
theorem take_step {n i : Nat} {c : UInt8} (hn : n < 2 ^ (7 * i)) (hi : i ≤ 9) (hc : i = 9 → c.toNat ≤ 1) :
    n + c.toNat % 128 * 2 ^ (7 * i) < 18446744073709551616 ∧ (i < 9 → n + c.toNat % 128 * 2 ^ (7 * i) < 2 ^ (7 * (i + 1))) := by
  have hp := pow7 hi
  constructor
  · by_cases h : i = 9
    · subst h
      have := hc rfl
      have h1 : c.toNat % 128 ≤ 1 := by omega
      have : c.toNat % 128 * 2 ^ (7 * 9) ≤ 1 * 2 ^ (7 * 9) := Nat.mul_le_mul_right _ h1
      have e : (2 : Nat) ^ (7 * 9) = 9223372036854775808 := by decide
      omega
    · have h1 : c.toNat % 128 ≤ 127 := by omega
      have h2 : c.toNat % 128 * 2 ^ (7 * i) ≤ 127 * 2 ^ (7 * i) := Nat.mul_le_mul_right _ h1
      have h3 : 2 ^ (7 * i) ≤ 2 ^ 56 := Nat.pow_le_pow_right (by decide) (by omega)
      have e : (2 : Nat) ^ 56 = 72057594037927936 := by decide
      omega
  · intro h
    have h1 : c.toNat % 128 ≤ 127 := by omega
    have h2 : c.toNat % 128 * 2 ^ (7 * i) ≤ 127 * 2 ^ (7 * i) := Nat.mul_le_mul_right _ h1
    rw [show 7 * (i + 1) = 7 * i + 7 by omega, Nat.pow_add]
    omega
theorem take_or {n i : Nat} {c : UInt8} (hn : n < 2 ^ (7 * i)) (hi : i ≤ 9) (hc : i = 9 → c.toNat ≤ 1) :
    IntKind.u64.wrap (BitVec.ofInt IntKind.u64.bits (n : Int) ||| BitVec.ofInt IntKind.u64.bits (IntKind.u64.wrap ((IntKind.u64.wrap ((c.toNat % 128 : Nat) : Int)) * 2 ^ (min (IntKind.i64.wrap (7 * (i : Int))).toNat IntKind.u64.bits)))).toNat = ((n + c.toNat % 128 * 2 ^ (7 * i) : Nat) : Int) := by
  have hs := (take_step (c := c) hn hi hc).1
  have hp := pow7 hi
  rw [show IntKind.i64.wrap (7 * (i : Int)) = ((7 * i : Nat) : Int) by rw [wrap_i64_of (by omega) (by omega)]; simp, Int.toNat_natCast, show min (7 * i) IntKind.u64.bits = 7 * i by have : IntKind.u64.bits = 64 := rfl; omega]
  rw [IntKind.wrap_u64, IntKind.wrap_u64, IntKind.wrap_u64]
  rw [show ((c.toNat % 128 : Nat) : Int) % 18446744073709551616 = ((c.toNat % 128 : Nat) : Int) by omega]
  rw [show (((c.toNat % 128 : Nat) : Int) * 2 ^ (7 * i)) = ((c.toNat % 128 * 2 ^ (7 * i) : Nat) : Int) by simp]
  rw [show ((c.toNat % 128 * 2 ^ (7 * i) : Nat) : Int) % 18446744073709551616 = ((c.toNat % 128 * 2 ^ (7 * i) : Nat) : Int) by omega]
  rw [BitVec.toNat_or]
  have e : ∀ m : Nat, m < 18446744073709551616 → (BitVec.ofInt IntKind.u64.bits (m : Int)).toNat = m := fun m hm => by
    show (BitVec.ofInt 64 (m : Int)).toNat = _
    rw [BitVec.toNat_ofInt]
    omega
  rw [e n (by omega), e _ (by omega)]
  have := Nat.two_pow_add_eq_or_of_lt hn (c.toNat % 128)
  rw [Nat.or_comm, Nat.mul_comm, ← this, Nat.mul_comm]
  omega
theorem vary_Take_loop {R : Type} {L : Nat} {b : Sl} {σ : Heap} {K : AVal → Heap → Option R} {xs : List UInt8} (hb : b.Is eU8 σ xs) :
    ∀ (d i m n : Nat), i + d = xs.length → d < m → (i ≤ 9 → n < 2 ^ (7 * i)) → vary_Take_L3 L m (n : Int) b (i : Int) σ K = K (.tuple [.int .u64 ((vtakeGo i n (xs.drop i)).1 : Int), .int .i64 ((vtakeGo i n (xs.drop i)).2 : Int)]) σ
  | d, i, 0, _, _, h, _ => by omega
  | 0, i, m + 1, n, h, _, _ => by
    rw [vary_Take_L3_eq, hb.n, lt_false (by omega), cond_false, List.drop_eq_nil_of_le (by omega)]
    rfl
  | d + 1, i, m + 1, n, h, hm, hn => by
    have hi : i < xs.length := by omega
    have hs := hb.small
    obtain ⟨c, hc, f0⟩ := u8_cell hb (List.getElem?_eq_getElem hi)
    rw [vary_Take_L3_eq]
    simp only [hb.n, dec0, lt_true hi, Bool.and_self, cond_true, hc, Option.bind_some, Int.toNat_natCast, f0, int?, if_true, and127, wrap_i64_succ i (by omega)]
    rw [List.drop_eq_getElem_cons hi]
    by_cases h9 : i > 9
    · have ev : vtakeGo i n (xs[i] :: xs.drop (i + 1)) = (0, 0) := by rw [vtakeGo]; exact if_pos (.inr h9)
      rw [ev, show ((i : Int) == 9) = false by simp; omega, cond_false, show decide ((i : Int) > 9) = true by simp; omega, cond_true]
      rfl
    · by_cases h8 : i = 9 ∧ xs[i].toNat > 1
      · have ev : vtakeGo i n (xs[i] :: xs.drop (i + 1)) = (0, 0) := by rw [vtakeGo]; exact if_pos (.inl h8)
        rw [ev, show ((i : Int) == 9) = true by simp; omega, cond_true, show decide (((xs[i].toNat : Nat) : Int) > 1) = true by simp; omega, cond_true]
        rfl
      · have hor := take_or (c := xs[i]) (hn (by omega)) (by omega) (fun e => by omega)
        have hst := (take_step (c := xs[i]) (hn (by omega)) (by omega) (fun e => by omega)).2
        have hng : ¬ IntKind.i64.wrap (7 * (i : Int)) < 0 := by rw [wrap_i64_of (by omega) (by omega)]; omega
        have ih := vary_Take_loop (L := L) (K := K) hb d (i + 1) m (n + xs[i].toNat % 128 * 2 ^ (7 * i)) (by omega) (by omega) (fun h => hst (by omega))
        rw [show decide ((i : Int) > 9) = false by simp; omega]
        simp only [cond_false, if_neg hng, hor, ih]
        generalize hN : n + xs[i].toNat % 128 * 2 ^ (7 * i) = N
        have hcond : ¬ ((i = 9 ∧ xs[i].toNat > 1) ∨ i > 9) := fun h => h.elim h8 h9
        have ev : vtakeGo i n (xs[i] :: xs.drop (i + 1)) = (if xs[i].toNat < 128 then (if xs[i].toNat = 0 ∧ i > 0 then (0, 0) else (N, i + 1)) else vtakeGo (i + 1) N (xs.drop (i + 1))) := by
          rw [vtakeGo, if_neg hcond, hN]
        rw [ev]
        have tail : (bif decide (((xs[i].toNat : Nat) : Int) < 128) then (bif (((xs[i].toNat : Nat) : Int) == 0) then (bif decide ((i : Int) > 0) then K (.tuple [.int .u64 0, .int .i64 0]) σ else K (.tuple [.int .u64 (N : Int), .int .i64 ((i + 1 : Nat) : Int)]) σ) else K (.tuple [.int .u64 (N : Int), .int .i64 ((i + 1 : Nat) : Int)]) σ)
            else K (.tuple [.int .u64 ((vtakeGo (i + 1) N (xs.drop (i + 1))).1 : Int), .int .i64 ((vtakeGo (i + 1) N (xs.drop (i + 1))).2 : Int)]) σ) =
            K (.tuple [.int .u64 (((if xs[i].toNat < 128 then (if xs[i].toNat = 0 ∧ i > 0 then (0, 0) else (N, i + 1)) else vtakeGo (i + 1) N (xs.drop (i + 1))).1 : Nat) : Int), .int .i64 (((if xs[i].toNat < 128 then (if xs[i].toNat = 0 ∧ i > 0 then (0, 0) else (N, i + 1)) else vtakeGo (i + 1) N (xs.drop (i + 1))).2 : Nat) : Int)]) σ := by
          by_cases a1 : xs[i].toNat < 128
          · rw [show decide (((xs[i].toNat : Nat) : Int) < 128) = true by simp; omega, cond_true, if_pos a1]
            by_cases a2 : xs[i].toNat = 0
            · rw [show (((xs[i].toNat : Nat) : Int) == 0) = true by rw [a2]; rfl, cond_true]
              by_cases a3 : i > 0
              · rw [show decide ((i : Int) > 0) = true by simp; omega, cond_true, if_pos ⟨a2, a3⟩]
                rfl
              · rw [show decide ((i : Int) > 0) = false by simp; omega, cond_false, if_neg (fun h => a3 h.2)]
            · rw [show (((xs[i].toNat : Nat) : Int) == 0) = false by rw [beq_eq_false_iff_ne]; omega, cond_false, if_neg (fun h => a2 h.1)]
          · rw [show decide (((xs[i].toNat : Nat) : Int) < 128) = false by simp; omega, cond_false, if_neg a1]
        by_cases e9 : i = 9
        · rw [show ((i : Int) == 9) = true by simp; omega, cond_true, show decide (((xs[i].toNat : Nat) : Int) > 1) = false by rw [decide_eq_false_iff_not]; omega, cond_false]
          exact tail
        · rw [show ((i : Int) == 9) = false by simp; omega, cond_false]
          exact tail
noncomputable def w_vary_Take (b : Sl) (σ : Heap) : Option ((Int × Int) × Heap) := wOf (fun xs => b.Is eU8 σ xs) fun xs => (((vtake xs).1, (vtake xs).2), σ)
theorem w_vary_Take_eq {b : Sl} {σ : Heap} {xs : List UInt8} (h : b.Is eU8 σ xs) : w_vary_Take b σ = some ((((vtake xs).1 : Int), ((vtake xs).2 : Int)), σ) :=
  wOf_eq h fun y hy => by rw [hy.uniq (by decide) h]
theorem ok_vary_Take : Ok_vary_Take w_vary_Take := fun b σ v σ' h => by
  obtain ⟨xs, hb, e⟩ := wOf_some h
  injection e with e1 e2
  subst e1; subst e2
  exact call_ok ok known0_ok (L := xs.length + 1) (n := 2) ((vary_Take_eq (xs.length + 1) b σ _).trans (vary_Take_loop hb xs.length 0 (xs.length + 1) 0 (by simp) (by omega) (fun _ => by simp)))
end Go.Abs.TE
namespace Go.Abs.TE
open Go Go.Abs Go.Proofs

/-- A reader lies there. -/
def Rdr (σ : Heap) (p : Nat) (s : Sl) (bad : Bool) : Prop := σ[p]? = some (.row [.slice s.b s.o s.n 1, .bool bad] .rw)
def setR (σ : Heap) (p : Nat) (s : Sl) (bad : Bool) : Heap := σ.set p (.row [.slice s.b s.o s.n 1, .bool bad] .rw)
section
variable {σ : Heap} {p : Nat} {s : Sl} {bad : Bool}
theorem Rdr.lt (h : Rdr σ p s bad) : p < σ.length := (List.getElem?_eq_some_iff.1 h).1
theorem Rdr.row (h : Rdr σ p s bad) : σ.row? p = some [.slice s.b s.o s.n 1, .bool bad] := row?_of h (by simp)
theorem Rdr.cell0 (h : Rdr σ p s bad) : slice? (σ.cell? p 0) 1 = some (s.b, s.o, s.n) := by
  unfold Heap.cell?
  rw [h.row]
  rfl
theorem Rdr.cell1 (h : Rdr σ p s bad) : bool? (σ.cell? p (0 + 1)) = some bad := by
  unfold Heap.cell?
  rw [h.row]
  rfl
theorem Rdr.set (h : Rdr σ p s bad) (s' : Sl) (bad' : Bool) : Rdr (setR σ p s' bad') p s' bad' := by
  unfold Rdr setR
  exact List.getElem?_set_self h.lt
theorem Rdr.set_bad (h : Rdr σ p s bad) (b : Bool) : σ.store p (0 + 1) [.bool b] = some (setR σ p s b) := by
  unfold Heap.store
  unfold Rdr at h
  rw [h]
  rfl
theorem Rdr.set_sl (h : Rdr σ p s bad) (t : Sl) : σ.store p 0 [.slice t.b t.o t.n 1] = some (setR σ p t bad) := by
  unfold Heap.store
  unfold Rdr at h
  rw [h]
  rfl
theorem Rdr.uniq {s' : Sl} {bad' : Bool} (h : Rdr σ p s bad) (h' : Rdr σ p s' bad') : s = s' ∧ bad = bad' := by
  unfold Rdr at h h'
  rw [h] at h'
  simp at h'
  obtain ⟨⟨h1, h2, h3⟩, h4⟩ := h'
  refine ⟨?_, h4⟩
  cases s; cases s'
  simp at h1 h2 h3
  rw [h1, h2, h3]
theorem setR_len : (setR σ p s bad).length = σ.length := by simp [setR]
theorem setR_ne {b : Nat} (h : b ≠ p) : (setR σ p s bad)[b]? = σ[b]? := List.getElem?_set_ne (Ne.symm h)
end
/-- A limit: 0 or less: any number. -/
def limN (limit : Int) : Nat := if 0 < limit then limit.toNat else 9223372036854775808
/-- Is there a number below a limit? -/
def numOK (bad : Bool) (xs : List UInt8) (limit : Int) : Bool := !bad && decide ((vtake xs).2 ≠ 0 ∧ (vtake xs).1 < limN limit)
structure NumPre (r : Pt) (limit : Int) (σ : Heap) (p : Nat) (s : Sl) (bad : Bool) (xs : List UInt8) : Prop where
  at_ : r = some (p, 0)
  rdr : Rdr σ p s bad
  is : s.Is eU8 σ xs
  l1 : limit ≤ 9223372036854775807
def numRes (limit : Int) (σ : Heap) (p : Nat) (s : Sl) (bad : Bool) (xs : List UInt8) : Int × Heap :=
  bif numOK bad xs limit then (((vtake xs).1 : Int), setR σ p ⟨s.b, s.o + (vtake xs).2 * 1, s.n - (vtake xs).2⟩ bad) else (0, setR σ p s true)
noncomputable def w_vary_Reader_Num (r : Pt) (limit : Int) (σ : Heap) : Option (Int × Heap) :=
  wOf (fun t : Nat × Sl × Bool × List UInt8 => NumPre r limit σ t.1 t.2.1 t.2.2.1 t.2.2.2) fun t => numRes limit σ t.1 t.2.1 t.2.2.1 t.2.2.2
theorem w_vary_Reader_Num_eq {r : Pt} {limit : Int} {σ : Heap} {p : Nat} {s : Sl} {bad : Bool} {xs : List UInt8} (h : NumPre r limit σ p s bad xs) : w_vary_Reader_Num r limit σ = some (numRes limit σ p s bad xs) :=
  wOf_eq (x := (p, s, bad, xs)) h fun y hy => by
    obtain ⟨p', s', bad', xs'⟩ := y
    have e1 := hy.at_
    rw [h.at_] at e1
    simp at e1
    subst e1
    obtain ⟨e2, e3⟩ := h.rdr.uniq hy.rdr
    simp only at e2 e3
    subst e2; subst e3
    rw [show xs' = xs from hy.is.uniq (by decide) h.is]
noncomputable def c_vary_Reader_Num : C_vary_Reader_Num := ⟨w_vary_Take⟩
theorem ok_vary_Reader_Num : Ok_vary_Reader_Num w_vary_Reader_Num := fun r limit σ v σ' h => by
  obtain ⟨⟨p, s, bad, xs⟩, hp, e⟩ := wOf_some h
  obtain ⟨rfl, hr, hs, l1⟩ := hp
  simp only at hr hs
  obtain ⟨rfl, rfl⟩ : v = (numRes limit σ p s bad xs).1 ∧ σ' = (numRes limit σ p s bad xs).2 := by rw [e]; exact ⟨rfl, rfl⟩
  refine call_ok ok (K_vary_Reader_Num c_vary_Reader_Num ok_vary_Take) (L := 0) (n := 2) ((vary_Reader_Num_eq c_vary_Reader_Num 0 (some (p, 0)) limit σ _).trans ?_)
  have p1 : c_vary_Reader_Num.vary_Take = w_vary_Take := rfl
  have hk := vtake_le xs
  have hT : w_vary_Take ⟨s.b, s.o, s.n⟩ σ = some ((((vtake xs).1 : Int), ((vtake xs).2 : Int)), σ) := w_vary_Take_eq hs
  simp only [Option.bind_some, hr.cell0, p1, hT, hr.cell1, hr.set_bad]
  show _ = some (AVal.int .i64 (numRes limit σ p s bad xs).1, (numRes limit σ p s bad xs).2)
  have bad_res : numOK bad xs limit = false → numRes limit σ p s bad xs = (0, setR σ p s true) := fun h => by unfold numRes; rw [h]; rfl
  have hlim : (0 < limit ∧ (limN limit : Int) = limit) ∨ (¬ 0 < limit ∧ limN limit = 9223372036854775808) := by
    unfold limN
    split
    · left; omega
    · right; exact ⟨by assumption, rfl⟩
  cases bad with
  | true =>
    rw [bad_res rfl]
    rfl
  | false =>
    simp only [cond_false]
    by_cases h0 : (vtake xs).2 = 0
    · rw [show (((vtake xs).2 : Int) == 0) = true by rw [h0]; rfl, cond_true, bad_res (by simp [numOK, h0])]
    · rw [show (((vtake xs).2 : Int) == 0) = false by rw [beq_eq_false_iff_ne]; omega, cond_false]
      by_cases h1 : (vtake xs).1 < limN limit
      · have good : numOK false xs limit = true := by simp [numOK, h0, h1]
        have hst := hr.set_sl ⟨s.b, s.o + (vtake xs).2 * 1, xs.length - (vtake xs).2⟩
        simp only at hst
        rw [show decide (((vtake xs).1 : Int) > 9223372036854775807) = false by rw [decide_eq_false_iff_not]; omega, cond_false]
        rcases hlim with ⟨c1, c2⟩ | ⟨c1, c2⟩
        · rw [show decide (limit > 0) = true by simpa using c1, cond_true,
            show decide (((vtake xs).1 : Int) ≥ IntKind.u64.wrap limit) = false by rw [decide_eq_false_iff_not, IntKind.wrap_u64]; omega, cond_false]
          simp only [dec0, hs.n, show decide (((vtake xs).2 : Int) ≤ (xs.length : Int)) = true by simpa using hk, Int.le_refl, decide_true, Bool.and_self, cond_true, Int.toNat_natCast]
          rw [hst, Option.bind_some, wrap_i64_of (by omega) (by omega)]
          unfold numRes
          rw [good, hs.n]
          rfl
        · rw [show decide (limit > 0) = false by simpa using c1, cond_false]
          simp only [dec0, hs.n, show decide (((vtake xs).2 : Int) ≤ (xs.length : Int)) = true by simpa using hk, Int.le_refl, decide_true, Bool.and_self, cond_true, Int.toNat_natCast]
          rw [hst, Option.bind_some, wrap_i64_of (by omega) (by omega)]
          unfold numRes
          rw [good, hs.n]
          rfl
      · rw [bad_res (by simp [numOK, h1])]
        by_cases h2 : ((vtake xs).1 : Int) > 9223372036854775807
        · rw [decide_eq_true h2, cond_true]
        · rcases hlim with ⟨c1, c2⟩ | ⟨c1, c2⟩
          · rw [decide_eq_false h2, cond_false, show decide (limit > 0) = true by simpa using c1, cond_true,
              show decide (((vtake xs).1 : Int) ≥ IntKind.u64.wrap limit) = true by rw [decide_eq_true_iff, IntKind.wrap_u64]; omega, cond_true]
          · omega

noncomputable def w_vary_Reader_Good (r : Pt) (σ : Heap) : Option (Bool × Heap) := wOf (fun t : Nat × Bool => r = some (t.1, 0) ∧ bool? (σ.cell? t.1 (0 + 1)) = some t.2) fun t => (!t.2, σ)
theorem w_vary_Reader_Good_eq {σ : Heap} {p : Nat} {bad : Bool} (h : bool? (σ.cell? p (0 + 1)) = some bad) : w_vary_Reader_Good (some (p, 0)) σ = some (!bad, σ) :=
  wOf_eq (x := (p, bad)) ⟨rfl, h⟩ fun y hy => by
    obtain ⟨p', bad'⟩ := y
    obtain ⟨e1, e2⟩ := hy
    simp at e1
    subst e1
    simp only at e2
    rw [h] at e2
    injection e2 with e2
    rw [e2]
theorem ok_vary_Reader_Good : Ok_vary_Reader_Good w_vary_Reader_Good := fun r σ v σ' h => by
  obtain ⟨⟨p, bad⟩, ⟨rfl, hr⟩, e⟩ := wOf_some h
  injection e with e1 e2
  subst e1; subst e2
  refine call_ok ok known0_ok (L := 0) (n := 2) ((vary_Reader_Good_eq 0 (some (p, 0)) σ _).trans ?_)
  simp only at hr
  simp only [Option.bind_some, hr]
  rfl
def w_vary_Of (b : Sl) (σ : Heap) : Option (Pt × Heap) := some (some (σ.length, 0), σ ++ [.row [.slice b.b b.o b.n 1, .bool false] .rw])
theorem ok_vary_Of : Ok_vary_Of w_vary_Of := fun b σ v σ' h => by
  injection h with h; injection h with h1 h2; subst h1; subst h2
  exact call_ok ok known0_ok (L := 0) (n := 2) (vary_Of_eq 0 b σ _)

/-! What a reader has left -/
/-- 'c': the block of its bytes. -/
structure RdAt (σ : Heap) (p : Nat) (c : Option Nat) (st : RS) : Prop where
  ex : ∃ s xs, Rdr σ p s st.isNone ∧ s.Is eU8 σ xs ∧ s.b = c ∧ c ≠ some p ∧ (st = none ∨ st = some xs)
/-- All other blocks are as they were. -/
structure But (p : Nat) (σ σ' : Heap) : Prop where
  len : σ'.length = σ.length
  at_ : ∀ b, b ≠ p → σ'[b]? = σ[b]?
theorem But.refl (p : Nat) (σ : Heap) : But p σ σ := ⟨rfl, fun _ _ => rfl⟩
theorem But.trans {p : Nat} {σ σ' σ'' : Heap} (h : But p σ σ') (k : But p σ' σ'') : But p σ σ'' := ⟨k.len.trans h.len, fun b hb => (k.at_ b hb).trans (h.at_ b hb)⟩
theorem but_set (σ : Heap) (p : Nat) (s : Sl) (bad : Bool) : But p σ (setR σ p s bad) := ⟨setR_len, fun _ hb => setR_ne hb⟩
theorem is_set {σ : Heap} {p : Nat} {s t : Sl} {bad : Bool} {xs : List UInt8} (h : s.Is eU8 σ xs) (hne : s.b ≠ some p) : s.Is eU8 (setR σ p t bad) xs :=
  h.of_row fun b cs hb hr => by rw [row?_congr (setR_ne (fun e => hne (by rw [hb, e])))]; exact hr
section
variable {σ σ' : Heap} {p : Nat} {c : Option Nat} {st : RS}
theorem RdAt.lt (h : RdAt σ p c st) : p < σ.length := let ⟨_, _, hr, _⟩ := h.ex; hr.lt
theorem RdAt.of_get (h : RdAt σ p c st) (hp : σ'[p]? = σ[p]?) (hc : ∀ b, c = some b → σ'[b]? = σ[b]?) : RdAt σ' p c st := by
  obtain ⟨s, xs, hr, hs, hb, hne, he⟩ := h.ex
  exact ⟨s, xs, hp.trans hr, hs.of_row fun b cs h1 h2 => by rw [row?_congr (hc b (by rw [← hb, h1]))]; exact h2, hb, hne, he⟩
theorem RdAt.clt (h : RdAt σ p c st) {b : Nat} (hc : c = some b) : b < σ.length := by
  obtain ⟨s, xs, hr, hs, hb, hne, he⟩ := h.ex
  exact hs.lt (hb.trans hc)
theorem RdAt.pre (h : RdAt σ p c st) (hp : σ <+: σ') : RdAt σ' p c st := h.of_get (get_pre hp h.lt) fun _ hc => get_pre hp (h.clt hc)
theorem RdAt.uniq {c' : Option Nat} {st' : RS} (h : RdAt σ p c st) (h' : RdAt σ p c' st') : c = c' ∧ st = st' := by
  obtain ⟨s, xs, hr, hs, hb, hne, he⟩ := h.ex
  obtain ⟨s', xs', hr', hs', hb', hne', he'⟩ := h'.ex
  obtain ⟨e1, e2⟩ := hr.uniq hr'
  subst e1
  refine ⟨hb.symm.trans hb', ?_⟩
  have := hs.uniq (by decide) hs'
  subst this
  rcases he with rfl | rfl <;> rcases he' with rfl | rfl <;> simp_all
theorem RdAt.bad (h : RdAt σ p c st) : bool? (σ.cell? p (0 + 1)) = some st.isNone := let ⟨_, _, hr, _⟩ := h.ex; hr.cell1
end
theorem num_at {σ : Heap} {p : Nat} {c : Option Nat} {st : RS} (h : RdAt σ p c st) {limit : Int} (hl : limit ≤ 9223372036854775807) :
    ∃ σ', w_vary_Reader_Num (some (p, 0)) limit σ = some (((numV (limN limit) st).1 : Int), σ') ∧ RdAt σ' p c (numV (limN limit) st).2 ∧ But p σ σ' := by
  obtain ⟨s, xs, hr, hs, hb, hne, he⟩ := h.ex
  have hne' : s.b ≠ some p := by rw [hb]; exact hne
  rw [w_vary_Reader_Num_eq ⟨rfl, hr, hs, hl⟩]
  unfold numRes
  rcases he with rfl | rfl
  · have : numOK (none : RS).isNone xs limit = false := rfl
    rw [this, cond_false, numV_none]
    exact ⟨_, rfl, ⟨s, xs, hr.set s true, is_set hs hne', hb, hne, .inl rfl⟩, but_set ..⟩
  · unfold numV
    by_cases hc : (vtake xs).2 ≠ 0 ∧ (vtake xs).1 < limN limit
    · have : numOK (some xs : RS).isNone xs limit = true := by simp [numOK, hc]
      rw [this, cond_true]
      simp only [if_pos hc]
      refine ⟨_, rfl, ⟨_, xs.drop (vtake xs).2, hr.set _ _, is_set (hs.drop (vtake_le xs)) hne', hb, hne, .inr rfl⟩, but_set ..⟩
    · have : numOK (some xs : RS).isNone xs limit = false := by
        unfold numOK
        rw [decide_eq_false hc, Bool.and_false]
      rw [this, cond_false]
      simp only [if_neg hc]
      exact ⟨_, rfl, ⟨s, xs, hr.set s true, is_set hs hne', hb, hne, .inl rfl⟩, but_set ..⟩
theorem good_at {σ : Heap} {p : Nat} {c : Option Nat} {st : RS} (h : RdAt σ p c st) : w_vary_Reader_Good (some (p, 0)) σ = some (st.isSome, σ) := by
  rw [w_vary_Reader_Good_eq h.bad]
  cases st <;> rfl
theorem good_frz {σ : Heap} {p : Nat} {c : Option Nat} {st : RS} (h : RdAt σ p c st) : w_vary_Reader_Good (some (p, 0)) σ.frz = some (st.isSome, σ.frz) := by
  rw [w_vary_Reader_Good_eq (bad := st.isNone) (by rw [Heap.cell?_frz]; exact h.bad)]
  cases st <;> rfl

/-! ### Is there more? -/
noncomputable def w_vary_Reader_Done (r : Pt) (σ : Heap) : Option (Bool × Heap) :=
  wOf (fun t : Nat × Bool × (Option Nat × Nat × Nat) => r = some (t.1, 0) ∧ bool? (σ.cell? t.1 (0 + 1)) = some t.2.1 ∧ slice? (σ.cell? t.1 0) 1 = some t.2.2) fun t => (!t.2.1 && ((t.2.2.2.2 : Int) == 0), σ)
theorem done_at {σ : Heap} {p : Nat} {c : Option Nat} {xs : List UInt8} (h : RdAt σ p c (some xs)) : w_vary_Reader_Done (some (p, 0)) σ = some (xs.isEmpty, σ) := by
  obtain ⟨s, ys, hr, hs, hb, hne, he⟩ := h.ex
  obtain rfl : xs = ys := by rcases he with he | he <;> simp_all
  have e := wOf_eq (P := fun t : Nat × Bool × (Option Nat × Nat × Nat) => some (p, 0) = some (t.1, 0) ∧ bool? (σ.cell? t.1 (0 + 1)) = some t.2.1 ∧ slice? (σ.cell? t.1 0) 1 = some t.2.2) (f := fun t => (!t.2.1 && ((t.2.2.2.2 : Int) == 0), σ)) (x := (p, false, (s.b, s.o, s.n))) ⟨rfl, hr.cell1, hr.cell0⟩ fun y hy => by
    obtain ⟨p', bad', q⟩ := y
    obtain ⟨e1, e2, e3⟩ := hy
    simp at e1
    subst e1
    simp only at e2 e3
    rw [hr.cell1] at e2
    rw [hr.cell0] at e3
    injection e2 with e2
    injection e3 with e3
    rw [← e2, ← e3]
    rfl
  refine e.trans ?_
  simp only [hs.n]
  cases xs with
  | nil => rfl
  | cons x r => rw [show (((x :: r).length : Int) == 0) = false by rw [beq_eq_false_iff_ne]; simp; omega]; rfl
theorem ok_vary_Reader_Done : Ok_vary_Reader_Done w_vary_Reader_Done := fun r σ v σ' h => by
  obtain ⟨⟨p, bad, b, o, n⟩, ⟨rfl, h1, h2⟩, e⟩ := wOf_some h
  injection e with e1 e2
  subst e1; subst e2
  refine call_ok ok known0_ok (L := 0) (n := 2) ((vary_Reader_Done_eq 0 (some (p, 0)) σ _).trans ?_)
  simp only at h1 h2
  simp only [Option.bind_some, h1, h2]
  cases bad <;> rfl
end Go.Abs.TE
namespace Go.Abs.TE
open Go Go.Abs Go.Proofs
def eI64 : El Int := ⟨1, fun n => [.int .i64 n], fun _ => rfl, fun a b h => by simpa using h⟩
instance : El.Flat eI64 := ⟨fun _ => rfl⟩
def eCell : El api_Cell := ⟨6, api_Cell.cells, fun _ => rfl, fun a b h => by
  obtain ⟨r, b0, b1, b2, f, k⟩ := a
  obtain ⟨r', b0', b1', b2', f', k'⟩ := b
  simp [api_Cell.cells] at h
  obtain ⟨rfl, rfl, rfl, rfl, rfl, rfl⟩ := h
  rfl⟩
instance : El.Flat eCell := ⟨fun _ => rfl⟩
def w_cell_Blank (s : api_Style) (σ : Heap) : Option (api_Cell × Heap) := some (⟨32, ⟨false, false, false, 0, s.Back⟩⟩, σ)
theorem ok_cell_Blank : Ok_cell_Blank w_cell_Blank := fun s σ v σ' h => by
  injection h with h; injection h with h1 h2; subst h1; subst h2
  exact call_ok ok known0_ok (L := 0) (n := 2) (cell_Blank_eq 0 s σ _)

/-! ### slices.Repeat of one cell -/
noncomputable def w_math_bits_Mul64 (x y : Int) (σ : Heap) : Option ((Int × Int) × Heap) := wIf (x = 1 ∧ 0 ≤ y ∧ y < 2147483648) ((0, y), σ)
theorem mask32 {y : Int} (h0 : 0 ≤ y) (h1 : y < 2147483648) : IntKind.u64.wrap (BitVec.ofInt IntKind.u64.bits y &&& BitVec.ofInt IntKind.u64.bits 4294967295).toNat = y := by
  obtain ⟨k, rfl⟩ := Int.eq_ofNat_of_zero_le h0
  rw [BitVec.toNat_and]
  have e1 : (BitVec.ofInt IntKind.u64.bits (k : Int)).toNat = k := by
    show (BitVec.ofInt 64 (k : Int)).toNat = _
    rw [BitVec.toNat_ofInt]
    omega
  have e2 : (BitVec.ofInt IntKind.u64.bits 4294967295).toNat = 2 ^ 32 - 1 := by decide
  rw [e1, e2, Nat.and_two_pow_sub_one_eq_mod, IntKind.wrap_u64]
  omega
theorem ok_math_bits_Mul64 : Ok_math_bits_Mul64 w_math_bits_Mul64 := fun x y σ v σ' h => by
  obtain ⟨⟨rfl, h0, h1⟩, e⟩ := wIf_some h
  injection e with e1 e2
  subst e1; subst e2
  refine call_ok ok known0_ok (L := 0) (n := 2) ((math_bits_Mul64_eq 0 1 y σ _).trans ?_)
  have e2 : Int.fdiv y (2 ^ 32) = 0 := by
    rw [Int.fdiv_eq_ediv_of_nonneg _ (by decide)]
    exact Int.ediv_eq_zero_of_lt h0 (by omega)
  have e1 : Int.fdiv 1 (2 ^ 32) = 0 := by decide
  have e3 : IntKind.u64.wrap (BitVec.ofInt IntKind.u64.bits 1 &&& BitVec.ofInt IntKind.u64.bits 4294967295).toNat = 1 := by decide
  have e4 := mask32 h0 h1
  have e5 : IntKind.u64.wrap y = y := by rw [IntKind.wrap_u64]; omega
  have e6 : IntKind.u64.wrap 0 = 0 := by decide
  have e7 : IntKind.u64.wrap (BitVec.ofInt IntKind.u64.bits 0 &&& BitVec.ofInt IntKind.u64.bits 4294967295).toNat = 0 := by decide
  have e8 : Int.fdiv 0 (2 ^ 32) = 0 := by decide
  simp only [e1, e2, e3, e4, e5, e6, e7, e8, Int.zero_mul, Int.mul_zero, Int.one_mul, Int.add_zero]
  rfl
noncomputable def c_math_bits_Mul : C_math_bits_Mul := ⟨w_math_bits_Mul64⟩
noncomputable def w_math_bits_Mul (x y : Int) (σ : Heap) : Option ((Int × Int) × Heap) := w_math_bits_Mul64 x y σ
theorem ok_math_bits_Mul : Ok_math_bits_Mul w_math_bits_Mul := fun x y σ v σ' h => by
  refine call_ok ok (K_math_bits_Mul c_math_bits_Mul ok_math_bits_Mul64) (L := 0) (n := 2) ((math_bits_Mul_eq c_math_bits_Mul 0 x y σ _).trans ?_)
  have p : c_math_bits_Mul.math_bits_Mul64 = w_math_bits_Mul64 := rfl
  have h' : w_math_bits_Mul64 x y σ = some (v, σ') := h
  rw [p, h']
  rfl
theorem rep_all {c : api_Cell} : ∀ (n : Nat), eCell.all (List.replicate n c) = (List.replicate n c.cells).flatten
  | 0 => rfl
  | n + 1 => by
    rw [List.replicate_succ, El.all_cons, rep_all n, List.replicate_succ, List.flatten_cons]
    rfl
/-- The first k of them are c, the others z. -/
def repTo (c z : api_Cell) (k n : Nat) : List api_Cell := List.replicate k c ++ List.replicate (n - k) z
theorem repTo_len {c z : api_Cell} {k n : Nat} (h : k ≤ n) : (repTo c z k n).length = n := by simp [repTo]; omega
theorem overwrite_rep {c z : api_Cell} {k m n : Nat} (h : k + m ≤ n) : overwrite (eCell.all (repTo c z k n)) (k * 6) (eCell.all (List.replicate m c)) = eCell.all (repTo c z (k + m) n) := by
  have e : eCell.all (repTo c z k n) = eCell.all (List.replicate k c) ++ eCell.all (List.replicate m z) ++ eCell.all (List.replicate (n - k - m) z) := by
    have e1 : List.replicate (n - k) z = List.replicate m z ++ List.replicate (n - k - m) z := by rw [List.replicate_append_replicate]; congr 1; omega
    unfold repTo
    rw [e1, El.all_append, El.all_append, List.append_assoc]
  have hl : (eCell.all (List.replicate k c)).length = k * 6 := by rw [El.all_len, List.length_replicate]; rfl
  rw [e]
  have := overwrite_append (eCell.all (List.replicate m c)) (eCell.all (List.replicate k c)) (eCell.all (List.replicate m z)) (eCell.all (List.replicate (n - k - m) z)) (by rw [El.all_len, El.all_len, List.length_replicate, List.length_replicate])
  rw [hl] at this
  rw [this, ← El.all_append, ← El.all_append, List.replicate_append_replicate, show n - k - m = n - (k + m) by omega]
  rfl
theorem store_rep {σ0 σ : Heap} {out : Sl} {c z : api_Cell} {k m n : Nat} (h : Mine eCell σ0 out σ (repTo c z k n)) (hb : out.b.isNone = false) (hk : k + m ≤ n) :
    ∃ b σ', out.b = some b ∧ σ.store b (out.o + k * 6) (eCell.all (List.replicate m c)) = some σ' ∧ Mine eCell σ0 out σ' (repTo c z (k + m) n) := by
  cases hob : out.b with
  | none => rw [hob] at hb; cases hb
  | some b =>
    obtain ⟨σ', h1, h2, h3, h4⟩ := store_own h.own hob (o := k * 6) (vs := eCell.all (List.replicate m c)) (overwrite_rep hk) (by rw [repTo_len hk, repTo_len (by omega)]) (by
      rw [El.all_len, List.length_replicate, repTo_len (by omega)]
      show k * 6 + m * 6 ≤ n * 6
      omega)
    have ho : out.o = 0 := by
      cases h.own with
      | nil hb' _ _ _ => rw [hob] at hb'; cases hb'
      | row _ _ ho _ _ => exact ho
    have hl := h.pre.length_le
    have hn := h.new b hob
    exact ⟨b, σ', rfl, by rw [ho, Nat.zero_add]; exact h1, pre_of_get (by omega) (fun d hd => by rw [h4 d (by omega)]; exact get_pre h.pre hd), h2, h.new⟩
noncomputable def c_slices_Repeat : C_slices_Repeat := ⟨w_math_bits_Mul⟩
theorem slices_Repeat_loop {R : Type} {L : Nat} {out : Sl} {σ0 : Heap} {K : AVal → Heap → Option R} {c z : api_Cell} {n : Nat} (hn : n ≤ 1000000) (hb : out.b.isNone = false) :
    ∀ (d k m : Nat) (σ : Heap), k + d = n → d < m → 0 < k → Mine eCell σ0 out σ (repTo c z k n) →
      ∃ σ1, Mine eCell σ0 out σ1 (List.replicate n c) ∧ slices_Repeat_L8 c_slices_Repeat L m out (k : Int) σ K = K (.slice out.b out.o out.n 6) σ1 := by
  intro d
  induction d using Nat.strongRecOn with
  | ind d ih =>
    intro k m σ hk hm h0 hM
    cases m with
    | zero => omega
    | succ m =>
      have hon : out.n = n := by rw [hM.own.len, repTo_len (by omega)]
      rw [slices_Repeat_L8_eq, hon]
      by_cases hd : d = 0
      · refine ⟨σ, ?_, ?_⟩
        · have : repTo c z k n = List.replicate n c := by unfold repTo; rw [show n - k = 0 by omega, show k = n by omega]; simp
          rw [← this]; exact hM
        · rw [lt_false (show ¬ k < n by omega)]
          rfl
      · have hr := (hM.own.is (by rw [repTo_len (by omega)]; omega)).readn (m := min k (n - k)) (by rw [repTo_len (by omega)]; omega)
        have ht : (repTo c z k n).take (min k (n - k)) = List.replicate (min k (n - k)) c := by
          unfold repTo
          rw [List.take_append_of_le_length (by simp; omega), List.take_replicate]
          congr 1
          omega
        rw [ht] at hr
        have hr' : σ.read out.b out.o (min k (n - k)) 6 = some (eCell.all (List.replicate (min k (n - k)) c)) := hr
        obtain ⟨b, σ', g1, g2, g3⟩ := store_rep hM hb (m := min k (n - k)) (by omega)
        obtain ⟨σ1, j1, j2⟩ := ih (d - min k (n - k)) (by omega) (k + min k (n - k)) m σ' (by omega) (by omega) (by omega) g3
        refine ⟨σ1, j1, ?_⟩
        rw [lt_true (show k < n by omega)]
        simp only [cond_true, dec0, show decide ((k : Int) ≤ (n : Int)) = true by simp; omega, Int.le_refl, decide_true, Bool.and_self, Int.toNat_natCast]
        rw [hr', Option.bind_some, g1]
        simp only [g2, Option.bind_some]
        rw [show (k : Int) + ((min k (n - k) : Nat) : Int) = ((k + min k (n - k) : Nat) : Int) by simp, wrap_i64_nat _ (by omega), ← g1, ← hon]
        rw [hon]
        rw [hon] at j2
        exact j2
def zeroC : api_Cell := ⟨0, ⟨false, false, false, 0, 0⟩⟩
noncomputable def w_slices_Repeat (x : Sl) (count : Int) (σ : Heap) : Option (Sl × Heap) := wOf (fun p : api_Cell × Nat => x.Is eCell σ [p.1] ∧ count = (p.2 : Int) ∧ p.2 ≤ 1000000) fun p => fresh eCell σ false (List.replicate p.2 p.1)
theorem w_slices_Repeat_eq {x : Sl} {σ : Heap} {c : api_Cell} {n : Nat} (h : x.Is eCell σ [c]) (hn : n ≤ 1000000) : w_slices_Repeat x (n : Int) σ = some (fresh eCell σ false (List.replicate n c)) :=
  wOf_eq (x := (c, n)) ⟨h, rfl, hn⟩ fun y hy => by
    obtain ⟨c', n'⟩ := y
    have e1 := hy.1.uniq (by decide) h
    have e2 := hy.2.1
    simp only [List.cons.injEq, and_true] at e1
    simp only at e2
    rw [e1, show n' = n by omega]
theorem ok_slices_Repeat : Ok_slices_Repeat w_slices_Repeat := fun x count σ v σ' h => by
  obtain ⟨⟨c, n⟩, ⟨hx, rfl, hn⟩, e⟩ := wOf_some h
  simp only at hx hn e
  obtain ⟨rfl, rfl⟩ : v = (fresh eCell σ false (List.replicate n c)).1 ∧ σ' = (fresh eCell σ false (List.replicate n c)).2 := by rw [e]; exact ⟨rfl, rfl⟩
  have p1 : c_slices_Repeat.math_bits_Mul = w_math_bits_Mul := rfl
  have hzr : (List.replicate n [AVal.int .i32 0, .bool false, .bool false, .bool false, .int .i64 0, .int .i64 0]).flatten = eCell.all (repTo c zeroC 0 n) := by
    unfold repTo
    rw [List.replicate_zero, List.nil_append, Nat.sub_zero, rep_all]
    rfl
  have hM0 : Mine eCell σ ⟨some σ.length, 0, n⟩ (σ ++ [.row (eCell.all (repTo c zeroC 0 n)) .rw]) (repTo c zeroC 0 n) :=
    ⟨pre_push .., .row _ rfl rfl (by rw [repTo_len (by omega)]) (get_push ..), fun d hd => by simp at hd; omega⟩
  obtain ⟨b, σ2, g1, g2, g3⟩ := store_rep hM0 rfl (m := min 1 n) (by omega)
  injection g1 with g1
  subst g1
  have hMul : w_math_bits_Mul (IntKind.u64.wrap ((1 : Nat) : Int)) (IntKind.u64.wrap (n : Int)) σ = some ((0, (n : Int)), σ) := by
    rw [show IntKind.u64.wrap ((1 : Nat) : Int) = 1 by decide, show IntKind.u64.wrap (n : Int) = (n : Int) by rw [IntKind.wrap_u64]; omega]
    exact wIf_eq ⟨rfl, by omega, by omega⟩
  have hxn : x.n = 1 := hx.n
  have hr := (hx.pre (pre_push σ (.row (eCell.all (repTo c zeroC 0 n)) .rw))).readn (m := min 1 n) (by simp; omega)
  have ht : ([c] : List api_Cell).take (min 1 n) = List.replicate (min 1 n) c := by
    rcases Nat.eq_zero_or_pos n with h0 | h0
    · subst h0; rfl
    · rw [show min 1 n = 1 by omega]; rfl
  rw [ht] at hr
  have hr' : Heap.read (σ ++ [.row (eCell.all (repTo c zeroC 0 n)) .rw]) x.b x.o (min 1 n) 6 = some (eCell.all (List.replicate (min 1 n) c)) := hr
  have g2' : Heap.store (σ ++ [.row (eCell.all (repTo c zeroC 0 n)) .rw]) σ.length 0 (eCell.all (List.replicate (min 1 n) c)) = some σ2 := g2
  have key : ∃ σ1, Mine eCell σ ⟨some σ.length, 0, n⟩ σ1 (List.replicate n c) ∧ slices_Repeat_L8 (R := AVal × Heap) c_slices_Repeat (n + 1) (n + 1) ⟨some σ.length, 0, n⟩ ((min 1 n : Nat) : Int) σ2 (fun v σ => some (v, σ)) = some (.slice (some σ.length) 0 n 6, σ1) := by
    rcases Nat.eq_zero_or_pos n with h0 | h0
    · subst h0
      refine ⟨σ2, g3, ?_⟩
      rw [slices_Repeat_L8_eq]
      rfl
    · exact slices_Repeat_loop (R := AVal × Heap) (L := n + 1) (K := fun v σ => some (v, σ)) hn rfl (n - min 1 n) (min 1 n) (n + 1) σ2 (by omega) (by omega) (by omega) (by rw [Nat.zero_add] at g3; exact g3)
  obtain ⟨σ1, k1, k2⟩ := key
  refine call_mine (out := ⟨some σ.length, 0, n⟩) (call_ok ok (K_slices_Repeat c_slices_Repeat ok_math_bits_Mul) (L := n + 1) (n := 2) (σ' := σ1) ((slices_Repeat_eq c_slices_Repeat (n + 1) x (n : Int) σ _).trans ?_)) k1 rfl
  rw [show decide ((n : Int) < 0) = false by simp, cond_false, p1, hxn, hMul, Option.bind_some]
  rw [show decide ((0 : Int) > 0) = false by decide, cond_false]
  simp only
  rw [show decide ((n : Int) > 9223372036854775807) = false by rw [decide_eq_false_iff_not]; omega, cond_false, wrap_i64_nat n (by omega)]
  simp only [dec0, Int.le_refl, decide_true, Bool.and_self, show decide (32 * (n : Int) ≤ 70368744177664) = true by rw [decide_eq_true_iff]; omega, show decide ((n : Int) ≤ 70368744177664) = true by rw [decide_eq_true_iff]; omega, cond_true, Int.toNat_natCast, alloc, hzr]
  rw [hr', Option.bind_some, g2', Option.bind_some]
  exact k2

theorem fresh_isNone {α : Type} (E : El α) (σ : Heap) (nil : Bool) (ys : List α) : (fresh E σ nil ys).1.b.isNone = nil := by cases nil <;> rfl
def blankC (s : api_Style) : api_Cell := ⟨32, ⟨false, false, false, 0, s.Back⟩⟩
noncomputable def c_grid_blank : C_grid_blank := { cell_Blank := w_cell_Blank, slices_Repeat := w_slices_Repeat }
noncomputable def w_grid_blank (w : Int) (s : api_Style) (σ : Heap) : Option (Sl × Heap) := wOf (fun n : Nat => w = (n : Int) ∧ n ≤ 1000000) fun n => fresh eCell σ false (List.replicate n (blankC s))
theorem w_grid_blank_eq {s : api_Style} {σ : Heap} {n : Nat} (hn : n ≤ 1000000) : w_grid_blank (n : Int) s σ = some (fresh eCell σ false (List.replicate n (blankC s))) :=
  wOf_eq ⟨rfl, hn⟩ fun y hy => by rw [show y = n by have := hy.1; omega]
theorem ok_grid_blank : Ok_grid_blank w_grid_blank := fun w s σ v σ' h => by
  obtain ⟨n, ⟨rfl, hn⟩, e⟩ := wOf_some h
  obtain ⟨rfl, rfl⟩ : v = (fresh eCell σ false (List.replicate n (blankC s))).1 ∧ σ' = (fresh eCell σ false (List.replicate n (blankC s))).2 := by rw [e]; exact ⟨rfl, rfl⟩
  have p1 : c_grid_blank.cell_Blank = w_cell_Blank := rfl
  have p2 : c_grid_blank.slices_Repeat = w_slices_Repeat := rfl
  have hp : σ <+: σ ++ [.row (blankC s).cells .rw] := pre_push ..
  have hR : w_slices_Repeat ⟨some σ.length, 0, 1⟩ (n : Int) (σ ++ [.row (blankC s).cells .rw]) = some (fresh eCell (σ ++ [.row (blankC s).cells .rw]) false (List.replicate n (blankC s))) :=
    w_slices_Repeat_eq (Sl.Is.new (E := eCell) (xs := [blankC s]) (by simp)) hn
  have ho := fresh_own eCell (σ ++ [.row (blankC s).cells .rw]) false (List.replicate n (blankC s)) (fun h => by cases h)
  have hpre := fresh_pre eCell (σ ++ [.row (blankC s).cells .rw]) false (List.replicate n (blankC s))
  have hnew := fresh_new eCell (σ ++ [.row (blankC s).cells .rw]) false (List.replicate n (blankC s))
  have hnone := fresh_isNone eCell (σ ++ [.row (blankC s).cells .rw]) false (List.replicate n (blankC s))
  generalize fresh eCell (σ ++ [.row (blankC s).cells .rw]) false (List.replicate n (blankC s)) = q at hR ho hpre hnew hnone
  refine call_mine (out := q.1) (call_ok ok (K_grid_blank c_grid_blank ok_slices_Repeat ok_cell_Blank) (L := 0) (n := 2) (σ' := q.2) ((grid_blank_eq c_grid_blank 0 (n : Int) s σ _).trans ?_)) ⟨hp.trans hpre, ho, fun c hc => by have := hnew c hc; simp at this; omega⟩ hnone.symm
  simp only [p1, p2, w_cell_Blank, Option.bind_some, alloc]
  have hR' : w_slices_Repeat ⟨some σ.length, 0, 1⟩ (n : Int) (σ ++ [.row [.int .i32 32, .bool false, .bool false, .bool false, .int .i64 0, .int .i64 s.Back] .rw]) = some q := hR
  rw [hR', Option.bind_some]

/-- .. for a run in the kernel. -/
def cBlank (w : Int) (s : api_Style) (σ : Heap) : Option (Sl × Heap) := match w with
  | .ofNat n => match Nat.ble n 1000000 with
    | true => some (fresh eCell σ false (List.replicate n (blankC s)))
    | false => none
  | .negSucc _ => none
theorem ok_cBlank : Ok_grid_blank cBlank := fun w s σ v σ' h => by
  refine ok_grid_blank w s σ v σ' ?_
  unfold cBlank at h
  split at h
  · split at h
    · rename_i n e
      rw [← h]
      exact w_grid_blank_eq (Nat.le_of_ble_eq_true e)
    · cases h
  · cases h
end Go.Abs.TE
namespace Go.Abs.TE
open Go Go.Abs Go.Proofs
/-! ### vary.Put, for a run in the kernel -/
def deU8 : List AVal → Option (List UInt8)
  | [] => some []
  | .int .u8 (.ofNat n) :: r => match Nat.blt n 256 with
    | true => match deU8 r with
      | some q => some (UInt8.ofNat n :: q)
      | none => none
    | false => none
  | _ => none
theorem deU8_all : ∀ {cs : List AVal} {ys : List UInt8}, deU8 cs = some ys → cs = eU8.all ys
  | [], ys, h => by
    simp only [deU8, Option.some.injEq] at h
    subst h; rfl
  | x :: r, ys, h => by
    unfold deU8 at h
    split at h
    · rename_i e; cases e
    · rename_i n r' e
      injection e with e1 e2
      subst e1; subst e2
      split at h
      · rename_i hn
        split at h
        · rename_i q hq
          injection h with h
          subst h
          rw [El.all_cons, ← deU8_all hq]
          have hlt : n < 256 := by simpa [Nat.blt_eq] using hn
          show _ = [AVal.int .u8 (((UInt8.ofNat n).toNat : Nat) : Int)] ++ _
          rw [UInt8.toNat_ofNat_of_lt' (by simpa using hlt)]
          rfl
        · cases h
      · cases h
    · cases h
def deU64 : List AVal → Option (List Nat)
  | [] => some []
  | .int .u64 (.ofNat n) :: r => match Nat.blt n 18446744073709551616 with
    | true => match deU64 r with
      | some q => some (n :: q)
      | none => none
    | false => none
  | _ => none
theorem deU64_all : ∀ {cs : List AVal} {ns : List Nat}, deU64 cs = some ns → cs = eU64.all (ns.map Int.ofNat) ∧ ∀ n ∈ ns, n < 18446744073709551616
  | [], ys, h => by
    simp only [deU64, Option.some.injEq] at h
    subst h; exact ⟨rfl, fun n hn => by cases hn⟩
  | x :: r, ys, h => by
    unfold deU64 at h
    split at h
    · rename_i e; cases e
    · rename_i n r' e
      injection e with e1 e2
      subst e1; subst e2
      split at h
      · rename_i hn
        split at h
        · rename_i q hq
          injection h with h
          subst h
          obtain ⟨k1, k2⟩ := deU64_all hq
          refine ⟨?_, fun m hm => ?_⟩
          · rw [List.map_cons, El.all_cons, ← k1]; rfl
          · rcases List.mem_cons.1 hm with rfl | hm
            · simpa [Nat.blt_eq] using hn
            · exact k2 m hm
        · cases h
      · cases h
    · cases h
def vputF : Nat → Nat → List UInt8
  | 0, _ => []
  | f + 1, n => match Nat.blt n 128 with
    | true => [UInt8.ofNat n]
    | false => UInt8.ofNat (n % 128 + 128) :: vputF f (n / 128)
theorem vputF_eq : ∀ (f n : Nat), n < 128 ^ (f + 1) → vputF (f + 1) n = vput n
  | f, n, h => by
    unfold vputF
    split
    · rename_i hn
      rw [Nat.blt_eq] at hn
      rw [vput_lt hn]
    · rename_i hn
      have hn' : 128 ≤ n := by
        rcases Nat.lt_or_ge n 128 with h' | h'
        · rw [Nat.blt_eq.mpr h'] at hn; cases hn
        · exact h'
      cases f with
      | zero => simp at h; omega
      | succ f => rw [vput_ge hn', vputF_eq f (n / 128) (by rw [Nat.div_lt_iff_lt_mul (by omega), ← Nat.pow_succ]; exact h)]
def vputsF : List Nat → List UInt8
  | [] => []
  | n :: r => vputF 10 n ++ vputsF r
theorem vputsF_eq : ∀ {ns : List Nat}, (∀ n ∈ ns, n < 18446744073709551616) → vputsF ns = vputs ns
  | [], _ => rfl
  | n :: r, h => by
    rw [vputsF, vputs, vputF_eq 9 n (Nat.lt_of_lt_of_le (h n (by simp)) (by decide)), vputsF_eq fun m hm => h m (by simp [hm])]
/-- The bytes of a slice that is its caller's own. -/
def ownB (s : Sl) (σ : Heap) : Option (List UInt8) := match s.b with
  | none => match decide (s.o = 0) && decide (s.n = 0) with
    | true => some []
    | false => none
  | some b => match σ[b]? with
    | some (.row cs .rw) => match deU8 cs with
      | some ys => match decide (s.o = 0) && decide (s.n = ys.length) with
        | true => some ys
        | false => none
      | none => none
    | _ => none
theorem ownB_own {s : Sl} {σ : Heap} {ys : List UInt8} (h : ownB s σ = some ys) : s.Own eU8 σ ys := by
  unfold ownB at h
  split at h
  · rename_i hb
    split at h
    · rename_i e
      injection h with h
      subst h
      simp only [Bool.and_eq_true, decide_eq_true_eq] at e
      exact .nil hb e.1 e.2 rfl
    · cases h
  · rename_i b hb
    split at h
    · rename_i cs hr
      split at h
      · rename_i q hq
        split at h
        · rename_i e
          injection h with h
          subst h
          simp only [Bool.and_eq_true, decide_eq_true_eq] at e
          rw [deU8_all hq] at hr
          exact .row b hb e.1 e.2 hr
        · cases h
      · cases h
    · cases h
def numsB (l : Sl) (σ : Heap) : Option (List Nat) := match l.b with
  | none => none
  | some b => match σ.row? b with
    | some cs => match deU64 ((cs.drop l.o).take l.n) with
      | some ns => match decide (l.n = ns.length) && decide (l.o + l.n ≤ cs.length) && decide (l.n ≤ 1099511627776) with
        | true => some ns
        | false => none
      | none => none
    | none => none
theorem numsB_is {l : Sl} {σ : Heap} {ns : List Nat} (h : numsB l σ = some ns) : l.Is eU64 σ (ns.map Int.ofNat) ∧ ∀ n ∈ ns, n < 18446744073709551616 := by
  unfold numsB at h
  split at h
  · cases h
  · rename_i b hb
    split at h
    · rename_i cs hr
      split at h
      · rename_i q hq
        split at h
        · rename_i e
          injection h with h
          subst h
          simp only [Bool.and_eq_true, decide_eq_true_eq] at e
          obtain ⟨k1, k2⟩ := deU64_all hq
          refine ⟨⟨by rw [List.length_map]; exact e.1.1, by rw [List.length_map, ← e.1.1]; exact e.2, .inr ⟨b, cs, hb, hr, ?_, ?_⟩⟩, k2⟩
          · rw [List.length_map, ← k1, ← e.1.1]
            show (cs.drop l.o).take (l.n * 1) = _
            rw [Nat.mul_one]
          · rw [List.length_map, ← e.1.1]
            show l.o + l.n * 1 ≤ _
            rw [Nat.mul_one]
            exact e.1.2
        · cases h
      · cases h
    · cases h
def cPut (s l : Sl) (σ : Heap) : Option (Sl × Heap) := match ownB s σ, numsB l σ with
  | some ys, some (n :: ns) => match Nat.ble (ys.length + 10 * (ns.length + 1)) 1000000 && (match s.b, l.b with | some b, some c => !Nat.beq b c | _, _ => true) with
    | true => some (grow eU8 σ s (ys ++ vputsF (n :: ns)))
    | false => none
  | _, _ => none
theorem ok_cPut : Ok_vary_Put cPut := fun s l σ v σ' h => by
  refine ok_vary_Put s l σ v σ' ?_
  unfold cPut at h
  split at h
  · rename_i ys n ns ho hn
    obtain ⟨k1, k2⟩ := numsB_is hn
    split at h
    · rename_i e
      rw [Bool.and_eq_true] at e
      injection h with h
      rw [← h, vputsF_eq k2]
      refine w_vary_Put_eq ⟨ownB_own ho, k1, by simp, k2, by simpa using Nat.le_of_ble_eq_true e.1, fun b hb hl => ?_⟩
      have := e.2
      rw [hb, hl] at this
      simp at this
    · cases h
  · cases h
end Go.Abs.TE
namespace Go.Abs.TE
open Go Go.Abs Go.Proofs
def eB : El Bool := ⟨1, fun b => [.bool b], fun _ => rfl, fun a b h => by simpa using h⟩
instance : El.Flat eB := ⟨fun _ => rfl⟩
theorem b_cell {s : Sl} {σ : Heap} {l : List Bool} (h : s.Is eB σ l) {i : Nat} {x : Bool} (hi : l[i]? = some x) : ∃ b, s.b = some b ∧ σ.cell? b (s.o + i * 1) = some (.bool x) := by
  obtain ⟨b, hb, hc⟩ := h.cell hi
  exact ⟨b, hb, hc 0 (by decide)⟩
def flagsI : List Bool → Nat → Int → Int
  | [], _, n => n
  | b :: r, i, n => flagsI r (i + 1) (match b with
    | true => IntKind.u64.wrap (BitVec.ofInt IntKind.u64.bits n ||| BitVec.ofInt IntKind.u64.bits (IntKind.u64.wrap (1 * 2 ^ (min (i : Int).toNat IntKind.u64.bits)))).toNat
    | false => n)
theorem state_flags_loop {R : Type} {L : Nat} {l : Sl} {σ : Heap} {K : AVal → Heap → Option R} {bs : List Bool} (hl : l.Is eB σ bs) (hs : bs.length ≤ 1000000) :
    ∀ (d i m : Nat) (n : Int), i + d = bs.length → d < m → state_flags_L3 L m n l (i : Int) σ K = K (.int .u64 (flagsI (bs.drop i) i n)) σ
  | _, i, 0, _, _, h => by omega
  | 0, i, m + 1, n, h, _ => by
    rw [state_flags_L3_eq, hl.n, lt_false (by omega), List.drop_eq_nil_of_le (by omega)]
    rfl
  | d + 1, i, m + 1, n, h, hm => by
    have hi : i < bs.length := by omega
    obtain ⟨c, hc, f0⟩ := b_cell hl (i := i) (x := bs[i]) (List.getElem?_eq_getElem hi)
    rw [state_flags_L3_eq, List.drop_eq_getElem_cons hi]
    simp only [hl.n, dec0, lt_true hi, Bool.and_self, cond_true, hc, Option.bind_some, Int.toNat_natCast, f0, bool?]
    rw [wrap_i64_succ i (by omega)]
    cases hb : bs[i] with
    | true =>
      rw [cond_true, if_neg (by omega)]
      exact state_flags_loop hl hs d (i + 1) m _ (by omega) (by omega)
    | false =>
      rw [cond_false]
      exact state_flags_loop hl hs d (i + 1) m _ (by omega) (by omega)
/-- The elements of a slice, read by a function that knows one of them. -/
def winB (z : Nat) (l : Sl) (σ : Heap) : Option (List AVal) := match l.b with
  | none => none
  | some b => match σ.row? b with
    | some cs => match decide (l.o + l.n * z ≤ cs.length) && decide (l.n ≤ 1000000) with
      | true => some ((cs.drop l.o).take (l.n * z))
      | false => none
    | none => none
theorem winB_is {α : Type} {E : El α} {l : Sl} {σ : Heap} {xs : List α} (hz : 0 < E.z) (h : winB E.z l σ = some (E.all xs)) : l.Is E σ xs ∧ xs.length ≤ 1000000 := by
  unfold winB at h
  split at h
  · cases h
  · rename_i b hb
    split at h
    · rename_i cs hr
      split at h
      · rename_i e
        injection h with h
        simp only [Bool.and_eq_true, decide_eq_true_eq] at e
        have hn : l.n = xs.length := by
          have := congrArg List.length h
          rw [El.all_len, List.length_take, List.length_drop] at this
          have h2 : min (l.n * E.z) (cs.length - l.o) = l.n * E.z := by omega
          rw [h2] at this
          exact Nat.eq_of_mul_eq_mul_right hz this
        refine ⟨⟨hn, by omega, .inr ⟨b, cs, hb, hr, by rw [← hn]; exact h, by rw [← hn]; exact e.1⟩⟩, by omega⟩
      · cases h
    · cases h
def deB : List AVal → Option (List Bool)
  | [] => some []
  | .bool b :: r => match deB r with
    | some q => some (b :: q)
    | none => none
  | _ => none
theorem deB_all : ∀ {cs : List AVal} {ys : List Bool}, deB cs = some ys → cs = eB.all ys
  | [], ys, h => by
    simp only [deB, Option.some.injEq] at h
    subst h; rfl
  | x :: r, ys, h => by
    unfold deB at h
    split at h
    · rename_i e; cases e
    · rename_i b r' e
      injection e with e1 e2
      subst e1; subst e2
      split at h
      · rename_i q hq
        injection h with h
        subst h
        rw [El.all_cons, ← deB_all hq]; rfl
      · cases h
    · cases h
def cFlags (l : Sl) (σ : Heap) : Option (Int × Heap) := match winB 1 l σ with
  | some cs => match deB cs with
    | some bs => some (flagsI bs 0 0, σ)
    | none => none
  | none => none
theorem ok_cFlags : Ok_state_flags cFlags := fun l σ v σ' h => by
  unfold cFlags at h
  split at h
  · rename_i cs hw
    split at h
    · rename_i bs hb
      injection h with h
      injection h with h1 h2
      subst h1; subst h2
      obtain ⟨hl, hs⟩ := winB_is (E := eB) (by decide) (by rw [← deB_all hb]; exact hw)
      refine call_ok ok known0_ok (L := bs.length + 1) (n := 2) ((state_flags_eq (bs.length + 1) l σ _).trans ?_)
      exact state_flags_loop hl hs bs.length 0 (bs.length + 1) 0 (by omega) (by omega)
    · cases h
  · cases h
/-! ### crc.Sum -/
def crcI (c : Int) : Int := IntKind.u32.wrap (BitVec.ofInt IntKind.u32.bits (Int.fdiv c (2 ^ 1)) ^^^ BitVec.ofInt IntKind.u32.bits (IntKind.u32.wrap (3988292384 * (IntKind.u32.wrap (BitVec.ofInt IntKind.u32.bits c &&& BitVec.ofInt IntKind.u32.bits 1).toNat)))).toNat
def crcI8 : Nat → Int → Int
  | 0, c => c
  | k + 1, c => crcI8 k (crcI c)
def crcS : List UInt8 → Int → Int
  | [], c => IntKind.u32.wrap (BitVec.ofInt IntKind.u32.bits IntKind.u32.max ^^^ BitVec.ofInt IntKind.u32.bits c).toNat
  | x :: r, c => crcS r (crcI8 8 (IntKind.u32.wrap (BitVec.ofInt IntKind.u32.bits c ^^^ BitVec.ofInt IntKind.u32.bits (IntKind.u32.wrap ((x.toNat : Nat) : Int))).toNat))
theorem crc_L7 {R : Type} {L fu : Nat} {b : Sl} {x : Int} {σ : Heap} {K : AVal → Heap → Option R} : ∀ (d j m : Nat) (c : Int), j + d = 8 → d < m → crc_Sum_L7 L fu m c b x (j : Int) σ K = crc_Sum_L3 L fu (crcI8 d c) b (IntKind.i64.wrap (x + 1)) σ K
  | _, j, 0, _, _, h => by omega
  | 0, j, m + 1, c, h, _ => by
    rw [crc_Sum_L7_eq, show decide ((j : Int) < 8) = false by rw [decide_eq_false_iff_not]; omega, cond_false]
    rfl
  | d + 1, j, m + 1, c, h, hm => by
    rw [crc_Sum_L7_eq, show decide ((j : Int) < 8) = true by rw [decide_eq_true_iff]; omega, cond_true, wrap_i64_succ j (by omega)]
    exact crc_L7 d (j + 1) m (crcI c) (by omega) (by omega)
theorem crc_L3 {R : Type} {L : Nat} {l : Sl} {σ : Heap} {K : AVal → Heap → Option R} {bs : List UInt8} (hL : 8 < L) (hl : l.Is eU8 σ bs) (hs : bs.length ≤ 1000000) :
    ∀ (d i m : Nat) (c : Int), i + d = bs.length → d < m → crc_Sum_L3 L m c l (i : Int) σ K = K (.int .u32 (crcS (bs.drop i) c)) σ
  | _, i, 0, _, _, h => by omega
  | 0, i, m + 1, c, h, _ => by
    rw [crc_Sum_L3_eq, hl.n, lt_false (by omega), List.drop_eq_nil_of_le (by omega)]
    rfl
  | d + 1, i, m + 1, c, h, hm => by
    have hi : i < bs.length := by omega
    obtain ⟨b, hc, f0⟩ := u8_cell hl (i := i) (x := bs[i]) (List.getElem?_eq_getElem hi)
    rw [crc_Sum_L3_eq, List.drop_eq_getElem_cons hi]
    simp only [hl.n, dec0, lt_true hi, Bool.and_self, cond_true, hc, Option.bind_some, Int.toNat_natCast, f0, int?, if_true]
    have e := crc_L7 (L := L) (fu := m) (b := l) (x := (i : Int)) (σ := σ) (K := K) 8 0 L (IntKind.u32.wrap (BitVec.ofInt IntKind.u32.bits c ^^^ BitVec.ofInt IntKind.u32.bits (IntKind.u32.wrap ((bs[i].toNat : Nat) : Int))).toNat) (by omega) hL
    rw [wrap_i64_succ i (by omega)] at e
    exact e.trans (crc_L3 hL hl hs d (i + 1) m _ (by omega) (by omega))
def cSum (l : Sl) (σ : Heap) : Option (Int × Heap) := match winB 1 l σ with
  | some cs => match deU8 cs with
    | some bs => some (crcS bs 4294967295, σ)
    | none => none
  | none => none
theorem ok_cSum : Ok_crc_Sum cSum := fun l σ v σ' h => by
  unfold cSum at h
  split at h
  · rename_i cs hw
    split at h
    · rename_i bs hb
      injection h with h
      injection h with h1 h2
      subst h1; subst h2
      obtain ⟨hl, hs⟩ := winB_is (E := eU8) (by decide) (by rw [← deU8_all hb]; exact hw)
      refine call_ok ok known0_ok (L := bs.length + 9) (n := 2) ((crc_Sum_eq (bs.length + 9) l σ _).trans ?_)
      exact crc_L3 (by omega) hl hs bs.length 0 (bs.length + 9) 4294967295 (by omega) (by omega)
    · cases h
  · cases h
end Go.Abs.TE
namespace Go.Abs.TE
open Go Go.Abs Go.Proofs
theorem setR_at {σ : Heap} {p : Nat} {c : Option Nat} {s : Sl} {bad : Bool} {xs : List UInt8} (hr : Rdr σ p s bad) (hs : s.Is eU8 σ xs) (hb : s.b = c) (hne : c ≠ some p) : RdAt (setR σ p s true) p c none :=
  ⟨s, xs, hr.set s true, is_set hs (by rw [hb]; exact hne), hb, hne, .inl rfl⟩
/-! ### Text -/
def textP (r : Pt) (most : Int) (σ : Heap) (v : ByteArray) (σ' : Heap) : Prop :=
  CallOK Tryz.prog T 33 [tPtr.av r, (tInt .i64).av most] σ (tStr.av v) σ' ∧ ∃ (p : Nat) (c : Option Nat) (st : RS) (m : Nat), r = some (p, 0) ∧ most = (m : Int) ∧ RdAt σ p c st ∧ v = ba (textV m st).1 ∧ RdAt σ' p c (textV m st).2 ∧ But p σ σ'
noncomputable def w_vary_Reader_Text (r : Pt) (most : Int) (σ : Heap) : Option (ByteArray × Heap) := wRel (textP r most σ)
theorem ok_vary_Reader_Text : Ok_vary_Reader_Text w_vary_Reader_Text := fun _ _ _ _ _ h => (wRel_some h).1
noncomputable def c_vary_Reader_Text : C_vary_Reader_Text := ⟨w_vary_Reader_Num⟩
theorem text_call {σ : Heap} {p : Nat} {c : Option Nat} {st : RS} (h : RdAt σ p c st) {m : Nat} (h0 : 0 < m) (hm : m ≤ 1000000) :
    ∃ σ', CallOK Tryz.prog T 33 [tPtr.av (some (p, 0)), (tInt .i64).av (m : Int)] σ (tStr.av (ba (textV m st).1)) σ' ∧ RdAt σ' p c (textV m st).2 ∧ But p σ σ' := by
  have p1 : c_vary_Reader_Text.vary_Reader_Num = w_vary_Reader_Num := rfl
  obtain ⟨σ1, e1, r1, b1⟩ := num_at h (limit := ((m + 1 : Nat) : Int)) (by omega)
  have hl : limN ((m + 1 : Nat) : Int) = m + 1 := by unfold limN; rw [if_pos (by omega)]; omega
  rw [hl] at e1 r1
  have key : ∀ {v : ByteArray} {σ' : Heap}, (∀ (K : AVal → Heap → Option (AVal × Heap)), callC T (O_vary_Reader_Text c_vary_Reader_Text) 0 2 33 [.ptr (some (p, 0)), .int .i64 (m : Int)] σ K = K (.str v) σ') → CallOK Tryz.prog T 33 [tPtr.av (some (p, 0)), (tInt .i64).av (m : Int)] σ (tStr.av v) σ' :=
    fun h => call_ok ok (K_vary_Reader_Text c_vary_Reader_Text ok_vary_Reader_Num) (L := 0) (n := 2) (h _)
  have eq : ∀ (K : AVal → Heap → Option (AVal × Heap)), _ := fun K => vary_Reader_Text_eq c_vary_Reader_Text 0 (some (p, 0)) (m : Int) σ K
  have hd : decide ((m : Int) > 0) = true := by rw [decide_eq_true_iff]; omega
  have hw : IntKind.i64.wrap ((m : Int) + 1) = ((m + 1 : Nat) : Int) := wrap_i64_succ m (by omega)
  unfold textV
  generalize hq : numV (m + 1) st = q at *
  obtain ⟨n, st1⟩ := q
  simp only at e1 r1
  have hbad := r1.bad
  cases st1 with
  | none =>
    simp only
    obtain ⟨s, xs, hr, hs, hb, hne, he⟩ := r1.ex
    refine ⟨_, key fun K => (eq K).trans ?_, setR_at hr hs hb hne, b1.trans (but_set ..)⟩
    simp only [hd, cond_true, hw, p1, e1, Option.bind_some, hbad, Option.isNone_none, hr.set_bad]
    rfl
  | some ys =>
    simp only
    obtain ⟨s, xs, hr, hs, hb, hne, he⟩ := r1.ex
    obtain rfl : ys = xs := by rcases he with he | he <;> simp_all
    have hr' : Rdr σ1 p s false := hr
    by_cases hn : n ≤ ys.length
    · rw [if_pos hn]
      have hrd := hs.readn hn
      have hst := hr'.set_sl ⟨s.b, s.o + n * 1, s.n - n⟩
      refine ⟨_, key fun K => (eq K).trans ?_, ⟨_, ys.drop n, hr'.set ⟨s.b, s.o + n * 1, s.n - n⟩ false, is_set (hs.drop hn) (by rw [← hb] at hne; exact hne), hb, hne, .inr rfl⟩, b1.trans (but_set ..)⟩
      have hsn : decide ((n : Int) > (s.n : Int)) = false := by rw [decide_eq_false_iff_not, hs.n]; omega
      have hle : decide ((n : Int) ≤ (s.n : Int)) = true := by rw [decide_eq_true_iff, hs.n]; omega
      have hrd' : Heap.read σ1 s.b s.o n 1 = some (eU8.all (ys.take n)) := hrd
      simp only [hd, cond_true, hw, p1, e1, Option.bind_some, hbad, Option.isNone_some, cond_false, hr'.cell0, hsn, dec0, hle, Bool.and_self, Int.toNat_natCast, hrd', bytes_all, Int.le_refl, decide_true]
      rw [hst, Option.bind_some]
      rfl
    · rw [if_neg hn]
      refine ⟨_, key fun K => (eq K).trans ?_, setR_at hr hs hb hne, b1.trans (but_set ..)⟩
      have hsn : decide ((n : Int) > (s.n : Int)) = true := by rw [decide_eq_true_iff, hs.n]; omega
      simp only [hd, cond_true, hw, p1, e1, Option.bind_some, hbad, Option.isNone_some, cond_false, hr'.cell0, hsn, hr'.set_bad]
      rfl
theorem text_at {σ : Heap} {p : Nat} {c : Option Nat} {st : RS} (h : RdAt σ p c st) {m : Nat} (h0 : 0 < m) (hm : m ≤ 1000000) :
    ∃ σ', w_vary_Reader_Text (some (p, 0)) (m : Int) σ = some (ba (textV m st).1, σ') ∧ RdAt σ' p c (textV m st).2 ∧ But p σ σ' := by
  obtain ⟨σ1, h1, h2, h3⟩ := text_call h h0 hm
  obtain ⟨⟨v, σ'⟩, e1, _, p', c', st', m', k1, k2, k3, k4, k5, k6⟩ := wRel_ex (P := textP (some (p, 0)) (m : Int) σ) ⟨h1, p, c, st, m, rfl, rfl, h, rfl, h2, h3⟩
  simp only [Option.some.injEq, Prod.mk.injEq, and_true] at k1
  subst k1
  obtain rfl : m = m' := by omega
  obtain ⟨rfl, rfl⟩ := h.uniq k3
  simp only at k4 k5 k6
  subst k4
  exact ⟨σ', e1, k5, k6⟩

/-! ### Ops -/
def opA (o : POp) : api_Op := ⟨o.k, o.c, o.p, o.n, o.w, o.h, ba o.d⟩
/-- What taking an op leaves. -/
structure TakeTo (σ : Heap) (p : Nat) (c : Option Nat) (st : RS) (v : api_Op × Bool) (σ' : Heap) : Prop where
  op : v = (opA (takeV st).1, (takeV st).2.isSome)
  at_ : RdAt σ' p c (takeV st).2
  len : σ.length ≤ σ'.length
  kept : ∀ b, b < σ.length → b ≠ p → σ'[b]? = σ[b]?
def takeP (f : FuncId) (r : Pt) (σ : Heap) (v : api_Op × Bool) (σ' : Heap) : Prop :=
  CallOK Tryz.prog T f [tPtr.av r] σ ((tPair t_api_Op tBool).av v) σ' ∧ ∃ (p : Nat) (c : Option Nat) (st : RS), r = some (p, 0) ∧ RdAt σ p c st ∧ TakeTo σ p c st v σ'
theorem takeP_at {f : FuncId} {σ : Heap} {p : Nat} {c : Option Nat} {st : RS} (h : RdAt σ p c st) {v : api_Op × Bool} {σ1 : Heap} (h1 : CallOK Tryz.prog T f [tPtr.av (some (p, 0))] σ ((tPair t_api_Op tBool).av v) σ1) (h2 : TakeTo σ p c st v σ1) :
    ∃ v σ', wRel (takeP f (some (p, 0)) σ) = some (v, σ') ∧ TakeTo σ p c st v σ' := by
  obtain ⟨⟨v, σ'⟩, e1, _, p', c', st', k1, k2, k3⟩ := wRel_ex (P := takeP f (some (p, 0)) σ) ⟨h1, p, c, st, rfl, h, h2⟩
  simp only [Option.some.injEq, Prod.mk.injEq, and_true] at k1
  subst k1
  obtain ⟨rfl, rfl⟩ := h.uniq k2
  exact ⟨v, σ', e1, k3⟩
theorem lim0 : limN 0 = 9223372036854775808 := rfl
theorem limP {n : Nat} (h : 0 < n) : limN (n : Int) = n := by unfold limN; rw [if_pos (by omega)]; omega
noncomputable def w_law25_take (r : Pt) (σ : Heap) : Option ((api_Op × Bool) × Heap) := wRel (takeP 13 r σ)
theorem ok_law25_take : Ok_law25_take w_law25_take := fun _ _ _ _ h => (wRel_some h).1
noncomputable def c_law25_take : C_law25_take := ⟨w_vary_Reader_Num, w_vary_Reader_Text, w_vary_Reader_Good⟩
theorem law25_take_at {σ : Heap} {p : Nat} {c : Option Nat} {st : RS} (h : RdAt σ p c st) : ∃ v σ', w_law25_take (some (p, 0)) σ = some (v, σ') ∧ TakeTo σ p c st v σ' := by
  obtain ⟨σ1, e1, r1, b1⟩ := num_at h (limit := 9) (by omega)
  obtain ⟨σ2, e2, r2, b2⟩ := num_at r1 (limit := 1024) (by omega)
  obtain ⟨σ3, e3, r3, b3⟩ := num_at r2 (limit := 1024) (by omega)
  obtain ⟨σ4, e4, r4, b4⟩ := num_at r3 (limit := 0) (by omega)
  obtain ⟨σ5, e5, r5, b5⟩ := num_at r4 (limit := 1024) (by omega)
  obtain ⟨σ6, e6, r6, b6⟩ := num_at r5 (limit := 1024) (by omega)
  obtain ⟨σ7, e7, r7, b7⟩ := text_at r6 (m := 401) (by omega) (by omega)
  have e8 := good_frz r7
  have B := b1.trans (b2.trans (b3.trans (b4.trans (b5.trans (b6.trans b7)))))
  have q9 : limN 9 = 9 := rfl
  have qk : limN 1024 = 1024 := rfl
  rw [lim0] at *
  rw [q9] at *
  rw [qk] at *
  have p1 : c_law25_take.vary_Reader_Num = w_vary_Reader_Num := rfl
  have p2 : c_law25_take.vary_Reader_Text = w_vary_Reader_Text := rfl
  have p3 : c_law25_take.vary_Reader_Good = w_vary_Reader_Good := rfl
  refine takeP_at h (v := (opA (takeV st).1, (takeV st).2.isSome)) (σ1 := σ7) (call_ok ok (K_law25_take c_law25_take ok_vary_Reader_Num ok_vary_Reader_Text ok_vary_Reader_Good) (L := 0) (n := 2) ((law25_take_eq c_law25_take 0 (some (p, 0)) σ _).trans ?_)) ⟨rfl, r7, by rw [B.len]; exact Nat.le_refl _, fun b _ hb => B.at_ b hb⟩
  have e7' : w_vary_Reader_Text (some (p, 0)) 401 σ6 = _ := e7
  simp only [p1, p2, p3, e1, e2, e3, e4, e5, e6, e7', e8, Option.bind_some, Heap.back_frz]
  rfl
end Go.Abs.TE
namespace Go.Abs.TE
open Go Go.Abs Go.Proofs
noncomputable def w_script_take (r : Pt) (σ : Heap) : Option ((api_Op × Bool) × Heap) := wRel (takeP 31 r σ)
theorem ok_script_take : Ok_script_take w_script_take := fun _ _ _ _ h => (wRel_some h).1
noncomputable def c_script_take : C_script_take := ⟨w_vary_Reader_Num, w_vary_Reader_Text, w_vary_Reader_Good⟩
/-- Two blocks of it may turn. -/
structure But2 (p q : Nat) (σ σ' : Heap) : Prop where
  len : σ'.length = σ.length
  at_ : ∀ b, b ≠ p → b ≠ q → σ'[b]? = σ[b]?
theorem store_row {σ : Heap} {b : Nat} {cs : List AVal} (h : σ[b]? = some (.row cs .rw)) {i : Nat} (hi : i < cs.length) (v : AVal) : σ.store b i [v] = some (σ.set b (.row (cs.set i v) .rw)) := by
  unfold Heap.store
  rw [h]
  simp only [List.length_singleton]
  rw [if_pos (by omega)]
  rfl
theorem val_store {σ : Heap} {p q : Nat} {c : Option Nat} {st : RS} (h : RdAt σ p c st) {cs : List AVal} (hr : σ[q]? = some (.row cs .rw)) (hq : q ≠ p) (hc : c ≠ some q) {i : Nat} (hi : i < cs.length) (v : AVal) :
    ∃ σ2, Heap.store σ q i [v] = some σ2 ∧ RdAt σ2 p c st ∧ σ2[q]? = some (.row (cs.set i v) .rw) ∧ But2 p q σ σ2 := by
  refine ⟨_, store_row hr hi _, h.of_get (List.getElem?_set_ne hq) fun b hb => List.getElem?_set_ne fun e => hc (by rw [hb, e]), ?_, by simp, fun b h1 h2 => ?_⟩
  · exact List.getElem?_set_self (List.getElem?_eq_some_iff.1 hr).1
  · rw [List.getElem?_set_ne (Ne.symm h2)]
theorem num_store {σ : Heap} {p q : Nat} {c : Option Nat} {st : RS} (h : RdAt σ p c st) {cs : List AVal} (hr : σ[q]? = some (.row cs .rw)) (hq : q ≠ p) (hc : c ≠ some q) {i : Nat} (hi : i < cs.length) {limit : Int} (hl : limit ≤ 9223372036854775807) :
    ∃ σ1 σ2, w_vary_Reader_Num (some (p, 0)) limit σ = some (((numV (limN limit) st).1 : Int), σ1) ∧ Heap.store σ1 q i [.int .i64 (numV (limN limit) st).1] = some σ2 ∧
      RdAt σ2 p c (numV (limN limit) st).2 ∧ σ2[q]? = some (.row (cs.set i (.int .i64 (numV (limN limit) st).1)) .rw) ∧ But2 p q σ σ2 := by
  obtain ⟨σ1, e1, r1, b1⟩ := num_at h hl
  have hr1 : σ1[q]? = some (.row cs .rw) := (b1.at_ q hq).trans hr
  refine ⟨σ1, _, e1, store_row hr1 hi _, r1.of_get (List.getElem?_set_ne hq) fun b hb => List.getElem?_set_ne fun e => hc (by rw [hb, e]), ?_, by simp [b1.len], fun b h1 h2 => ?_⟩
  · exact List.getElem?_set_self (List.getElem?_eq_some_iff.1 hr1).1
  · rw [List.getElem?_set_ne (Ne.symm h2)]; exact b1.at_ b h1
def takeRow (b : Nat) : List AVal := [.ptr (some (b, 0)), .ptr (some (b, 1)), .ptr (some (b, 2)), .ptr (some (b, 3)), .ptr (some (b, 4)), .ptr (some (b, 5))]
def takeLim : List AVal := [.int .i64 9, .int .i64 1024, .int .i64 1024, .int .i64 0, .int .i64 1024, .int .i64 1024]
theorem take_round {R : Type} {L fu p b2 i : Nat} (hi : i < 6) {lim n : Int} {σ σ1 σ2 : Heap} {K : AVal → Heap → Option R} (h4 : (takeRow b2)[i * 1]? = some (.ptr (some (b2, i)))) (h5 : takeLim[0 + i * 1]? = some (.int .i64 lim))
    (hn : w_vary_Reader_Num (some (p, 0)) lim σ = some (n, σ1)) (hs : Heap.store σ1 b2 i [.int .i64 n] = some σ2) :
    script_take_L5 c_script_take L (fu + 1) (some (p, 0)) b2 (i : Int) σ K = script_take_L5 c_script_take L fu (some (p, 0)) b2 ((i + 1 : Nat) : Int) σ2 K := by
  have p1 : c_script_take.vary_Reader_Num = w_vary_Reader_Num := rfl
  unfold takeRow at h4
  unfold takeLim at h5
  rw [script_take_L5_eq]
  simp only [show decide ((i : Int) < 6) = true by rw [decide_eq_true_iff]; omega, dec0, Bool.and_self, cond_true, Int.toNat_natCast, h4, h5, ptr?, int?, if_true, Option.bind_some, p1, hn, hs]
  rw [wrap_i64_succ i (by omega)]
theorem cell_row {σ : Heap} {b : Nat} {cs : List AVal} (h : σ[b]? = some (.row cs .rw)) (i : Nat) : σ.cell? b i = cs[i]? := by
  unfold Heap.cell?
  rw [row?_of h (by simp)]
  rfl
theorem script_take_at {σ : Heap} {p : Nat} {c : Option Nat} {st : RS} (h : RdAt σ p c st) : ∃ v σ', w_script_take (some (p, 0)) σ = some (v, σ') ∧ TakeTo σ p c st v σ' := by
  have hlt := h.lt
  have hq : σ.length ≠ p := by omega
  have hc : c ≠ some σ.length := fun e => by have := h.clt e; omega
  have h0 := h.pre (pre_push σ (.row [.int .i64 0, .int .i64 0, .int .i64 0, .int .i64 0, .int .i64 0, .int .i64 0, .str (⟨#[]⟩ : ByteArray)] .rw))
  have r0 := get_push σ (.row [.int .i64 0, .int .i64 0, .int .i64 0, .int .i64 0, .int .i64 0, .int .i64 0, .str (⟨#[]⟩ : ByteArray)] .rw)
  obtain ⟨s1, t1, e1, f1, h1, r1, b1⟩ := num_store h0 r0 hq hc (i := 0) (by simp) (limit := 9) (by omega)
  obtain ⟨s2, t2, e2, f2, h2, r2, b2⟩ := num_store h1 r1 hq hc (i := 1) (by simp) (limit := 1024) (by omega)
  obtain ⟨s3, t3, e3, f3, h3, r3, b3⟩ := num_store h2 r2 hq hc (i := 2) (by simp) (limit := 1024) (by omega)
  obtain ⟨s4, t4, e4, f4, h4, r4, b4⟩ := num_store h3 r3 hq hc (i := 3) (by simp) (limit := 0) (by omega)
  obtain ⟨s5, t5, e5, f5, h5, r5, b5⟩ := num_store h4 r4 hq hc (i := 4) (by simp) (limit := 1024) (by omega)
  obtain ⟨s6, t6, e6, f6, h6, r6, b6⟩ := num_store h5 r5 hq hc (i := 5) (by simp) (limit := 1024) (by omega)
  obtain ⟨s7, e7, h7, b7⟩ := text_at h6 (m := 401) (by omega) (by omega)
  have r7 := (b7.at_ _ hq).trans r6
  obtain ⟨σ8, f7, h8, r8, b8⟩ := val_store h7 r7 hq hc (i := 6) (by simp) (.str (ba (textV 401 (numV (limN 1024) (numV (limN 1024) (numV (limN 0) (numV (limN 1024) (numV (limN 1024) (numV (limN 9) st).2).2).2).2).2).2).1))
  have e8 := good_frz h8
  have c8 := cell_row r8
  have hlen : σ8.length = σ.length + 1 := by rw [b8.len, b7.len, b6.len, b5.len, b4.len, b3.len, b2.len, b1.len]; simp
  have hkept : ∀ b, b < σ.length → b ≠ p → σ8[b]? = σ[b]? := fun b hb hne => by
    have hb2 : b ≠ σ.length := by omega
    rw [b8.at_ b hne hb2, b7.at_ b hne, b6.at_ b hne hb2, b5.at_ b hne hb2, b4.at_ b hne hb2, b3.at_ b hne hb2, b2.at_ b hne hb2, b1.at_ b hne hb2, List.getElem?_append_left hb]
  have p2 : c_script_take.vary_Reader_Text = w_vary_Reader_Text := rfl
  have p3 : c_script_take.vary_Reader_Good = w_vary_Reader_Good := rfl
  have q9 : limN 9 = 9 := rfl
  have qk : limN 1024 = 1024 := rfl
  refine takeP_at h (v := (opA (takeV st).1, (takeV st).2.isSome)) (σ1 := σ8) (call_ok ok (K_script_take c_script_take ok_vary_Reader_Num ok_vary_Reader_Text ok_vary_Reader_Good) (L := 7) (n := 2) ((script_take_eq c_script_take 7 (some (p, 0)) σ _).trans ?_)) ⟨rfl, h8, by omega, hkept⟩
  rw [alloc]
  refine (take_round (i := 0) (by omega) rfl rfl e1 f1).trans ((take_round (i := 1) (by omega) rfl rfl e2 f2).trans ((take_round (i := 2) (by omega) rfl rfl e3 f3).trans ((take_round (i := 3) (by omega) rfl rfl e4 f4).trans ((take_round (i := 4) (by omega) rfl rfl e5 f5).trans ((take_round (i := 5) (by omega) rfl rfl e6 f6).trans ?_)))))
  have e7' : w_vary_Reader_Text (some (p, 0)) 401 t6 = _ := e7
  rw [script_take_L5_eq, show decide (((5 + 1 : Nat) : Int) < 6) = false from rfl, cond_false, p2, p3, e7', Option.bind_some]
  simp only [f7, Option.bind_some, c8, e8, Heap.back_frz, int?, str?, List.getElem?_cons_succ, List.getElem?_cons_zero, List.set_cons_succ, List.set_cons_zero, if_true]
  rfl
end Go.Abs.TE
namespace Go.Abs.TE
open Go Go.Abs Go.Proofs
def eOp : El api_Op := ⟨7, api_Op.cells, fun _ => rfl, fun a b h => by
  obtain ⟨k, c, p, n, w, h1, d⟩ := a
  obtain ⟨k', c', p', n', w', h1', d'⟩ := b
  simp [api_Op.cells] at h
  obtain ⟨rfl, rfl, rfl, rfl, rfl, rfl, rfl⟩ := h
  rfl⟩
instance : El.Flat eOp := ⟨fun _ => rfl⟩
theorem Mine.turn {α : Type} {E : El α} {σ0 σ σ' : Heap} {out : Sl} {ys : List α} {p : Nat} (h : Mine E σ0 out σ ys) (hl : σ.length ≤ σ'.length) (hk : ∀ b, b < σ.length → b ≠ p → σ'[b]? = σ[b]?) (hp : σ0.length ≤ p) (hne : out.b ≠ some p) : Mine E σ0 out σ' ys := by
  have hpl := h.pre.length_le
  refine ⟨pre_of_get (by omega) fun b hb => ?_, ?_, h.new⟩
  · rw [hk b (by omega) (by omega)]; exact get_pre h.pre hb
  · cases h.own with
    | nil hb ho hn hx => exact .nil hb ho hn hx
    | row b hb ho hn hr => exact .row b hb ho hn (by rw [hk b (List.getElem?_eq_some_iff.1 hr).1 (fun e => hne (by rw [hb, e]))]; exact hr)
noncomputable def c_script_Decode : C_script_Decode := ⟨w_vary_Of, w_vary_Reader_Done, w_script_take⟩
theorem script_Decode_loop {R : Type} {L : Nat} {K : AVal → Heap → Option R} {σ0 : Heap} {p : Nat} {c : Option Nat} (hp : σ0.length ≤ p) (hc : ∀ b, c = some b → b < σ0.length) :
    ∀ (f m : Nat) (xs : List UInt8) (out : Sl) (σ : Heap) (ys : List api_Op), xs.length < f → f ≤ m → Mine eOp σ0 out σ ys → RdAt σ p c (some xs) → out.b ≠ some p → ys.length + xs.length ≤ 1000000 → (ys = [] → out.b = none) →
      ∃ out' σ', Mine eOp σ0 out' σ' (ys ++ (decV f xs).map opA) ∧ (ys ++ (decV f xs).map opA = [] → out'.b = none) ∧ script_Decode_L3 c_script_Decode L m out (some (p, 0)) σ K = K (.slice out'.b out'.o out'.n 7) σ'
  | 0, _, _, _, _, _, h, _, _, _, _, _, _ => by omega
  | f + 1, 0, _, _, _, _, _, h, _, _, _, _, _ => by omega
  | f + 1, m + 1, xs, out, σ, ys, hf, hm, hM, hR, hne, hs, h0 => by
    have p1 : c_script_Decode.vary_Reader_Done = w_vary_Reader_Done := rfl
    have p2 : c_script_Decode.script_take = w_script_take := rfl
    have hout : ∀ b, out.b = some b → σ0.length ≤ b := hM.new
    rw [script_Decode_L3_eq, p1, p2, done_at hR, Option.bind_some]
    cases xs with
    | nil =>
      refine ⟨out, σ, ?_, ?_, rfl⟩
      · rw [decV_nil]; simpa using hM
      · rw [decV_nil]; simpa using h0
    | cons x r =>
      obtain ⟨v, σ1, e1, t1⟩ := script_take_at hR
      have hM1 := Mine.turn hM t1.len t1.kept hp hne
      simp only [List.isEmpty_cons, Bool.not_false, cond_true, e1, Option.bind_some, t1.op]
      have hat := t1.at_
      cases ht : takeV (some (x :: r)) with
      | mk o st =>
        rw [ht] at hat
        cases st with
        | none =>
          refine ⟨out, σ1, ?_, ?_, rfl⟩
          · rw [decV_stop (by rw [ht])]; simpa using hM1
          · rw [decV_stop (by rw [ht])]; simpa using h0
        | some zs =>
          obtain ⟨xs', h1, h2, h3⟩ := takeV_some ht
          injection h1 with h1
          have hlen := congrArg List.length h3
          rw [← h1, List.length_append] at hlen
          have hol := opB_len o
          simp only [List.length_cons] at hf hs hlen
          obtain ⟨q, σ2, a1, a2, a3, a4⟩ := append_own hM1.own (ys := [opA o]) (bytes := 64) (vs := (opA o).cells) (k := 1) rfl rfl (by simp; omega) (by simp; omega)
          have a1' : σ1.append out.b out.o out.n 7 64 [.int .i64 (opA o).Kind, .int .i64 (opA o).Client, .int .i64 (opA o).Pane, .int .i64 (opA o).N, .int .i64 (opA o).W, .int .i64 (opA o).H, .str (opA o).Data] 1 = some (q, σ2) := a1
          simp only [Option.isSome_some, Bool.not_true, cond_false]
          rw [a1', Option.bind_some]
          have hR2 : RdAt σ2 p c (some zs) := hat.of_get (a3.at_ p hat.lt hne) fun b hb => a3.at_ b (hat.clt hb) fun e => by have := hout b e; have := hc b hb; omega
          have hM2 : Mine eOp σ0 ⟨q.1, q.2.1, q.2.2⟩ σ2 (ys ++ [opA o]) := ⟨a3.pre hM1.pre hM1.new, a2, fun b hb => by
            rcases a4 b hb with h5 | h5
            · exact hM1.new b h5
            · have := hM1.pre.length_le; omega⟩
          obtain ⟨out', σ', k1, k2, k3⟩ := script_Decode_loop (L := L) (K := K) hp hc f m zs ⟨q.1, q.2.1, q.2.2⟩ σ2 (ys ++ [opA o]) (by omega) (by omega) hM2 hR2 (fun e => by
            rcases a4 p e with h5 | h5
            · exact hne h5
            · have := hat.lt; omega) (by simp; omega) (fun e => by simp at e)
          rw [decV_take ht]
          refine ⟨out', σ', by simpa using k1, fun e => by simp at e, k3⟩
/-- The ops of bytes. -/
def decA (xs : List UInt8) : List api_Op := (decV (xs.length + 1) xs).map opA
noncomputable def w_script_Decode (b : Sl) (σ : Heap) : Option (Sl × Heap) := wOf (fun xs : List UInt8 => b.Is eU8 σ xs ∧ xs.length ≤ 1000000) fun xs => fresh eOp σ (decA xs).isEmpty (decA xs)
theorem w_script_Decode_eq {b : Sl} {σ : Heap} {xs : List UInt8} (h : b.Is eU8 σ xs) (hl : xs.length ≤ 1000000) : w_script_Decode b σ = some (fresh eOp σ (decA xs).isEmpty (decA xs)) :=
  wOf_eq (P := fun xs : List UInt8 => b.Is eU8 σ xs ∧ xs.length ≤ 1000000) (f := fun xs => fresh eOp σ (decA xs).isEmpty (decA xs)) ⟨h, hl⟩ fun y hy => by rw [hy.1.uniq (by decide) h]
theorem ok_script_Decode : Ok_script_Decode w_script_Decode := fun b σ v σ' h => by
  obtain ⟨xs, ⟨hb, hl⟩, e⟩ := wOf_some h
  obtain ⟨rfl, rfl⟩ : v = (fresh eOp σ (decA xs).isEmpty (decA xs)).1 ∧ σ' = (fresh eOp σ (decA xs).isEmpty (decA xs)).2 := by rw [e]; exact ⟨rfl, rfl⟩
  have hpre := pre_push σ (.row [.slice b.b b.o b.n 1, .bool false] .rw)
  have hlt : ∀ c, b.b = some c → c < σ.length := fun c hc => hb.lt hc
  have hR : RdAt (σ ++ [.row [.slice b.b b.o b.n 1, .bool false] .rw]) σ.length b.b (some xs) := ⟨b, xs, get_push .., hb.pre hpre, rfl, fun e => by have := hlt _ e; omega, .inr rfl⟩
  obtain ⟨out, σ1, k1, k2, k3⟩ := script_Decode_loop (R := AVal × Heap) (L := xs.length + 1) (K := fun v σ => some (v, σ)) (Nat.le_refl σ.length) hlt (xs.length + 1) (xs.length + 1) xs ⟨none, 0, 0⟩ _ [] (by omega) (Nat.le_refl _) ((Mine.start σ).step hpre) hR (by simp) (by simp; omega) (fun _ => rfl)
  rw [List.nil_append] at k1 k2
  refine call_mine (out := out) (call_ok ok (K_script_Decode c_script_Decode ok_vary_Of ok_vary_Reader_Done ok_script_take) (L := xs.length + 1) (n := 2) (σ' := σ1) ((script_Decode_eq c_script_Decode (xs.length + 1) b σ _).trans ?_)) k1 ?_
  · have p0 : c_script_Decode.vary_Of = w_vary_Of := rfl
    rw [p0]
    exact k3
  · unfold decA
    cases hd : (decV (xs.length + 1) xs).map opA with
    | nil => rw [k2 hd]; rfl
    | cons y r => rw [Own.some_of_ne k1.own (by rw [hd]; simp)]; rfl
end Go.Abs.TE
namespace Go.Abs.TE
open Go Go.Abs Go.Proofs
theorem eU8_bytes (l : List UInt8) : (l.map fun b => AVal.int .u8 b.toNat) = eU8.all l := by
  induction l with
  | nil => rfl
  | cons x r ih => rw [El.all_cons, List.map_cons, ih]; rfl
theorem Own.lt {α : Type} {E : El α} {s : Sl} {σ : Heap} {xs : List α} (h : s.Own E σ xs) {b : Nat} (hb : s.b = some b) : b < σ.length := by
  cases h with
  | nil hb' _ _ _ => rw [hb] at hb'; cases hb'
  | row c hb' _ _ hr =>
    rw [hb] at hb'
    injection hb' with hb'
    subst hb'
    exact (List.getElem?_eq_some_iff.1 hr).1
noncomputable def c_vary_PutText : C_vary_PutText := ⟨w_vary_Put⟩
noncomputable def w_vary_PutText (s : Sl) (t : ByteArray) (σ : Heap) : Option (Sl × Heap) :=
  wOf (fun ys : List UInt8 => s.Own eU8 σ ys ∧ t.size ≤ 100000 ∧ ys.length ≤ 800000) fun ys => grow eU8 σ s (ys ++ (vput t.size ++ t.data.toList))
theorem w_vary_PutText_eq {s : Sl} {t : ByteArray} {σ : Heap} {ys : List UInt8} (h : s.Own eU8 σ ys) (ht : t.size ≤ 100000) (hy : ys.length ≤ 800000) : w_vary_PutText s t σ = some (grow eU8 σ s (ys ++ (vput t.size ++ t.data.toList))) :=
  wOf_eq (P := fun ys : List UInt8 => s.Own eU8 σ ys ∧ t.size ≤ 100000 ∧ ys.length ≤ 800000) (f := fun ys => grow eU8 σ s (ys ++ (vput t.size ++ t.data.toList))) ⟨h, ht, hy⟩ fun y hy => by rw [hy.1.uniq (by decide) h]
theorem ok_vary_PutText : Ok_vary_PutText w_vary_PutText := fun s t σ v σ' h => by
  obtain ⟨ys, ⟨hs, ht, hy⟩, e⟩ := wOf_some h
  obtain ⟨rfl, rfl⟩ : v = (grow eU8 σ s (ys ++ (vput t.size ++ t.data.toList))).1 ∧ σ' = (grow eU8 σ s (ys ++ (vput t.size ++ t.data.toList))).2 := by rw [e]; exact ⟨rfl, rfl⟩
  have p1 : c_vary_PutText.vary_Put = w_vary_Put := rfl
  have hw : IntKind.u64.wrap (t.size : Int) = ((t.size : Nat) : Int) := by rw [IntKind.wrap_u64]; omega
  have hp := pre_push σ (.row [.int .u64 ((t.size : Nat) : Int)] .rw)
  have hn : (⟨some σ.length, 0, 1⟩ : Sl).Is eU64 (σ ++ [.row [.int .u64 ((t.size : Nat) : Int)] .rw]) ([t.size].map Int.ofNat) := Sl.Is.new (E := eU64) (xs := [((t.size : Nat) : Int)]) (by simp)
  have hlt := fun b (hb : s.b = some b) => Own.lt hs hb
  have hPut := w_vary_Put_eq (s := s) (l := ⟨some σ.length, 0, 1⟩) (ys := ys) (ns := [t.size]) ⟨hs.pre hp, hn, by simp, fun n hn => by rw [List.mem_singleton] at hn; subst hn; omega, by simp; omega, fun b hb e => by have := hlt b hb; simp at e; omega⟩
  have hv : vputs [t.size] = vput t.size := by simp [vputs]
  rw [hv] at hPut
  have hvl := vput_len10 (n := t.size) (by omega)
  have ho := grow_own (E := eU8) (σ := σ ++ [.row [.int .u64 ((t.size : Nat) : Int)] .rw]) (s := s) (zs := ys ++ vput t.size)
  have hk := grow_kept (E := eU8) (σ := σ ++ [.row [.int .u64 ((t.size : Nat) : Int)] .rw]) (s := s) (zs := ys ++ vput t.size)
  have hf := grow_fst (E := eU8) (σ := σ ++ [.row [.int .u64 ((t.size : Nat) : Int)] .rw]) (s := s) (zs := ys ++ vput t.size)
  generalize grow eU8 (σ ++ [.row [.int .u64 ((t.size : Nat) : Int)] .rw]) s (ys ++ vput t.size) = g at hPut ho hk hf
  have hds : t.data.toList.length = t.size := rfl
  obtain ⟨q, σ2, a1, a2, a3, a4⟩ := append_own ho (ys := t.data.toList) (bytes := 1) (vs := (t.data.toList.map fun b => AVal.int .u8 b.toNat).take t.size) (k := t.size) (by rw [eU8_bytes, List.take_of_length_le (by rw [El.all_len, hds]; exact Nat.le_of_eq (Nat.mul_one _))]) hds.symm (by rw [List.length_append, hds]; omega) (by rw [List.length_append, hds]; omega)
  rw [List.append_assoc] at a2
  have a1' : g.2.append g.1.b g.1.o g.1.n 1 1 ((t.data.toList.map fun b => AVal.int .u8 b.toNat).take t.size) t.size = some (q, σ2) := a1
  have hgl : σ.length + 1 ≤ g.2.length := by have := hk.len; simpa using this
  have hgb : g.1.b = some (σ.length + 1) := by rw [hf]; simp
  refine call_grow (q := ⟨q.1, q.2.1, q.2.2⟩) (σ1 := σ2) (call_ok ok (K_vary_PutText c_vary_PutText ok_vary_Put) (L := 0) (n := 2) ((vary_PutText_eq c_vary_PutText 0 s t σ _).trans ?_)) hs a2 (by
    intro e
    exact vput_ne t.size (List.append_eq_nil_iff.1 (List.append_eq_nil_iff.1 e).2).1) ⟨by have := a3.len; omega, fun b hb hne => ?_⟩ (fun c hc => ?_)
  · rw [alloc, hw, p1]
    have hPut' : w_vary_Put s ⟨some σ.length, 0, 1⟩ (σ ++ [.row [.int .u64 ((t.size : Nat) : Int)] .rw]) = some g := hPut
    rw [hPut', Option.bind_some, a1', Option.bind_some]
  · rw [a3.at_ b (by omega) (by rw [hgb]; intro e; injection e with e; omega), hk.at_ b (by simp; omega) hne, List.getElem?_append_left hb]
  · rcases a4 c hc with h5 | h5
    · rw [hgb] at h5; injection h5 with h5; omega
    · omega

/-! ### Encode -/
theorem opA_inj {a b : POp} (h : opA a = opA b) : a = b := by
  obtain ⟨k, c, p, n, w, h1, d⟩ := a
  obtain ⟨k', c', p', n', w', h1', d'⟩ := b
  simp only [opA, api_Op.mk.injEq] at h
  obtain ⟨e1, e2, e3, e4, e5, e6, e7⟩ := h
  rw [Int.ofNat.inj e1, Int.ofNat.inj e2, Int.ofNat.inj e3, Int.ofNat.inj e4, Int.ofNat.inj e5, Int.ofNat.inj e6, ba_inj e7]
theorem Mine.grow {α : Type} {E : El α} {σ0 σ : Heap} {out : Sl} {ys : List α} (h : Mine E σ0 out σ ys) (zs : List α) : Mine E σ0 (grow E σ out zs).1 (grow E σ out zs).2 zs :=
  ⟨grow_kept.pre h.pre h.new, grow_own, fun c hc => by rw [grow_fst] at hc; injection hc with hc; have := h.pre.length_le; omega⟩
theorem op_cells {s : Sl} {σ : Heap} {l : List api_Op} (h : s.Is eOp σ l) {i : Nat} {x : api_Op} (hi : l[i]? = some x) : ∃ b, s.b = some b ∧ σ.cell? b (s.o + i * 7) = some (.int .i64 x.Kind) ∧ σ.cell? b (s.o + i * 7 + 1) = some (.int .i64 x.Client) ∧
    σ.cell? b (s.o + i * 7 + 2) = some (.int .i64 x.Pane) ∧ σ.cell? b (s.o + i * 7 + 3) = some (.int .i64 x.N) ∧ σ.cell? b (s.o + i * 7 + 4) = some (.int .i64 x.W) ∧ σ.cell? b (s.o + i * 7 + 5) = some (.int .i64 x.H) ∧ σ.cell? b (s.o + i * 7 + 6) = some (.str x.Data) := by
  obtain ⟨b, hb, hc⟩ := h.cell hi
  exact ⟨b, hb, hc 0 (by decide), hc 1 (by decide), hc 2 (by decide), hc 3 (by decide), hc 4 (by decide), hc 5 (by decide), hc 6 (by decide)⟩
noncomputable def c_script_Encode : C_script_Encode := ⟨w_vary_Put, w_vary_PutText⟩
theorem vputs6 (a b c d e f : Nat) : vputs [a, b, c, d, e, f] = vput a ++ (vput b ++ (vput c ++ (vput d ++ (vput e ++ vput f)))) := by simp [vputs]
theorem script_Encode_loop {R : Type} {L : Nat} {K : AVal → Heap → Option R} {σ0 : Heap} {l : Sl} {ops : List POp} (hl : l.Is eOp σ0 (ops.map opA)) (hT : ∀ o ∈ ops, o.Tame) :
    ∀ (d i m : Nat) (out : Sl) (σ : Heap) (ys : List UInt8), i + d = ops.length → d < m → Mine eU8 σ0 out σ ys → ys.length + (opsB (ops.drop i)).length ≤ 500000 → (ys = [] → out.b = none) →
      ∃ out' σ', Mine eU8 σ0 out' σ' (ys ++ opsB (ops.drop i)) ∧ (ys ++ opsB (ops.drop i) = [] → out'.b = none) ∧ script_Encode_L3 c_script_Encode L m out l (i : Int) σ K = K (.slice out'.b out'.o out'.n 1) σ'
  | d, i, 0, _, _, _, _, h, _, _, _ => by omega
  | 0, i, m + 1, out, σ, ys, h, _, hM, _, h0 => by
    refine ⟨out, σ, ?_, ?_, ?_⟩
    · rw [List.drop_eq_nil_of_le (by omega)]; simpa [opsB] using hM
    · rw [List.drop_eq_nil_of_le (by omega)]; simpa [opsB] using h0
    · rw [script_Encode_L3_eq, hl.n, List.length_map, lt_false (by omega)]
      rfl
  | d + 1, i, m + 1, out, σ, ys, h, hm, hM, hs, h0 => by
    have p1 : c_script_Encode.vary_Put = w_vary_Put := rfl
    have p2 : c_script_Encode.vary_PutText = w_vary_PutText := rfl
    have hi : i < ops.length := by omega
    have hlσ := hl.pre hM.pre
    have hsm := hl.small
    rw [List.length_map] at hsm
    obtain ⟨b, hb, c0, c1, c2, c3, c4, c5, c6⟩ := op_cells hlσ (i := i) (x := opA ops[i]) (by rw [List.getElem?_map, List.getElem?_eq_getElem hi]; rfl)
    have ht := hT ops[i] (List.getElem_mem hi)
    rw [List.drop_eq_getElem_cons hi, opsB, List.length_append] at hs
    generalize ho : ops[i] = o at *
    have hu : ∀ n : Nat, n < 18446744073709551616 → IntKind.u64.wrap (n : Int) = (n : Int) := fun n hn => by rw [IntKind.wrap_u64]; omega
    have w1 := hu o.k (by have := ht.k; omega)
    have w2 := hu o.c (by have := ht.c; omega)
    have w3 := hu o.p (by have := ht.p; omega)
    have w4 := hu o.n (by have := ht.n; omega)
    have w5 := hu o.w (by have := ht.w; omega)
    have w6 := hu o.h (by have := ht.h; omega)
    have hp := pre_push σ (.row [.int .u64 (o.k : Int), .int .u64 (o.c : Int), .int .u64 (o.p : Int), .int .u64 (o.n : Int), .int .u64 (o.w : Int), .int .u64 (o.h : Int)] .rw)
    have hM1 := hM.step hp
    have hn : (⟨some σ.length, 0, 6⟩ : Sl).Is eU64 (σ ++ [.row [.int .u64 (o.k : Int), .int .u64 (o.c : Int), .int .u64 (o.p : Int), .int .u64 (o.n : Int), .int .u64 (o.w : Int), .int .u64 (o.h : Int)] .rw]) ([o.k, o.c, o.p, o.n, o.w, o.h].map Int.ofNat) :=
      Sl.Is.new (E := eU64) (xs := [(o.k : Int), (o.c : Int), (o.p : Int), (o.n : Int), (o.w : Int), (o.h : Int)]) (by simp)
    have hPut := w_vary_Put_eq (s := out) (l := ⟨some σ.length, 0, 6⟩) (ys := ys) (ns := [o.k, o.c, o.p, o.n, o.w, o.h]) ⟨hM1.own, hn, by simp, fun n hn => by
      have h1 := ht.k; have h2 := ht.c; have h3 := ht.p; have h4 := ht.n; have h5 := ht.w; have h6 := ht.h
      simp only [List.mem_cons, List.not_mem_nil, or_false] at hn
      omega, by simp; omega, fun b hb e => by have := Own.lt hM.own hb; simp at e; omega⟩
    have hM2 := Mine.grow hM1 (ys ++ vputs [o.k, o.c, o.p, o.n, o.w, o.h])
    generalize grow eU8 (σ ++ [.row [.int .u64 (o.k : Int), .int .u64 (o.c : Int), .int .u64 (o.p : Int), .int .u64 (o.n : Int), .int .u64 (o.w : Int), .int .u64 (o.h : Int)] .rw]) out (ys ++ vputs [o.k, o.c, o.p, o.n, o.w, o.h]) = g at hPut hM2
    have hvl := vputs_len [o.k, o.c, o.p, o.n, o.w, o.h] (fun n hn => by
      have h1 := ht.k; have h2 := ht.c; have h3 := ht.p; have h4 := ht.n; have h5 := ht.w; have h6 := ht.h
      simp only [List.mem_cons, List.not_mem_nil, or_false] at hn
      omega)
    simp only [List.length_cons, List.length_nil] at hvl
    have hTx := w_vary_PutText_eq (t := ba o.d) hM2.own (by rw [ba_size]; have := ht.d; omega) (by rw [List.length_append]; omega)
    have hM3 := Mine.grow hM2 (ys ++ vputs [o.k, o.c, o.p, o.n, o.w, o.h] ++ (vput (ba o.d).size ++ (ba o.d).data.toList))
    have heq : ys ++ vputs [o.k, o.c, o.p, o.n, o.w, o.h] ++ (vput (ba o.d).size ++ (ba o.d).data.toList) = ys ++ opB o := by
      rw [vputs6, ba_size, ba_data]
      simp only [opB, List.append_assoc]
    rw [heq] at hTx hM3
    generalize grow eU8 g.2 g.1 (ys ++ opB o) = g' at hTx hM3
    obtain ⟨out', σ', k1, k2, k3⟩ := script_Encode_loop (L := L) (K := K) hl hT d (i + 1) m g'.1 g'.2 (ys ++ opB o) (by omega) (by omega) hM3 (by rw [List.length_append]; omega) (fun e => absurd (List.append_eq_nil_iff.1 e).2 (opB_ne o))
    rw [List.drop_eq_getElem_cons hi, opsB, ho, ← List.append_assoc]
    refine ⟨out', σ', k1, k2, ?_⟩
    rw [script_Encode_L3_eq]
    simp only [hl.n, List.length_map, dec0, lt_true hi, Bool.and_self, cond_true, hb, Option.bind_some, Int.toNat_natCast, c0, c1, c2, c3, c4, c5, c6, int?, str?, if_true, p1, p2, alloc]
    simp only [opA, w1, w2, w3, w4, w5, w6]
    have hPut' : w_vary_Put out ⟨some σ.length, 0, 6⟩ (σ ++ [.row [.int .u64 (o.k : Int), .int .u64 (o.c : Int), .int .u64 (o.p : Int), .int .u64 (o.n : Int), .int .u64 (o.w : Int), .int .u64 (o.h : Int)] .rw]) = some g := hPut
    rw [hPut', Option.bind_some, hTx, Option.bind_some, wrap_i64_succ i (by omega)]
    exact k3
noncomputable def w_script_Encode (l : Sl) (σ : Heap) : Option (Sl × Heap) :=
  wOf (fun ops : List POp => l.Is eOp σ (ops.map opA) ∧ (∀ o ∈ ops, o.Tame) ∧ (opsB ops).length ≤ 500000) fun ops => fresh eU8 σ (opsB ops).isEmpty (opsB ops)
theorem w_script_Encode_eq {l : Sl} {σ : Heap} {ops : List POp} (hl : l.Is eOp σ (ops.map opA)) (hT : ∀ o ∈ ops, o.Tame) (hs : (opsB ops).length ≤ 500000) : w_script_Encode l σ = some (fresh eU8 σ (opsB ops).isEmpty (opsB ops)) :=
  wOf_eq (P := fun ops : List POp => l.Is eOp σ (ops.map opA) ∧ (∀ o ∈ ops, o.Tame) ∧ (opsB ops).length ≤ 500000) (f := fun ops => fresh eU8 σ (opsB ops).isEmpty (opsB ops)) ⟨hl, hT, hs⟩ fun y hy => by
    rw [List.map_inj_right (fun a b h => opA_inj h) |>.1 (hy.1.uniq (by decide) hl)]
theorem ok_script_Encode : Ok_script_Encode w_script_Encode := fun l σ v σ' h => by
  obtain ⟨ops, ⟨hl, hT, hs⟩, e⟩ := wOf_some h
  obtain ⟨rfl, rfl⟩ : v = (fresh eU8 σ (opsB ops).isEmpty (opsB ops)).1 ∧ σ' = (fresh eU8 σ (opsB ops).isEmpty (opsB ops)).2 := by rw [e]; exact ⟨rfl, rfl⟩
  obtain ⟨out, σ1, k1, k2, k3⟩ := script_Encode_loop (R := AVal × Heap) (L := ops.length + 1) (K := fun v σ => some (v, σ)) hl hT ops.length 0 (ops.length + 1) ⟨none, 0, 0⟩ σ [] (by omega) (by omega) (Mine.start σ) (by simpa using hs) (fun _ => rfl)
  rw [List.drop_zero, List.nil_append] at k1 k2
  refine call_mine (out := out) (call_ok ok (K_script_Encode c_script_Encode ok_vary_Put ok_vary_PutText) (L := ops.length + 1) (n := 2) (σ' := σ1) ((script_Encode_eq c_script_Encode (ops.length + 1) l σ _).trans k3)) k1 ?_
  cases hd : opsB ops with
  | nil => rw [k2 hd]; rfl
  | cons y r => rw [Own.some_of_ne k1.own (by rw [hd]; simp)]; rfl
end Go.Abs.TE
namespace Go.Abs.TE
open Go Go.Abs Go.Proofs
def andN (x : Int) (m : Nat) : Nat := (BitVec.ofInt 64 x &&& BitVec.ofInt 64 (m : Int)).toNat
theorem andN_le (x : Int) {m : Nat} (hm : m < 18446744073709551616) : andN x m ≤ m := by
  unfold andN
  rw [BitVec.toNat_and]
  have e : (BitVec.ofInt 64 (m : Int)).toNat = m := by rw [BitVec.toNat_ofInt]; omega
  rw [e]
  exact Nat.and_le_right
theorem and_wrap (x : Int) {m : Nat} (hm : m ≤ 9223372036854775807) : IntKind.i64.wrap ((BitVec.ofInt IntKind.i64.bits x &&& BitVec.ofInt IntKind.i64.bits (m : Int)).toNat : Int) = (andN x m : Int) := by
  have h := andN_le x (m := m) (by omega)
  exact wrap_i64_nat _ (by unfold andN at h; exact Nat.le_trans h hm)
/-- An op whose bytes are read. -/
def tameP (a : api_Op) : POp := ⟨andN a.Kind 65535 % 9, andN a.Client 1023, andN a.Pane 1023, andN a.N 9223372036854775807, andN a.W 1023, andN a.H 1023, a.Data.data.toList.take 401⟩
theorem tameP_tame (a : api_Op) : (tameP a).Tame :=
  ⟨Nat.mod_lt _ (by decide), Nat.lt_of_le_of_lt (andN_le _ (by decide)) (by decide), Nat.lt_of_le_of_lt (andN_le _ (by decide)) (by decide), Nat.lt_of_le_of_lt (andN_le _ (by decide)) (by decide), Nat.lt_of_le_of_lt (andN_le _ (by decide)) (by decide), Nat.lt_of_le_of_lt (andN_le _ (by decide)) (by decide), by simp [tameP]; omega⟩
theorem cut401 (x : ByteArray) : (0 : Int) ≤ (if 401 < (x.size : Int) then 401 else (x.size : Int)) ∧ (if 401 < (x.size : Int) then 401 else (x.size : Int)) ≤ (x.size : Int) ∧ x.extract 0 (if 401 < (x.size : Int) then 401 else (x.size : Int)).toNat = ba (x.data.toList.take 401) := by
  have hs : x.data.toList.length = x.size := rfl
  refine ⟨by split <;> omega, by split <;> omega, ?_⟩
  rw [ba_self x, ba_to, ba_data, ba_size, hs]
  split
  · rfl
  · rw [Int.toNat_natCast, List.take_of_length_le (by omega), List.take_of_length_le (by omega)]
theorem law25_Tame_loop {R : Type} {L : Nat} {K : AVal → Heap → Option R} {σ0 : Heap} {l : Sl} {xs : List api_Op} (hl : l.Is eOp σ0 xs) (hs : xs.length ≤ 1000000) :
    ∀ (d i m : Nat) (out : Sl) (σ : Heap) (ys : List api_Op), i + d = xs.length → d < m → Mine eOp σ0 out σ ys → ys.length + d ≤ 1000000 → (ys = [] → out.b = none) →
      ∃ out' σ', Mine eOp σ0 out' σ' (ys ++ (xs.drop i).map fun a => opA (tameP a)) ∧ (ys ++ ((xs.drop i).map fun a => opA (tameP a)) = [] → out'.b = none) ∧ law25_Tame_L3 L m out l (i : Int) σ K = K (.slice out'.b out'.o out'.n 7) σ'
  | d, i, 0, _, _, _, _, h, _, _, _ => by omega
  | 0, i, m + 1, out, σ, ys, h, _, hM, _, h0 => by
    refine ⟨out, σ, ?_, ?_, ?_⟩
    · rw [List.drop_eq_nil_of_le (by omega)]; simpa using hM
    · rw [List.drop_eq_nil_of_le (by omega)]; simpa using h0
    · rw [law25_Tame_L3_eq, hl.n, lt_false (by omega)]
      rfl
  | d + 1, i, m + 1, out, σ, ys, h, hm, hM, hys, h0 => by
    have hi : i < xs.length := by omega
    have hlσ := hl.pre hM.pre
    obtain ⟨b, hb, c0, c1, c2, c3, c4, c5, c6⟩ := op_cells hlσ (i := i) (x := xs[i]) (List.getElem?_eq_getElem hi)
    rw [List.drop_eq_getElem_cons hi, List.map_cons]
    generalize xs[i] = a at *
    obtain ⟨k1, k2, k3⟩ := cut401 a.Data
    have e1 : Int.tmod (IntKind.i64.wrap ((BitVec.ofInt IntKind.i64.bits a.Kind &&& BitVec.ofInt IntKind.i64.bits 65535).toNat : Int)) 9 = ((tameP a).k : Int) := by
      have := and_wrap a.Kind (m := 65535) (by decide)
      rw [show ((65535 : Nat) : Int) = 65535 from rfl] at this
      rw [this]
      rfl
    have e2 := and_wrap a.Client (m := 1023) (by decide)
    have e3 := and_wrap a.Pane (m := 1023) (by decide)
    have e4 := and_wrap a.N (m := 9223372036854775807) (by decide)
    have e5 := and_wrap a.W (m := 1023) (by decide)
    have e6 := and_wrap a.H (m := 1023) (by decide)
    rw [show ((1023 : Nat) : Int) = 1023 from rfl] at e2 e3 e5 e6
    rw [show ((9223372036854775807 : Nat) : Int) = 9223372036854775807 from rfl] at e4
    obtain ⟨q, σ1, a1, a2⟩ := hM.append (zs := [opA (tameP a)]) (bytes := 64) (vs := (opA (tameP a)).cells) (k := 1) rfl rfl (by simp; omega) (by simp; omega)
    have a1' : σ.append out.b out.o out.n 7 64 [.int .i64 ((tameP a).k : Int), .int .i64 (andN a.Client 1023 : Int), .int .i64 (andN a.Pane 1023 : Int), .int .i64 (andN a.N 9223372036854775807 : Int), .int .i64 (andN a.W 1023 : Int), .int .i64 (andN a.H 1023 : Int), .str (ba (a.Data.data.toList.take 401))] 1 = some (q, σ1) := a1
    obtain ⟨out', σ', j1, j2, j3⟩ := law25_Tame_loop (L := L) (K := K) hl hs d (i + 1) m ⟨q.1, q.2.1, q.2.2⟩ σ1 (ys ++ [opA (tameP a)]) (by omega) (by omega) a2 (by simp; omega) (fun e => by simp at e)
    refine ⟨out', σ', by simpa using j1, fun e => by simp at e, ?_⟩
    rw [law25_Tame_L3_eq]
    simp only [hl.n, dec0, lt_true hi, Bool.and_self, cond_true, hb, Option.bind_some, Int.toNat_natCast, c0, c1, c2, c3, c4, c5, c6, int?, str?, if_true, e1, e2, e3, e4, e5, e6, k1, k2, k3, decide_true]
    rw [a1', Option.bind_some, wrap_i64_succ i (by omega)]
    exact j3
def tameL (xs : List api_Op) : List POp := xs.map tameP
noncomputable def w_law25_Tame (l : Sl) (σ : Heap) : Option (Sl × Heap) := wOf (fun xs : List api_Op => l.Is eOp σ xs ∧ xs.length ≤ 1000000) fun xs => fresh eOp σ xs.isEmpty ((tameL xs).map opA)
theorem w_law25_Tame_eq {l : Sl} {σ : Heap} {xs : List api_Op} (hl : l.Is eOp σ xs) (hs : xs.length ≤ 1000000) : w_law25_Tame l σ = some (fresh eOp σ xs.isEmpty ((tameL xs).map opA)) :=
  wOf_eq (P := fun xs : List api_Op => l.Is eOp σ xs ∧ xs.length ≤ 1000000) (f := fun xs => fresh eOp σ xs.isEmpty ((tameL xs).map opA)) ⟨hl, hs⟩ fun y hy => by rw [hy.1.uniq (by decide) hl]
theorem ok_law25_Tame : Ok_law25_Tame w_law25_Tame := fun l σ v σ' h => by
  obtain ⟨xs, ⟨hl, hs⟩, e⟩ := wOf_some h
  obtain ⟨rfl, rfl⟩ : v = (fresh eOp σ xs.isEmpty ((tameL xs).map opA)).1 ∧ σ' = (fresh eOp σ xs.isEmpty ((tameL xs).map opA)).2 := by rw [e]; exact ⟨rfl, rfl⟩
  obtain ⟨out, σ1, k1, k2, k3⟩ := law25_Tame_loop (R := AVal × Heap) (L := xs.length + 1) (K := fun v σ => some (v, σ)) hl hs xs.length 0 (xs.length + 1) ⟨none, 0, 0⟩ σ [] (by omega) (by omega) (Mine.start σ) (by simpa using hs) (fun _ => rfl)
  rw [List.drop_zero, List.nil_append] at k1 k2
  have e1 : (xs.map fun a => opA (tameP a)) = (tameL xs).map opA := by simp [tameL, Function.comp_def]
  rw [e1] at k1 k2
  refine call_mine (out := out) (call_ok ok known0_ok (L := xs.length + 1) (n := 2) (σ' := σ1) ((law25_Tame_eq (xs.length + 1) l σ _).trans k3)) k1 ?_
  cases hd : xs with
  | nil => rw [k2 (by rw [hd]; rfl)]; rfl
  | cons y r => rw [Own.some_of_ne k1.own (by rw [hd]; simp [tameL])]; rfl

/-! ### The same ops -/
theorem beq_toList (x y : ByteArray) : (x.toList == y.toList) = decide (x = y) := by
  rw [Bool.eq_iff_iff, beq_iff_eq, decide_eq_true_iff, ByteArray.toList_eq, ByteArray.toList_eq]
  exact ⟨fun h => by cases x; cases y; congr; exact Array.ext' h, fun h => by rw [h]⟩
instance : DecidableEq api_Op := fun a b => match a, b with
  | ⟨a1, a2, a3, a4, a5, a6, a7⟩, ⟨b1, b2, b3, b4, b5, b6, b7⟩ => decidable_of_iff (a1 = b1 ∧ a2 = b2 ∧ a3 = b3 ∧ a4 = b4 ∧ a5 = b5 ∧ a6 = b6 ∧ a7 = b7) (by simp)
theorem op_beq (a b : api_Op) : (((a.Kind : Int) == b.Kind) && (((a.Client : Int) == b.Client) && (((a.Pane : Int) == b.Pane) && (((a.N : Int) == b.N) && (((a.W : Int) == b.W) && (((a.H : Int) == b.H) && ((a.Data.toList == b.Data.toList) && true))))))) = decide (a = b) := by
  rw [Bool.eq_iff_iff]
  obtain ⟨a1, a2, a3, a4, a5, a6, a7⟩ := a
  obtain ⟨b1, b2, b3, b4, b5, b6, b7⟩ := b
  simp only [beq_toList, Bool.and_eq_true, beq_iff_eq, decide_eq_true_eq, and_true, api_Op.mk.injEq]
theorem law25_same_loop {R : Type} {L : Nat} {K : AVal → Heap → Option R} {σ : Heap} {a b : Sl} {xs ys : List api_Op} (ha : a.Is eOp σ xs) (hb : b.Is eOp σ ys) (hlen : xs.length = ys.length) :
    ∀ (d i m : Nat), i + d = xs.length → d < m → law25_same_L4 L m a b (i : Int) σ K = K (.bool (decide (xs.drop i = ys.drop i))) σ
  | d, i, 0, _, h => by omega
  | 0, i, m + 1, h, _ => by
    rw [law25_same_L4_eq, ha.n, lt_false (by omega), List.drop_eq_nil_of_le (by omega), List.drop_eq_nil_of_le (by omega)]
    rfl
  | d + 1, i, m + 1, h, hm => by
    have hi : i < xs.length := by omega
    have hi' : i < ys.length := by omega
    have hs := ha.small
    obtain ⟨p, hp, c0, c1, c2, c3, c4, c5, c6⟩ := op_cells ha (i := i) (x := xs[i]) (List.getElem?_eq_getElem hi)
    obtain ⟨q, hq, g0, g1, g2, g3, g4, g5, g6⟩ := op_cells hb (i := i) (x := ys[i]) (List.getElem?_eq_getElem hi')
    rw [law25_same_L4_eq, List.drop_eq_getElem_cons hi, List.drop_eq_getElem_cons hi']
    simp only [ha.n, hb.n, dec0, lt_true hi, lt_true hi', Bool.and_self, cond_true, hp, hq, Option.bind_some, Int.toNat_natCast, c0, c1, c2, c3, c4, c5, c6, g0, g1, g2, g3, g4, g5, g6, int?, str?, if_true, op_beq]
    by_cases e : xs[i] = ys[i]
    · rw [decide_eq_true e, Bool.not_true, cond_false, wrap_i64_succ i (by omega), law25_same_loop ha hb hlen d (i + 1) m (by omega) (by omega)]
      simp only [e, List.cons.injEq, true_and]
    · rw [decide_eq_false e, Bool.not_false, cond_true, decide_eq_false]
      intro h
      injection h with h
      exact e h
noncomputable def w_law25_same (a b : Sl) (σ : Heap) : Option (Bool × Heap) := wOf (fun p : List api_Op × List api_Op => a.Is eOp σ p.1 ∧ b.Is eOp σ p.2) fun p => (decide (p.1 = p.2), σ)
theorem w_law25_same_eq {a b : Sl} {σ : Heap} {xs ys : List api_Op} (ha : a.Is eOp σ xs) (hb : b.Is eOp σ ys) : w_law25_same a b σ = some (decide (xs = ys), σ) :=
  wOf_eq (P := fun p : List api_Op × List api_Op => a.Is eOp σ p.1 ∧ b.Is eOp σ p.2) (f := fun p => (decide (p.1 = p.2), σ)) (x := (xs, ys)) ⟨ha, hb⟩ fun y hy => by
    obtain ⟨x', y'⟩ := y
    rw [show x' = xs from hy.1.uniq (by decide) ha, show y' = ys from hy.2.uniq (by decide) hb]
theorem ok_law25_same : Ok_law25_same w_law25_same := fun a b σ v σ' h => by
  obtain ⟨⟨xs, ys⟩, ⟨ha, hb⟩, e⟩ := wOf_some h
  injection e with e1 e2
  subst e1; subst e2
  simp only at ha hb
  refine call_ok ok known0_ok (L := xs.length + 1) (n := 2) ((law25_same_eq (xs.length + 1) a b σ _).trans ?_)
  rw [ha.n, hb.n]
  by_cases hl : xs.length = ys.length
  · rw [show ((xs.length : Int) != (ys.length : Int)) = false by simp [hl], cond_false]
    exact law25_same_loop ha hb hl xs.length 0 (xs.length + 1) (by omega) (by omega)
  · rw [show ((xs.length : Int) != (ys.length : Int)) = true by simp only [bne_iff_ne, ne_eq]; omega, cond_true]
    rw [show decide ((xs, ys).fst = (xs, ys).snd) = false from decide_eq_false fun e => hl (by simp only at e; rw [e])]
    rfl
end Go.Abs.TE
