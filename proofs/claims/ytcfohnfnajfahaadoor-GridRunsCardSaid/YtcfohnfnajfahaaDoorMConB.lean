/-
Contracts of vary: numbers' bytes behind others.
Contracts of vary: taking numbers, a reader.
Contracts of vary's reader.
Styles as bytes: contracts of bits, PutStyle, TakeStyle; they come back.
-/
import Derived.Test.YtcfohnfnajfahaaDoorMConA
import Derived.Test.YtcfohnfnajfahaaDoorMAd
import Derived.Test.YtcfohnfnajfahaaDoorEqA2
namespace Go.Abs.TA
open Go Go.Abs Go.Proofs

def eU8 : El UInt8 := ⟨1, fun b => [.int .u8 (b.toNat : Int)], fun _ => rfl, fun a b h => by
  simp at h
  exact UInt8.toNat_inj.1 (by omega)⟩
instance : El.Flat eU8 := ⟨fun _ => rfl⟩
def eU64 : El Int := ⟨1, fun n => [.int .u64 n], fun _ => rfl, fun a b h => by simpa using h⟩
instance : El.Flat eU64 := ⟨fun _ => rfl⟩
theorem u64_cell {s : Sl} {σ : Heap} {l : List Int} (h : s.Is eU64 σ l) {i : Nat} {x : Int} (hi : l[i]? = some x) : ∃ b, s.b = some b ∧ σ.cell? b (s.o + i * 1) = some (.int .u64 x) := by
  obtain ⟨b, hb, hc⟩ := h.cell hi
  exact ⟨b, hb, hc 0 (by decide)⟩
theorem u8_cell {s : Sl} {σ : Heap} {l : List UInt8} (h : s.Is eU8 σ l) {i : Nat} {x : UInt8} (hi : l[i]? = some x) : ∃ b, s.b = some b ∧ σ.cell? b (s.o + i * 1) = some (.int .u8 (x.toNat : Int)) := by
  obtain ⟨b, hb, hc⟩ := h.cell hi
  exact ⟨b, hb, hc 0 (by decide)⟩

/-- A number's bytes. -/
def vput (n : Nat) : List UInt8 := if n < 128 then [UInt8.ofNat n] else UInt8.ofNat (n % 128 + 128) :: vput (n / 128)
termination_by n
decreasing_by omega
theorem vput_lt {n : Nat} (h : n < 128) : vput n = [UInt8.ofNat n] := by rw [vput, if_pos h]
theorem vput_ge {n : Nat} (h : 128 ≤ n) : vput n = UInt8.ofNat (n % 128 + 128) :: vput (n / 128) := by rw [vput, if_neg (by omega)]
def vputs : List Nat → List UInt8
  | [] => []
  | n :: ns => vput n ++ vputs ns
theorem vput_ne (n : Nat) : vput n ≠ [] := by
  rw [vput]
  split <;> simp
theorem vput_len : ∀ (k n : Nat), n < 128 ^ k → 0 < k → (vput n).length ≤ k
  | 0, n, h, h0 => by omega
  | k + 1, n, h, _ => by
    by_cases h1 : n < 128
    · rw [vput_lt h1]; simp
    · rw [vput_ge (by omega)]
      cases k with
      | zero => simp at h; omega
      | succ k =>
        have := vput_len (k + 1) (n / 128) (by rw [Nat.div_lt_iff_lt_mul (by omega), ← Nat.pow_succ]; exact h) (by omega)
        simp; omega
theorem vput_len10 {n : Nat} (h : n < 18446744073709551616) : (vput n).length ≤ 10 := vput_len 10 n (Nat.lt_of_lt_of_le h (by decide)) (by omega)
theorem u8_wrap (n : Nat) : IntKind.u8.wrap (n : Int) = ((UInt8.ofNat n).toNat : Int) := by
  rw [IntKind.wrap_u8]
  simp
theorem u8_or128 (n : Nat) : IntKind.u8.wrap (BitVec.ofInt IntKind.u8.bits (IntKind.u8.wrap (n : Int)) ||| BitVec.ofInt IntKind.u8.bits 128).toNat = ((UInt8.ofNat (n % 128 + 128)).toNat : Int) := by
  rw [BitVec.toNat_or]
  have e1 : (BitVec.ofInt IntKind.u8.bits (IntKind.u8.wrap (n : Int))).toNat = n % 256 := by
    rw [IntKind.wrap_u8]
    show (BitVec.ofInt 8 ((n : Int) % 256)).toNat = _
    rw [BitVec.toNat_ofInt]
    omega
  have e2 : (BitVec.ofInt IntKind.u8.bits 128).toNat = 128 := by decide
  rw [e1, e2]
  have key : ∀ m : Fin 256, (m.val ||| 128) = m.val % 128 + 128 := by decide +kernel
  have := key ⟨n % 256, Nat.mod_lt _ (by omega)⟩
  simp only at this
  rw [this, u8_wrap]
  congr 2
  congr 1
  omega
theorem fdiv128 (n : Nat) : Int.fdiv (n : Int) (2 ^ 7) = ((n / 128 : Nat) : Int) := by
  rw [Int.fdiv_eq_ediv_of_nonneg _ (by decide)]
  simp

theorem vary_Put_L4_ok {R : Type} {L : Nat} {l : Sl} {x : Int} {fu : Nat} {σ0 : Heap} {s : Sl} {K : AVal → Heap → Option R} :
    ∀ (k n m : Nat) (b : Sl) (σ : Heap) (ys : List UInt8), n < 128 ^ k → k < m → Grown eU8 s σ0 b σ ys → ys.length + k ≤ 2000000 →
      ∃ b1 σ1, Grown eU8 s σ0 b1 σ1 (ys ++ vput n) ∧ (∀ c, b1.b = some c → σ0.length ≤ c) ∧
        vary_Put_L4 L fu m b (n : Int) l x σ K = vary_Put_L2 L fu b1 l (IntKind.i64.wrap (x + 1)) σ1 K
  | k, n, 0, _, _, _, _, h, _, _ => by omega
  | k, n, m + 1, b, σ, ys, hn, hm, hg, hl => by
    rw [vary_Put_L4_eq]
    by_cases h : n < 128
    · rw [show decide ((n : Int) ≥ 128) = false by simp; omega, cond_false, u8_wrap]
      obtain ⟨q, σ', h1, h2, h3⟩ := hg.append (zs := [UInt8.ofNat n]) (bytes := 1) (vs := [.int .u8 ((UInt8.ofNat n).toNat : Int)]) (k := 1) rfl rfl (by simp) (by simp; omega) (by simp; omega)
      have h1' : σ.append b.b b.o b.n 1 1 [.int .u8 ((UInt8.ofNat n).toNat : Int)] 1 = some (q, σ') := h1
      rw [h1', Option.bind_some, vput_lt h]
      exact ⟨_, _, h2, h3, rfl⟩
    · cases k with
      | zero => simp at hn; omega
      | succ k =>
        rw [show decide ((n : Int) ≥ 128) = true by simp; omega, cond_true, u8_or128, fdiv128]
        obtain ⟨q, σ', h1, h2, h3⟩ := hg.append (zs := [UInt8.ofNat (n % 128 + 128)]) (bytes := 1) (vs := [.int .u8 ((UInt8.ofNat (n % 128 + 128)).toNat : Int)]) (k := 1) rfl rfl (by simp) (by simp; omega) (by simp; omega)
        have h1' : σ.append b.b b.o b.n 1 1 [.int .u8 ((UInt8.ofNat (n % 128 + 128)).toNat : Int)] 1 = some (q, σ') := h1
        obtain ⟨b1, σ1, k1, k2, k3⟩ := vary_Put_L4_ok (L := L) (l := l) (x := x) (fu := fu) (K := K) k (n / 128) m ⟨q.1, q.2.1, q.2.2⟩ σ' _ (by rw [Nat.div_lt_iff_lt_mul (by omega), ← Nat.pow_succ]; exact hn) (by omega) h2 (by simp; omega)
        refine ⟨b1, σ1, ?_, k2, ?_⟩
        · rw [vput_ge (by omega)]
          simpa using k1
        · rw [h1', Option.bind_some]
          exact k3
theorem vputs_len : ∀ (ns : List Nat), (∀ n ∈ ns, n < 18446744073709551616) → (vputs ns).length ≤ 10 * ns.length
  | [], _ => by simp [vputs]
  | n :: ns, h => by
    have h1 := vput_len10 (h n List.mem_cons_self)
    have h2 := vputs_len ns fun m hm => h m (List.mem_cons_of_mem _ hm)
    simp only [vputs, List.length_append, List.length_cons]
    omega
theorem vputs_append : ∀ (a b : List Nat), vputs (a ++ b) = vputs a ++ vputs b
  | [], b => rfl
  | n :: a, b => by simp [vputs, vputs_append a b]
theorem vary_Put_loop {R : Type} {L : Nat} {l s : Sl} {σ0 : Heap} {K : AVal → Heap → Option R} {ns : List Nat} (hL : 10 < L) (hl : l.Is eU64 σ0 (ns.map Int.ofNat)) (hne : ∀ b, s.b = some b → l.b ≠ some b) (hns : ∀ n ∈ ns, n < 18446744073709551616) :
    ∀ (d i m : Nat) (b : Sl) (σ : Heap) (ys : List UInt8), i + d = ns.length → d < m → Grown eU8 s σ0 b σ ys → ys.length + 10 * d ≤ 1000000 → (0 < i → ∀ c, b.b = some c → σ0.length ≤ c) →
      ∃ b1 σ1, Grown eU8 s σ0 b1 σ1 (ys ++ vputs (ns.drop i)) ∧ (0 < ns.length → ∀ c, b1.b = some c → σ0.length ≤ c) ∧ vary_Put_L2 L m b l (i : Int) σ K = K (.slice b1.b b1.o b1.n 1) σ1
  | d, i, 0, _, _, _, _, h, _, _, _ => by omega
  | 0, i, m + 1, b, σ, ys, h, _, hg, _, hi => by
    refine ⟨b, σ, ?_, fun h0 => hi (by omega), ?_⟩
    · rw [List.drop_eq_nil_of_le (by omega), vputs, List.append_nil]; exact hg
    · rw [vary_Put_L2_eq, hl.n, List.length_map, lt_false (by omega)]
      rfl
  | d + 1, i, m + 1, b, σ, ys, h, hm, hg, hb, _ => by
    have hi : i < ns.length := by omega
    have hl' := hl.kept hg.kept hne
    have hs := hl.small
    rw [List.length_map] at hs
    obtain ⟨c, hc, f0⟩ := u64_cell hl' (i := i) (x := (ns[i] : Int)) (by rw [List.getElem?_map, List.getElem?_eq_getElem hi]; rfl)
    have hn := hns ns[i] (List.getElem_mem hi)
    obtain ⟨b1, σ1, k1, k2, k3⟩ := vary_Put_L4_ok (L := L) (l := l) (x := (i : Int)) (fu := m) (K := K) 10 ns[i] L b σ ys (Nat.lt_of_lt_of_le hn (by decide)) hL hg (by omega)
    have hvl := vput_len10 hn
    obtain ⟨b2, σ2, j1, j2, j3⟩ := vary_Put_loop (K := K) hL hl hne hns d (i + 1) m b1 σ1 (ys ++ vput ns[i]) (by omega) (by omega) k1 (by simp; omega) (fun _ => k2)
    refine ⟨b2, σ2, ?_, j2, ?_⟩
    · rw [List.drop_eq_getElem_cons hi, vputs]
      simpa using j1
    · rw [vary_Put_L2_eq]
      simp only [hl.n, List.length_map, dec0, lt_true hi, Bool.and_self, cond_true, hc, Option.bind_some, Int.toNat_natCast, f0, int?, if_true]
      rw [k3, wrap_i64_succ i (by omega)]
      exact j3

structure PutPre (s l : Sl) (σ : Heap) (ys : List UInt8) (ns : List Nat) : Prop where
  own : s.Own eU8 σ ys
  nums : l.Is eU64 σ (ns.map Int.ofNat)
  ne : ns ≠ []
  lt : ∀ n ∈ ns, n < 18446744073709551616
  small : ys.length + 10 * ns.length ≤ 1000000
  apart : ∀ b, s.b = some b → l.b ≠ some b
noncomputable def w_vary_Put (s l : Sl) (σ : Heap) : Option (Sl × Heap) := wOf (fun p : List UInt8 × List Nat => PutPre s l σ p.1 p.2) fun p => grow eU8 σ s (p.1 ++ vputs p.2)
theorem w_vary_Put_eq {s l : Sl} {σ : Heap} {ys : List UInt8} {ns : List Nat} (h : PutPre s l σ ys ns) : w_vary_Put s l σ = some (grow eU8 σ s (ys ++ vputs ns)) :=
  wOf_eq (x := (ys, ns)) h fun p hp => by
    obtain ⟨y, n⟩ := p
    rw [show y = ys from hp.own.uniq (by decide) h.own]
    have : n = ns := by
      have e := hp.nums.uniq (by decide) h.nums
      exact List.map_inj_right (fun a b h => Int.ofNat.inj h) |>.1 e
    rw [this]
theorem vputs_ne {ns : List Nat} (h : ns ≠ []) : vputs ns ≠ [] := by
  cases ns with
  | nil => exact absurd rfl h
  | cons n ns =>
    rw [vputs]
    intro e
    exact vput_ne n (List.append_eq_nil_iff.1 e).1
theorem ok_vary_Put : Ok_vary_Put w_vary_Put := fun s l σ v σ' h => by
  obtain ⟨⟨ys, ns⟩, hp, e⟩ := wOf_some h
  obtain ⟨rfl, rfl⟩ : v = (grow eU8 σ s (ys ++ vputs ns)).1 ∧ σ' = (grow eU8 σ s (ys ++ vputs ns)).2 := by rw [e]; exact ⟨rfl, rfl⟩
  have hsm := hp.small
  simp only at hsm
  obtain ⟨b1, σ1, k1, k2, k3⟩ := vary_Put_loop (R := AVal × Heap) (L := ns.length + 11) (K := fun v σ => some (v, σ)) (by omega) hp.nums hp.apart hp.lt ns.length 0 (ns.length + 11) s σ ys (by simp) (by omega) (Grown.start hp.own) (by omega) (fun h => by omega)
  rw [List.drop_zero] at k1
  exact call_grow (call_ok ok known0_ok (L := ns.length + 11) (n := 2) ((vary_Put_eq (ns.length + 11) s l σ _).trans k3)) hp.own k1.own (by
    intro e
    exact vputs_ne hp.ne (List.append_eq_nil_iff.1 e).2) k1.kept (k2 (List.length_pos_iff.2 hp.ne))
end Go.Abs.TA
namespace Go.Abs.TA
open Go Go.Abs Go.Proofs

/-- The number that bytes begin with, and how many it has; 0, 0: none. -/
def vtakeGo : Nat → Nat → List UInt8 → Nat × Nat
  | _, _, [] => (0, 0)
  | i, n, c :: cs => if (i = 9 ∧ c.toNat > 1) ∨ i > 9 then (0, 0) else
      if c.toNat < 128 then (if c.toNat = 0 ∧ i > 0 then (0, 0) else (n + c.toNat % 128 * 2 ^ (7 * i), i + 1))
      else vtakeGo (i + 1) (n + c.toNat % 128 * 2 ^ (7 * i)) cs
def vtake (xs : List UInt8) : Nat × Nat := vtakeGo 0 0 xs
theorem and127 (c : UInt8) : IntKind.u8.wrap (BitVec.ofInt IntKind.u8.bits (c.toNat : Int) &&& BitVec.ofInt IntKind.u8.bits 127).toNat = ((c.toNat % 128 : Nat) : Int) := by
  have hc := c.toNat_lt
  rw [BitVec.toNat_and]
  have e1 : (BitVec.ofInt IntKind.u8.bits (c.toNat : Int)).toNat = c.toNat := by
    show (BitVec.ofInt 8 (c.toNat : Int)).toNat = _
    rw [BitVec.toNat_ofInt]
    omega
  have e2 : (BitVec.ofInt IntKind.u8.bits 127).toNat = 127 := by decide
  rw [e1, e2]
  have key : ∀ m : Fin 256, (m.val &&& 127) = m.val % 128 := by decide +kernel
  have := key ⟨c.toNat, hc⟩
  simp only at this
  rw [this, IntKind.wrap_u8]
  omega
theorem pow7 {i : Nat} (h : i ≤ 9) : 2 ^ (7 * i) ≤ 9223372036854775808 := by
  have : 2 ^ (7 * i) ≤ 2 ^ 63 := Nat.pow_le_pow_right (by decide) (by omega)
  exact this
theorem take_step {n i : Nat} {c : UInt8} (hn : n < 2 ^ (7 * i)) (hi : i ≤ 9) (hc : i = 9 → c.toNat ≤ 1) :
    n + c.toNat % 128 * 2 ^ (7 * i) < 18446744073709551616 ∧ (i < 9 → n + c.toNat % 128 * 2 ^ (7 * i) < 2 ^ (7 * (i + 1))) := by
  have hp := pow7 hi
  constructor
  · by_cases h : i = 9
    · subst h
      have := hc rfl
      have h1 : c.toNat % 128 ≤ 1 := by omega
      have : c.toNat % 128 * 2 ^ (7 * 9) ≤ 1 * 2 ^ (7 * 9) := Nat.mul_le_mul_right _ h1
      have e : (2 : Nat) ^ (7 * 9) = 9223372036854775808 := by decide
      omega
    · have h1 : c.toNat % 128 ≤ 127 := by omega
      have h2 : c.toNat % 128 * 2 ^ (7 * i) ≤ 127 * 2 ^ (7 * i) := Nat.mul_le_mul_right _ h1
      have h3 : 2 ^ (7 * i) ≤ 2 ^ 56 := Nat.pow_le_pow_right (by decide) (by omega)
      have e : (2 : Nat) ^ 56 = 72057594037927936 := by decide
      omega
  · intro h
    have h1 : c.toNat % 128 ≤ 127 := by omega
    have h2 : c.toNat % 128 * 2 ^ (7 * i) ≤ 127 * 2 ^ (7 * i) := Nat.mul_le_mul_right _ h1
    rw [show 7 * (i + 1) = 7 * i + 7 by omega, Nat.pow_add]
    omega
theorem take_or {n i : Nat} {c : UInt8} (hn : n < 2 ^ (7 * i)) (hi : i ≤ 9) (hc : i = 9 → c.toNat ≤ 1) :
    IntKind.u64.wrap (BitVec.ofInt IntKind.u64.bits (n : Int) ||| BitVec.ofInt IntKind.u64.bits (IntKind.u64.wrap ((IntKind.u64.wrap ((c.toNat % 128 : Nat) : Int)) * 2 ^ (min (IntKind.i64.wrap (7 * (i : Int))).toNat IntKind.u64.bits)))).toNat = ((n + c.toNat % 128 * 2 ^ (7 * i) : Nat) : Int) := by
  have hs := (take_step (c := c) hn hi hc).1
  have hp := pow7 hi
  rw [show IntKind.i64.wrap (7 * (i : Int)) = ((7 * i : Nat) : Int) by rw [wrap_i64_of (by omega) (by omega)]; simp, Int.toNat_natCast, show min (7 * i) IntKind.u64.bits = 7 * i by have : IntKind.u64.bits = 64 := rfl; omega]
  rw [IntKind.wrap_u64, IntKind.wrap_u64, IntKind.wrap_u64]
  rw [show ((c.toNat % 128 : Nat) : Int) % 18446744073709551616 = ((c.toNat % 128 : Nat) : Int) by omega]
  rw [show (((c.toNat % 128 : Nat) : Int) * 2 ^ (7 * i)) = ((c.toNat % 128 * 2 ^ (7 * i) : Nat) : Int) by simp]
  rw [show ((c.toNat % 128 * 2 ^ (7 * i) : Nat) : Int) % 18446744073709551616 = ((c.toNat % 128 * 2 ^ (7 * i) : Nat) : Int) by omega]
  rw [BitVec.toNat_or]
  have e : ∀ m : Nat, m < 18446744073709551616 → (BitVec.ofInt IntKind.u64.bits (m : Int)).toNat = m := fun m hm => by
    show (BitVec.ofInt 64 (m : Int)).toNat = _
    rw [BitVec.toNat_ofInt]
    omega
  rw [e n (by omega), e _ (by omega)]
  have := Nat.two_pow_add_eq_or_of_lt hn (c.toNat % 128)
  rw [Nat.or_comm, Nat.mul_comm, ← this, Nat.mul_comm]
  omega
theorem vary_Take_loop {R : Type} {L : Nat} {b : Sl} {σ : Heap} {K : AVal → Heap → Option R} {xs : List UInt8} (hb : b.Is eU8 σ xs) :
    ∀ (d i m n : Nat), i + d = xs.length → d < m → (i ≤ 9 → n < 2 ^ (7 * i)) → vary_Take_L3 L m (n : Int) b (i : Int) σ K = K (.tuple [.int .u64 ((vtakeGo i n (xs.drop i)).1 : Int), .int .i64 ((vtakeGo i n (xs.drop i)).2 : Int)]) σ
  | d, i, 0, _, _, h, _ => by omega
  | 0, i, m + 1, n, h, _, _ => by
    rw [vary_Take_L3_eq, hb.n, lt_false (by omega), cond_false, List.drop_eq_nil_of_le (by omega)]
    rfl
  | d + 1, i, m + 1, n, h, hm, hn => by
    have hi : i < xs.length := by omega
    have hs := hb.small
    obtain ⟨c, hc, f0⟩ := u8_cell hb (List.getElem?_eq_getElem hi)
    rw [vary_Take_L3_eq]
    simp only [hb.n, dec0, lt_true hi, Bool.and_self, cond_true, hc, Option.bind_some, Int.toNat_natCast, f0, int?, if_true, and127, wrap_i64_succ i (by omega)]
    rw [List.drop_eq_getElem_cons hi]
    by_cases h9 : i > 9
    · have ev : vtakeGo i n (xs[i] :: xs.drop (i + 1)) = (0, 0) := by rw [vtakeGo]; exact if_pos (.inr h9)
      rw [ev, show ((i : Int) == 9) = false by simp; omega, cond_false, show decide ((i : Int) > 9) = true by simp; omega, cond_true]
      rfl
    · by_cases h8 : i = 9 ∧ xs[i].toNat > 1
      · have ev : vtakeGo i n (xs[i] :: xs.drop (i + 1)) = (0, 0) := by rw [vtakeGo]; exact if_pos (.inl h8)
        rw [ev, show ((i : Int) == 9) = true by simp; omega, cond_true, show decide (((xs[i].toNat : Nat) : Int) > 1) = true by simp; omega, cond_true]
        rfl
      · have hor := take_or (c := xs[i]) (hn (by omega)) (by omega) (fun e => by omega)
        have hst := (take_step (c := xs[i]) (hn (by omega)) (by omega) (fun e => by omega)).2
        have hng : ¬ IntKind.i64.wrap (7 * (i : Int)) < 0 := by rw [wrap_i64_of (by omega) (by omega)]; omega
        have ih := vary_Take_loop (L := L) (K := K) hb d (i + 1) m (n + xs[i].toNat % 128 * 2 ^ (7 * i)) (by omega) (by omega) (fun h => hst (by omega))
        rw [show decide ((i : Int) > 9) = false by simp; omega]
        simp only [cond_false, if_neg hng, hor, ih]
        generalize hN : n + xs[i].toNat % 128 * 2 ^ (7 * i) = N
        have hcond : ¬ ((i = 9 ∧ xs[i].toNat > 1) ∨ i > 9) := fun h => h.elim h8 h9
        have ev : vtakeGo i n (xs[i] :: xs.drop (i + 1)) = (if xs[i].toNat < 128 then (if xs[i].toNat = 0 ∧ i > 0 then (0, 0) else (N, i + 1)) else vtakeGo (i + 1) N (xs.drop (i + 1))) := by
          rw [vtakeGo, if_neg hcond, hN]
        rw [ev]
        have tail : (bif decide (((xs[i].toNat : Nat) : Int) < 128) then (bif (((xs[i].toNat : Nat) : Int) == 0) then (bif decide ((i : Int) > 0) then K (.tuple [.int .u64 0, .int .i64 0]) σ else K (.tuple [.int .u64 (N : Int), .int .i64 ((i + 1 : Nat) : Int)]) σ) else K (.tuple [.int .u64 (N : Int), .int .i64 ((i + 1 : Nat) : Int)]) σ)
            else K (.tuple [.int .u64 ((vtakeGo (i + 1) N (xs.drop (i + 1))).1 : Int), .int .i64 ((vtakeGo (i + 1) N (xs.drop (i + 1))).2 : Int)]) σ) =
            K (.tuple [.int .u64 (((if xs[i].toNat < 128 then (if xs[i].toNat = 0 ∧ i > 0 then (0, 0) else (N, i + 1)) else vtakeGo (i + 1) N (xs.drop (i + 1))).1 : Nat) : Int), .int .i64 (((if xs[i].toNat < 128 then (if xs[i].toNat = 0 ∧ i > 0 then (0, 0) else (N, i + 1)) else vtakeGo (i + 1) N (xs.drop (i + 1))).2 : Nat) : Int)]) σ := by
          by_cases a1 : xs[i].toNat < 128
          · rw [show decide (((xs[i].toNat : Nat) : Int) < 128) = true by simp; omega, cond_true, if_pos a1]
            by_cases a2 : xs[i].toNat = 0
            · rw [show (((xs[i].toNat : Nat) : Int) == 0) = true by rw [a2]; rfl, cond_true]
              by_cases a3 : i > 0
              · rw [show decide ((i : Int) > 0) = true by simp; omega, cond_true, if_pos ⟨a2, a3⟩]
                rfl
              · rw [show decide ((i : Int) > 0) = false by simp; omega, cond_false, if_neg (fun h => a3 h.2)]
            · rw [show (((xs[i].toNat : Nat) : Int) == 0) = false by rw [beq_eq_false_iff_ne]; omega, cond_false, if_neg (fun h => a2 h.1)]
          · rw [show decide (((xs[i].toNat : Nat) : Int) < 128) = false by simp; omega, cond_false, if_neg a1]
        by_cases e9 : i = 9
        · rw [show ((i : Int) == 9) = true by simp; omega, cond_true, show decide (((xs[i].toNat : Nat) : Int) > 1) = false by rw [decide_eq_false_iff_not]; omega, cond_false]
          exact tail
        · rw [show ((i : Int) == 9) = false by simp; omega, cond_false]
          exact tail
noncomputable def w_vary_Take (b : Sl) (σ : Heap) : Option ((Int × Int) × Heap) := wOf (fun xs => b.Is eU8 σ xs) fun xs => (((vtake xs).1, (vtake xs).2), σ)
theorem w_vary_Take_eq {b : Sl} {σ : Heap} {xs : List UInt8} (h : b.Is eU8 σ xs) : w_vary_Take b σ = some ((((vtake xs).1 : Int), ((vtake xs).2 : Int)), σ) :=
  wOf_eq h fun y hy => by rw [hy.uniq (by decide) h]
theorem ok_vary_Take : Ok_vary_Take w_vary_Take := fun b σ v σ' h => by
  obtain ⟨xs, hb, e⟩ := wOf_some h
  injection e with e1 e2
  subst e1; subst e2
  exact call_ok ok known0_ok (L := xs.length + 1) (n := 2) ((vary_Take_eq (xs.length + 1) b σ _).trans (vary_Take_loop hb xs.length 0 (xs.length + 1) 0 (by simp) (by omega) (fun _ => by simp)))
end Go.Abs.TA
namespace Go.Abs.TA
open Go Go.Abs Go.Proofs

/-- A reader lies there. -/
def Rdr (σ : Heap) (p : Nat) (s : Sl) (bad : Bool) : Prop := σ[p]? = some (.row [.slice s.b s.o s.n 1, .bool bad] .rw)
def setR (σ : Heap) (p : Nat) (s : Sl) (bad : Bool) : Heap := σ.set p (.row [.slice s.b s.o s.n 1, .bool bad] .rw)
section
variable {σ : Heap} {p : Nat} {s : Sl} {bad : Bool}
theorem Rdr.lt (h : Rdr σ p s bad) : p < σ.length := (List.getElem?_eq_some_iff.1 h).1
theorem Rdr.row (h : Rdr σ p s bad) : σ.row? p = some [.slice s.b s.o s.n 1, .bool bad] := row?_of h (by simp)
theorem Rdr.cell0 (h : Rdr σ p s bad) : slice? (σ.cell? p 0) 1 = some (s.b, s.o, s.n) := by
  unfold Heap.cell?
  rw [h.row]
  rfl
theorem Rdr.cell1 (h : Rdr σ p s bad) : bool? (σ.cell? p (0 + 1)) = some bad := by
  unfold Heap.cell?
  rw [h.row]
  rfl
theorem Rdr.set (h : Rdr σ p s bad) (s' : Sl) (bad' : Bool) : Rdr (setR σ p s' bad') p s' bad' := by
  unfold Rdr setR
  exact List.getElem?_set_self h.lt
theorem Rdr.set_bad (h : Rdr σ p s bad) (b : Bool) : σ.store p (0 + 1) [.bool b] = some (setR σ p s b) := by
  unfold Heap.store
  unfold Rdr at h
  rw [h]
  rfl
theorem Rdr.set_sl (h : Rdr σ p s bad) (t : Sl) : σ.store p 0 [.slice t.b t.o t.n 1] = some (setR σ p t bad) := by
  unfold Heap.store
  unfold Rdr at h
  rw [h]
  rfl
theorem Rdr.uniq {s' : Sl} {bad' : Bool} (h : Rdr σ p s bad) (h' : Rdr σ p s' bad') : s = s' ∧ bad = bad' := by
  unfold Rdr at h h'
  rw [h] at h'
  simp at h'
  obtain ⟨⟨h1, h2, h3⟩, h4⟩ := h'
  refine ⟨?_, h4⟩
  cases s; cases s'
  simp at h1 h2 h3
  rw [h1, h2, h3]
theorem setR_len : (setR σ p s bad).length = σ.length := by simp [setR]
theorem setR_ne {b : Nat} (h : b ≠ p) : (setR σ p s bad)[b]? = σ[b]? := List.getElem?_set_ne (Ne.symm h)
end
theorem vtakeGo_le : ∀ (xs : List UInt8) (i n : Nat), (vtakeGo i n xs).2 ≤ i + xs.length
  | [], i, n => by simp [vtakeGo]
  | c :: cs, i, n => by
    rw [vtakeGo]
    split
    · simp
    · split
      · split
        · simp
        · simp only [List.length_cons]; omega
      · have := vtakeGo_le cs (i + 1) (n + c.toNat % 128 * 2 ^ (7 * i))
        simp; omega
theorem vtake_le (xs : List UInt8) : (vtake xs).2 ≤ xs.length := by
  have := vtakeGo_le xs 0 0
  unfold vtake
  omega
/-- Is there a number below a limit? -/
def numOK (bad : Bool) (xs : List UInt8) (limit : Int) : Bool := !bad && decide ((vtake xs).2 ≠ 0 ∧ ((vtake xs).1 : Int) < limit)
structure NumPre (r : Pt) (limit : Int) (σ : Heap) (p : Nat) (s : Sl) (bad : Bool) (xs : List UInt8) : Prop where
  at_ : r = some (p, 0)
  rdr : Rdr σ p s bad
  is : s.Is eU8 σ xs
  l0 : 0 < limit
  l1 : limit ≤ 9223372036854775807
def numRes (limit : Int) (σ : Heap) (p : Nat) (s : Sl) (bad : Bool) (xs : List UInt8) : Int × Heap :=
  bif numOK bad xs limit then (((vtake xs).1 : Int), setR σ p ⟨s.b, s.o + (vtake xs).2 * 1, s.n - (vtake xs).2⟩ bad) else (0, setR σ p s true)
noncomputable def w_vary_Reader_Num (r : Pt) (limit : Int) (σ : Heap) : Option (Int × Heap) :=
  wOf (fun t : Nat × Sl × Bool × List UInt8 => NumPre r limit σ t.1 t.2.1 t.2.2.1 t.2.2.2) fun t => numRes limit σ t.1 t.2.1 t.2.2.1 t.2.2.2
theorem w_vary_Reader_Num_eq {r : Pt} {limit : Int} {σ : Heap} {p : Nat} {s : Sl} {bad : Bool} {xs : List UInt8} (h : NumPre r limit σ p s bad xs) : w_vary_Reader_Num r limit σ = some (numRes limit σ p s bad xs) :=
  wOf_eq (x := (p, s, bad, xs)) h fun y hy => by
    obtain ⟨p', s', bad', xs'⟩ := y
    have e1 := hy.at_
    rw [h.at_] at e1
    simp at e1
    subst e1
    obtain ⟨e2, e3⟩ := h.rdr.uniq hy.rdr
    simp only at e2 e3
    subst e2; subst e3
    rw [show xs' = xs from hy.is.uniq (by decide) h.is]
noncomputable def c_vary_Reader_Num : C_vary_Reader_Num := ⟨w_vary_Take⟩
theorem ok_vary_Reader_Num : Ok_vary_Reader_Num w_vary_Reader_Num := fun r limit σ v σ' h => by
  obtain ⟨⟨p, s, bad, xs⟩, hp, e⟩ := wOf_some h
  obtain ⟨rfl, hr, hs, l0, l1⟩ := hp
  simp only at hr hs
  obtain ⟨rfl, rfl⟩ : v = (numRes limit σ p s bad xs).1 ∧ σ' = (numRes limit σ p s bad xs).2 := by rw [e]; exact ⟨rfl, rfl⟩
  refine call_ok ok (K_vary_Reader_Num c_vary_Reader_Num ok_vary_Take) (L := 0) (n := 2) ((vary_Reader_Num_eq c_vary_Reader_Num 0 (some (p, 0)) limit σ _).trans ?_)
  have p1 : c_vary_Reader_Num.vary_Take = w_vary_Take := rfl
  have hk := vtake_le xs
  have hT : w_vary_Take ⟨s.b, s.o, s.n⟩ σ = some ((((vtake xs).1 : Int), ((vtake xs).2 : Int)), σ) := w_vary_Take_eq hs
  simp only [Option.bind_some, hr.cell0, p1, hT, hr.cell1, hr.set_bad]
  show _ = some (AVal.int .i64 (numRes limit σ p s bad xs).1, (numRes limit σ p s bad xs).2)
  have bad_res : numOK bad xs limit = false → numRes limit σ p s bad xs = (0, setR σ p s true) := fun h => by unfold numRes; rw [h]; rfl
  cases bad with
  | true =>
    rw [bad_res rfl]
    rfl
  | false =>
    simp only [cond_false]
    by_cases h0 : (vtake xs).2 = 0
    · rw [show (((vtake xs).2 : Int) == 0) = true by rw [h0]; rfl, cond_true, bad_res (by simp [numOK, h0])]
    · rw [show (((vtake xs).2 : Int) == 0) = false by rw [beq_eq_false_iff_ne]; omega, cond_false]
      by_cases h1 : ((vtake xs).1 : Int) < limit
      · rw [show decide (((vtake xs).1 : Int) > 9223372036854775807) = false by rw [decide_eq_false_iff_not]; omega, cond_false, show decide (limit > 0) = true by simpa using l0, cond_true,
          show decide (((vtake xs).1 : Int) ≥ IntKind.u64.wrap limit) = false by rw [decide_eq_false_iff_not, IntKind.wrap_u64]; omega, cond_false]
        simp only [dec0, hs.n, show decide (((vtake xs).2 : Int) ≤ (xs.length : Int)) = true by simpa using hk, Int.le_refl, decide_true, Bool.and_self, cond_true, Int.toNat_natCast]
        have hst := hr.set_sl ⟨s.b, s.o + (vtake xs).2 * 1, xs.length - (vtake xs).2⟩
        simp only at hst
        rw [hst, Option.bind_some, wrap_i64_of (by omega) (by omega)]
        have : numOK false xs limit = true := by simp [numOK, h0, h1]
        unfold numRes
        rw [this, hs.n]
        rfl
      · rw [bad_res (by simp [numOK, h1])]
        by_cases h2 : ((vtake xs).1 : Int) > 9223372036854775807
        · rw [decide_eq_true h2, cond_true]
        · rw [decide_eq_false h2, cond_false, show decide (limit > 0) = true by simpa using l0, cond_true,
            show decide (((vtake xs).1 : Int) ≥ IntKind.u64.wrap limit) = true by rw [decide_eq_true_iff, IntKind.wrap_u64]; omega, cond_true]

noncomputable def w_vary_Reader_Good (r : Pt) (σ : Heap) : Option (Bool × Heap) := wOf (fun t : Nat × Sl × Bool => r = some (t.1, 0) ∧ Rdr σ t.1 t.2.1 t.2.2) fun t => (!t.2.2, σ)
theorem w_vary_Reader_Good_eq {σ : Heap} {p : Nat} {s : Sl} {bad : Bool} (h : Rdr σ p s bad) : w_vary_Reader_Good (some (p, 0)) σ = some (!bad, σ) :=
  wOf_eq (x := (p, s, bad)) ⟨rfl, h⟩ fun y hy => by
    obtain ⟨p', s', bad'⟩ := y
    obtain ⟨e1, e2⟩ := hy
    simp at e1
    subst e1
    simp only [(h.uniq e2).2]
theorem ok_vary_Reader_Good : Ok_vary_Reader_Good w_vary_Reader_Good := fun r σ v σ' h => by
  obtain ⟨⟨p, s, bad⟩, ⟨rfl, hr⟩, e⟩ := wOf_some h
  injection e with e1 e2
  subst e1; subst e2
  refine call_ok ok known0_ok (L := 0) (n := 2) ((vary_Reader_Good_eq 0 (some (p, 0)) σ _).trans ?_)
  simp only at hr
  simp only [Option.bind_some, hr.cell1]
  rfl
def w_vary_Of (b : Sl) (σ : Heap) : Option (Pt × Heap) := some (some (σ.length, 0), σ ++ [.row [.slice b.b b.o b.n 1, .bool false] .rw])
theorem ok_vary_Of : Ok_vary_Of w_vary_Of := fun b σ v σ' h => by
  injection h with h; injection h with h1 h2; subst h1; subst h2
  exact call_ok ok known0_ok (L := 0) (n := 2) (vary_Of_eq 0 b σ _)
end Go.Abs.TA
namespace Go.Abs.TA
open Go Go.Abs Go.Proofs

/-! ### Numbers come back from their bytes -/
theorem ofNat_toNat {n : Nat} (h : n < 256) : (UInt8.ofNat n).toNat = n := by simp; omega
theorem vtakeGo_vput (rest : List UInt8) : ∀ (n i acc : Nat), acc + n * 2 ^ (7 * i) < 18446744073709551616 → (0 < i → n ≠ 0) → i ≤ 9 → vtakeGo i acc (vput n ++ rest) = (acc + n * 2 ^ (7 * i), i + (vput n).length) := by
  intro n
  induction n using Nat.strongRecOn with
  | ind n ih =>
    intro i acc h h0 hi
    by_cases h1 : n < 128
    · rw [vput_lt h1, List.singleton_append, vtakeGo, ofNat_toNat (by omega)]
      have h9 : ¬ ((i = 9 ∧ n > 1) ∨ i > 9) := by
        rintro (⟨e, h2⟩ | h2)
        · subst e
          have e : (2 : Nat) ^ (7 * 9) = 9223372036854775808 := by decide
          have : 2 * 2 ^ (7 * 9) ≤ n * 2 ^ (7 * 9) := Nat.mul_le_mul_right _ (by omega)
          omega
        · omega
      rw [if_neg h9, if_pos h1, if_neg (by rintro ⟨h2, h3⟩; exact h0 h3 h2), Nat.mod_eq_of_lt h1]
      rfl
    · rw [vput_ge (by omega), List.cons_append, vtakeGo, ofNat_toNat (by omega)]
      have hlt : i < 9 := by
        rcases Nat.lt_or_ge i 9 with h2 | h2
        · exact h2
        · have e9 : i = 9 := by omega
          subst e9
          have e : (2 : Nat) ^ (7 * 9) = 9223372036854775808 := by decide
          have : 128 * 2 ^ (7 * 9) ≤ n * 2 ^ (7 * 9) := Nat.mul_le_mul_right _ (by omega)
          omega
      have hm : (n % 128 + 128) % 128 = n % 128 := by omega
      have hs : acc + n % 128 * 2 ^ (7 * i) + n / 128 * 2 ^ (7 * (i + 1)) = acc + n * 2 ^ (7 * i) := by
        rw [show 7 * (i + 1) = 7 * i + 7 by omega, Nat.pow_add, Nat.add_assoc, Nat.mul_comm (2 ^ (7 * i)) (2 ^ 7), ← Nat.mul_assoc, ← Nat.add_mul]
        congr 2
        have := Nat.div_add_mod n 128
        omega
      rw [if_neg (by omega), if_neg (by omega), hm, ih (n / 128) (by omega) (i + 1) _ (by rw [hs]; exact h) (fun _ => by omega) (by omega), hs]
      simp only [List.length_cons]
      congr 1
      omega
theorem vtake_vput {n : Nat} (h : n < 18446744073709551616) (rest : List UInt8) : vtake (vput n ++ rest) = (n, (vput n).length) := by
  unfold vtake
  rw [vtakeGo_vput rest n 0 0 (by simpa using h) (by omega) (by omega)]
  simp

/-! ### bits -/
def bitsN (s : api_Style) : Nat := s.Fore.toNat + 16 * s.Back.toNat + (bif s.Bold then 256 else 0) + (bif s.Under then 512 else 0) + (bif s.Turned then 1024 else 0)
theorem or_pow {m k b : Nat} (hb : b = 2 ^ k) (h : m < 2 ^ k) (hk : k ≤ 20) : IntKind.u64.wrap (BitVec.ofInt IntKind.u64.bits (m : Int) ||| BitVec.ofInt IntKind.u64.bits (b : Int)).toNat = ((m + b : Nat) : Int) := by
  have hp : 2 ^ k ≤ 2 ^ 20 := Nat.pow_le_pow_right (by decide) hk
  have e20 : (2 : Nat) ^ 20 = 1048576 := by decide
  rw [BitVec.toNat_or]
  have e : ∀ m : Nat, m < 18446744073709551616 → (BitVec.ofInt IntKind.u64.bits (m : Int)).toNat = m := fun m hm => by
    show (BitVec.ofInt 64 (m : Int)).toNat = _
    rw [BitVec.toNat_ofInt]
    omega
  rw [e m (by omega), e b (by omega), hb]
  have := Nat.two_pow_add_eq_or_of_lt h 1
  rw [Nat.or_comm, show 2 ^ k = 2 ^ k * 1 by omega, ← this, IntKind.wrap_u64]
  omega
theorem bits_base : ∀ f b : Fin 9, IntKind.u64.wrap (BitVec.ofInt IntKind.u64.bits (IntKind.u64.wrap ((f.val : Nat) : Int)) ||| BitVec.ofInt IntKind.u64.bits (IntKind.u64.wrap ((IntKind.u64.wrap ((b.val : Nat) : Int)) * 2 ^ 4))).toNat = ((f.val + 16 * b.val : Nat) : Int) := by decide +kernel
theorem okS_fin {s : api_Style} (h : okS s = true) : ∃ f b : Fin 9, s.Fore = ((f.val : Nat) : Int) ∧ s.Back = ((b.val : Nat) : Int) := by
  unfold okS at h
  simp only [decide_eq_true_eq] at h
  exact ⟨⟨s.Fore.toNat, by omega⟩, ⟨s.Back.toNat, by omega⟩, by simp; omega, by simp; omega⟩
noncomputable def w_cell_bits (s : api_Style) (σ : Heap) : Option (Int × Heap) := wIf (okS s = true) ((bitsN s : Int), σ)
theorem ok_cell_bits : Ok_cell_bits w_cell_bits := fun s σ v σ' h => by
  obtain ⟨hs, e⟩ := wIf_some h
  injection e with e1 e2
  subst e1; subst e2
  refine call_ok ok known0_ok (L := 4) (n := 2) ((cell_bits_eq 0 s σ _).trans ?_)
  obtain ⟨f, b, hf, hb⟩ := okS_fin hs
  have hf9 := f.isLt
  have hb9 := b.isLt
  show _ = some (AVal.int .u64 (bitsN s : Int), σ)
  rw [hf, hb, bits_base f b]
  have hN : bitsN s = f.val + 16 * b.val + (bif s.Bold then 256 else 0) + (bif s.Under then 512 else 0) + (bif s.Turned then 1024 else 0) := by
    unfold bitsN
    rw [hf, hb]
    simp
  rw [hN]
  have o8 : ∀ m : Nat, m < 256 → IntKind.u64.wrap (BitVec.ofInt IntKind.u64.bits (m : Int) ||| BitVec.ofInt IntKind.u64.bits 256).toNat = ((m + 256 : Nat) : Int) := fun m hm => or_pow (k := 8) rfl (by simpa using hm) (by omega)
  have o9 : ∀ m : Nat, m < 512 → IntKind.u64.wrap (BitVec.ofInt IntKind.u64.bits (m : Int) ||| BitVec.ofInt IntKind.u64.bits 512).toNat = ((m + 512 : Nat) : Int) := fun m hm => or_pow (k := 9) rfl (by simpa using hm) (by omega)
  have o10 : ∀ m : Nat, m < 1024 → IntKind.u64.wrap (BitVec.ofInt IntKind.u64.bits (m : Int) ||| BitVec.ofInt IntKind.u64.bits 1024).toNat = ((m + 1024 : Nat) : Int) := fun m hm => or_pow (k := 10) rfl (by simpa using hm) (by omega)
  cases s.Bold <;> cases s.Under <;> cases s.Turned <;> simp only [cond_true, cond_false]
  · rfl
  · rw [o10 _ (by omega)]
  · rw [o9 _ (by omega)]
  · rw [o9 _ (by omega), o10 _ (by omega)]
  · rw [o8 _ (by omega)]
  · rw [o8 _ (by omega), o10 _ (by omega)]
  · rw [o8 _ (by omega), o9 _ (by omega)]
  · rw [o8 _ (by omega), o9 _ (by omega), o10 _ (by omega)]
theorem bitsN_lt {s : api_Style} (h : okS s = true) : bitsN s < 2048 := by
  obtain ⟨f, b, hf, hb⟩ := okS_fin h
  have hf9 := f.isLt
  have hb9 := b.isLt
  unfold bitsN
  rw [hf, hb]
  cases s.Bold <;> cases s.Under <;> cases s.Turned <;> simp <;> omega

/-! ### PutStyle -/
noncomputable def c_cell_PutStyle : C_cell_PutStyle := { vary_Put := w_vary_Put, cell_bits := w_cell_bits }
noncomputable def w_cell_PutStyle (b : Sl) (s : api_Style) (σ : Heap) : Option (Sl × Heap) := wOf (fun ys => b.Own eU8 σ ys ∧ okS s = true ∧ ys.length ≤ 900000) fun ys => grow eU8 σ b (ys ++ vput (bitsN s))
theorem w_cell_PutStyle_eq {b : Sl} {s : api_Style} {σ : Heap} {ys : List UInt8} (h : b.Own eU8 σ ys) (hs : okS s = true) (hl : ys.length ≤ 900000) : w_cell_PutStyle b s σ = some (grow eU8 σ b (ys ++ vput (bitsN s))) :=
  wOf_eq ⟨h, hs, hl⟩ fun y hy => by rw [hy.1.uniq (by decide) h]
theorem ok_cell_PutStyle : Ok_cell_PutStyle w_cell_PutStyle := fun b s σ v σ' h => by
  obtain ⟨ys, ⟨hb, hs, hl⟩, e⟩ := wOf_some h
  obtain ⟨rfl, rfl⟩ : v = (grow eU8 σ b (ys ++ vput (bitsN s))).1 ∧ σ' = (grow eU8 σ b (ys ++ vput (bitsN s))).2 := by rw [e]; exact ⟨rfl, rfl⟩
  have hp : σ <+: σ ++ [.row [.int .u64 (bitsN s : Int)] .rw] := pre_push ..
  have hlt := bitsN_lt hs
  have hap : ∀ c, b.b = some c → (⟨some σ.length, 0, 1⟩ : Sl).b ≠ some c := fun c hc e => by
    simp at e
    have := (hb.is (by omega)).lt hc
    omega
  have hP : w_vary_Put b ⟨some σ.length, 0, 1⟩ (σ ++ [.row [.int .u64 (bitsN s : Int)] .rw]) = some (grow eU8 (σ ++ [.row [.int .u64 (bitsN s : Int)] .rw]) b (ys ++ vputs [bitsN s])) :=
    w_vary_Put_eq { own := hb.pre hp, nums := Sl.Is.new (E := eU64) (xs := [(bitsN s : Int)]) (by simp), ne := by simp, lt := fun n hn => by simp at hn; omega, small := by simp; omega, apart := hap }
  have hv : ys ++ vputs [bitsN s] = ys ++ vput (bitsN s) := by simp [vputs]
  rw [hv] at hP
  generalize hq : grow eU8 (σ ++ [.row [.int .u64 (bitsN s : Int)] .rw]) b (ys ++ vput (bitsN s)) = q at hP
  have hown := grow_own (E := eU8) (σ := σ ++ [.row [.int .u64 (bitsN s : Int)] .rw]) (s := b) (zs := ys ++ vput (bitsN s))
  have hkept := grow_kept (E := eU8) (σ := σ ++ [.row [.int .u64 (bitsN s : Int)] .rw]) (s := b) (zs := ys ++ vput (bitsN s))
  have hfst := grow_fst (E := eU8) (σ := σ ++ [.row [.int .u64 (bitsN s : Int)] .rw]) (s := b) (zs := ys ++ vput (bitsN s))
  rw [hq] at hown hkept hfst
  refine call_grow (q := q.1) (call_ok ok (K_cell_PutStyle c_cell_PutStyle ok_vary_Put ok_cell_bits) (L := 0) (n := 2) (v := (tSl 1).av q.1) (σ' := q.2) ((cell_PutStyle_eq c_cell_PutStyle 0 b s σ _).trans ?_)) hb hown (fun e => vput_ne _ (List.append_eq_nil_iff.1 e).2) ⟨?_, fun c hc hne => ?_⟩ (fun c hc => ?_)
  · have p1 : c_cell_PutStyle.vary_Put = w_vary_Put := rfl
    have p2 : c_cell_PutStyle.cell_bits = w_cell_bits := rfl
    simp only [p1, p2, w_cell_bits, wIf_eq hs, Option.bind_some, alloc]
    rw [hP, Option.bind_some]
    rfl
  · have := hkept.len
    simp at this
    omega
  · rw [hkept.at_ c (by simp; omega) hne]
    exact get_pre hp hc
  · rw [hfst] at hc
    simp at hc
    omega

/-! ### TakeStyle -/
def styleOf (n : Nat) : api_Style := ⟨decide (n &&& 256 > 0), decide (n &&& 512 > 0), decide (n &&& 1024 > 0), ((n &&& 15 : Nat) : Int), ((n / 16 &&& 15 : Nat) : Int)⟩
theorem style_back {s : api_Style} (h : okS s = true) : styleOf (bitsN s) = s := by
  obtain ⟨f, b, hf, hb⟩ := okS_fin h
  obtain ⟨b0, b1, b2, fo, ba⟩ := s
  simp only at hf hb
  subst hf; subst hb
  have key : ∀ f b : Fin 9, ∀ x y z : Bool, styleOf (bitsN ⟨x, y, z, ((f.val : Nat) : Int), ((b.val : Nat) : Int)⟩) = ⟨x, y, z, ((f.val : Nat) : Int), ((b.val : Nat) : Int)⟩ := by decide +kernel
  exact key f b b0 b1 b2
theorem i64_and {n m : Nat} (hn : n ≤ 9223372036854775807) (hm : m ≤ 1048576) : IntKind.i64.wrap (BitVec.ofInt IntKind.i64.bits (n : Int) &&& BitVec.ofInt IntKind.i64.bits (m : Int)).toNat = ((n &&& m : Nat) : Int) := by
  rw [BitVec.toNat_and]
  have e : ∀ m : Nat, m ≤ 9223372036854775807 → (BitVec.ofInt IntKind.i64.bits (m : Int)).toNat = m := fun m hm => by
    show (BitVec.ofInt 64 (m : Int)).toNat = _
    rw [BitVec.toNat_ofInt]
    omega
  rw [e n hn, e m (by omega)]
  have : n &&& m ≤ m := Nat.and_le_right
  exact wrap_i64_nat _ (by omega)
def zeroS : api_Style := ⟨false, false, false, 0, 0⟩
def takeS (σ : Heap) (p : Nat) (s : Sl) (bad : Bool) (xs : List UInt8) : (api_Style × Bool) × Heap :=
  bif numOK bad xs 2048 && okS (styleOf (vtake xs).1) then ((styleOf (vtake xs).1, true), (numRes 2048 σ p s bad xs).2) else ((zeroS, false), (numRes 2048 σ p s bad xs).2)
noncomputable def c_cell_TakeStyle : C_cell_TakeStyle := { vary_Reader_Num := w_vary_Reader_Num, vary_Reader_Good := w_vary_Reader_Good, cell_Style := w_cell_Style }
noncomputable def w_cell_TakeStyle (r : Pt) (σ : Heap) : Option ((api_Style × Bool) × Heap) :=
  wOf (fun t : Nat × Sl × Bool × List UInt8 => NumPre r 2048 σ t.1 t.2.1 t.2.2.1 t.2.2.2) fun t => takeS σ t.1 t.2.1 t.2.2.1 t.2.2.2
theorem NumPre.uniq {r : Pt} {limit : Int} {σ : Heap} {p p' : Nat} {s s' : Sl} {bad bad' : Bool} {xs xs' : List UInt8} (h : NumPre r limit σ p s bad xs) (hy : NumPre r limit σ p' s' bad' xs') : (p', s', bad', xs') = (p, s, bad, xs) := by
  have e1 := hy.at_
  rw [h.at_] at e1
  simp at e1
  subst e1
  obtain ⟨e2, e3⟩ := h.rdr.uniq hy.rdr
  subst e2; subst e3
  rw [show xs' = xs from hy.is.uniq (by decide) h.is]
theorem w_cell_TakeStyle_eq {r : Pt} {σ : Heap} {p : Nat} {s : Sl} {bad : Bool} {xs : List UInt8} (h : NumPre r 2048 σ p s bad xs) : w_cell_TakeStyle r σ = some (takeS σ p s bad xs) :=
  wOf_eq (x := (p, s, bad, xs)) h fun y hy => by
    obtain ⟨p', s', bad', xs'⟩ := y
    have := h.uniq hy
    simp only [Prod.mk.injEq] at this
    obtain ⟨rfl, rfl, rfl, rfl⟩ := this
    rfl
theorem numRes_rdr {limit : Int} {σ : Heap} {p : Nat} {s : Sl} {bad : Bool} {xs : List UInt8} (h : Rdr σ p s bad) : Rdr (numRes limit σ p s bad xs).2 p (bif numOK bad xs limit then ⟨s.b, s.o + (vtake xs).2 * 1, s.n - (vtake xs).2⟩ else s) (!numOK bad xs limit) := by
  unfold numRes
  cases hk : numOK bad xs limit with
  | true =>
    have : bad = false := by
      unfold numOK at hk
      cases bad
      · rfl
      · simp at hk
    subst this
    exact h.set _ _
  | false => exact h.set _ _
theorem ok_cell_TakeStyle : Ok_cell_TakeStyle w_cell_TakeStyle := fun r σ v σ' h => by
  obtain ⟨⟨p, s, bad, xs⟩, hp, e⟩ := wOf_some h
  simp only at hp e
  obtain ⟨rfl, rfl⟩ : v = (takeS σ p s bad xs).1 ∧ σ' = (takeS σ p s bad xs).2 := by rw [e]; exact ⟨rfl, rfl⟩
  refine call_ok ok (K_cell_TakeStyle c_cell_TakeStyle ok_cell_Style ok_vary_Reader_Num ok_vary_Reader_Good) (L := 0) (n := 2) ((cell_TakeStyle_eq c_cell_TakeStyle 0 r σ _).trans ?_)
  have p1 : c_cell_TakeStyle.vary_Reader_Num = w_vary_Reader_Num := rfl
  have p2 : c_cell_TakeStyle.vary_Reader_Good = w_vary_Reader_Good := rfl
  have p3 : c_cell_TakeStyle.cell_Style = w_cell_Style := rfl
  have hg := numRes_rdr (limit := 2048) (xs := xs) hp.rdr
  have hr := hp.at_
  rw [p1, w_vary_Reader_Num_eq hp, Option.bind_some, p2, hr, w_vary_Reader_Good_eq hg, Option.bind_some, p3]
  simp only [Bool.not_not, w_cell_Style, Option.bind_some]
  cases hk : numOK bad xs 2048 with
  | false =>
    simp only [Bool.not_false, cond_true]
    unfold takeS
    rw [hk]
    rfl
  | true =>
    simp only [Bool.not_true, cond_false]
    have hv : (numRes 2048 σ p s bad xs).1 = ((vtake xs).1 : Int) := by unfold numRes; rw [hk]; rfl
    have hlt : (vtake xs).1 < 2048 := by
      unfold numOK at hk
      simp at hk
      omega
    have a2 : IntKind.i64.wrap (BitVec.ofInt IntKind.i64.bits (((vtake xs).1 / 16 : Nat) : Int) &&& BitVec.ofInt IntKind.i64.bits 15).toNat = (((vtake xs).1 / 16 &&& 15 : Nat) : Int) := i64_and (n := (vtake xs).1 / 16) (m := 15) (by omega) (by omega)
    have b1 : IntKind.i64.wrap (BitVec.ofInt IntKind.i64.bits ((vtake xs).1 : Int) &&& BitVec.ofInt IntKind.i64.bits 256).toNat = (((vtake xs).1 &&& 256 : Nat) : Int) := i64_and (m := 256) (by omega) (by omega)
    have b2 : IntKind.i64.wrap (BitVec.ofInt IntKind.i64.bits ((vtake xs).1 : Int) &&& BitVec.ofInt IntKind.i64.bits 512).toNat = (((vtake xs).1 &&& 512 : Nat) : Int) := i64_and (m := 512) (by omega) (by omega)
    have b3 : IntKind.i64.wrap (BitVec.ofInt IntKind.i64.bits ((vtake xs).1 : Int) &&& BitVec.ofInt IntKind.i64.bits 1024).toNat = (((vtake xs).1 &&& 1024 : Nat) : Int) := i64_and (m := 1024) (by omega) (by omega)
    have b4 : IntKind.i64.wrap (BitVec.ofInt IntKind.i64.bits ((vtake xs).1 : Int) &&& BitVec.ofInt IntKind.i64.bits 15).toNat = (((vtake xs).1 &&& 15 : Nat) : Int) := i64_and (m := 15) (by omega) (by omega)
    have b5 : Int.fdiv ((vtake xs).1 : Int) (2 ^ 4) = (((vtake xs).1 / 16 : Nat) : Int) := by
      rw [Int.fdiv_eq_ediv_of_nonneg _ (by decide)]
      simp
    rw [hv]
    simp only [b5, b1, b2, b3, b4, a2]
    have es : (⟨decide ((((vtake xs).1 &&& 256 : Nat) : Int) > 0), decide ((((vtake xs).1 &&& 512 : Nat) : Int) > 0), decide ((((vtake xs).1 &&& 1024 : Nat) : Int) > 0), (((vtake xs).1 &&& 15 : Nat) : Int), (((vtake xs).1 / 16 &&& 15 : Nat) : Int)⟩ : api_Style) = styleOf (vtake xs).1 := by
      unfold styleOf
      simp
    rw [es]
    unfold takeS
    rw [hk, Bool.true_and, ← es]
    cases okS _ <;> rfl
end Go.Abs.TA
