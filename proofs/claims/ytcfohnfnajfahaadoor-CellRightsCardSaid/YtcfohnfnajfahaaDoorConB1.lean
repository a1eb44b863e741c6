/-
Contracts of vary: numbers' bytes behind others.
-/
import Derived.Test.YtcfohnfnajfahaaDoorConA7
import Derived.Test.YtcfohnfnajfahaaDoorAbs29
namespace Go.Abs.TA
open Go Go.Abs Go.Proofs

def eU8 : El UInt8 := ⟨1, fun b => [.int .u8 (b.toNat : Int)], fun _ => rfl, fun a b h => by
  simp at h
  exact UInt8.toNat_inj.1 (by omega), fun _ => rfl⟩
def eU64 : El Int := ⟨1, fun n => [.int .u64 n], fun _ => rfl, fun a b h => by simpa using h, fun _ => rfl⟩
theorem u64_cell {s : Sl} {σ : Heap} {l : List Int} (h : s.Is eU64 σ l) {i : Nat} {x : Int} (hi : l[i]? = some x) : ∃ b, s.b = some b ∧ σ.cell? b (s.o + i * 1) = some (.int .u64 x) := by
  obtain ⟨b, hb, hc⟩ := h.cell hi
  exact ⟨b, hb, hc 0 (by decide)⟩
theorem u8_cell {s : Sl} {σ : Heap} {l : List UInt8} (h : s.Is eU8 σ l) {i : Nat} {x : UInt8} (hi : l[i]? = some x) : ∃ b, s.b = some b ∧ σ.cell? b (s.o + i * 1) = some (.int .u8 (x.toNat : Int)) := by
  obtain ⟨b, hb, hc⟩ := h.cell hi
  exact ⟨b, hb, hc 0 (by decide)⟩

/-- A number's bytes. -/
def vput (n : Nat) : List UInt8 := if n < 128 then [UInt8.ofNat n] else UInt8.ofNat (n % 128 + 128) :: vput (n / 128)
termination_by n
decreasing_by omega
theorem vput_lt {n : Nat} (h : n < 128) : vput n = [UInt8.ofNat n] := by rw [vput, if_pos h]
theorem vput_ge {n : Nat} (h : 128 ≤ n) : vput n = UInt8.ofNat (n % 128 + 128) :: vput (n / 128) := by rw [vput, if_neg (by omega)]
def vputs : List Nat → List UInt8
  | [] => []
  | n :: ns => vput n ++ vputs ns
theorem vput_ne (n : Nat) : vput n ≠ [] := by
  rw [vput]
  split <;> simp
theorem vput_len : ∀ (k n : Nat), n < 128 ^ k → 0 < k → (vput n).length ≤ k
  | 0, n, h, h0 => by omega
  | k + 1, n, h, _ => by
    by_cases h1 : n < 128
    · rw [vput_lt h1]; simp
    · rw [vput_ge (by omega)]
      cases k with
      | zero => simp at h; omega
      | succ k =>
        have := vput_len (k + 1) (n / 128) (by rw [Nat.div_lt_iff_lt_mul (by omega), ← Nat.pow_succ]; exact h) (by omega)
        simp; omega
theorem vput_len10 {n : Nat} (h : n < 18446744073709551616) : (vput n).length ≤ 10 := vput_len 10 n (Nat.lt_of_lt_of_le h (by decide)) (by omega)
theorem u8_wrap (n : Nat) : IntKind.u8.wrap (n : Int) = ((UInt8.ofNat n).toNat : Int) := by
  rw [IntKind.wrap_u8]
  simp
theorem u8_or128 (n : Nat) : IntKind.u8.wrap (BitVec.ofInt IntKind.u8.bits (IntKind.u8.wrap (n : Int)) ||| BitVec.ofInt IntKind.u8.bits 128).toNat = ((UInt8.ofNat (n % 128 + 128)).toNat : Int) := by
  rw [BitVec.toNat_or]
  have e1 : (BitVec.ofInt IntKind.u8.bits (IntKind.u8.wrap (n : Int))).toNat = n % 256 := by
    rw [IntKind.wrap_u8]
    show (BitVec.ofInt 8 ((n : Int) % 256)).toNat = _
    rw [BitVec.toNat_ofInt]
    omega
  have e2 : (BitVec.ofInt IntKind.u8.bits 128).toNat = 128 := by decide
  rw [e1, e2]
  have key : ∀ m : Fin 256, (m.val ||| 128) = m.val % 128 + 128 := by decide +kernel
  have := key ⟨n % 256, Nat.mod_lt _ (by omega)⟩
  simp only at this
  rw [this, u8_wrap]
  congr 2
  congr 1
  omega
theorem fdiv128 (n : Nat) : Int.fdiv (n : Int) (2 ^ 7) = ((n / 128 : Nat) : Int) := by
  rw [Int.fdiv_eq_ediv_of_nonneg _ (by decide)]
  simp

theorem vary_Put_L4_ok {R : Type} {L : Nat} {l : Sl} {x : Int} {fu : Nat} {σ0 : Heap} {s : Sl} {K : AVal → Heap → Option R} :
    ∀ (k n m : Nat) (b : Sl) (σ : Heap) (ys : List UInt8), n < 128 ^ k → k < m → Grown eU8 s σ0 b σ ys → ys.length + k ≤ 2000000 →
      ∃ b1 σ1, Grown eU8 s σ0 b1 σ1 (ys ++ vput n) ∧ (∀ c, b1.b = some c → σ0.length ≤ c) ∧
        vary_Put_L4 L fu m b (n : Int) l x σ K = vary_Put_L2 L fu b1 l (IntKind.i64.wrap (x + 1)) σ1 K
  | k, n, 0, _, _, _, _, h, _, _ => by omega
  | k, n, m + 1, b, σ, ys, hn, hm, hg, hl => by
    rw [vary_Put_L4_eq]
    by_cases h : n < 128
    · rw [show decide ((n : Int) ≥ 128) = false by simp; omega, cond_false, u8_wrap]
      obtain ⟨q, σ', h1, h2, h3⟩ := hg.append (zs := [UInt8.ofNat n]) (bytes := 1) (vs := [.int .u8 ((UInt8.ofNat n).toNat : Int)]) (k := 1) rfl rfl (by simp) (by simp; omega) (by simp; omega)
      have h1' : σ.append b.b b.o b.n 1 1 [.int .u8 ((UInt8.ofNat n).toNat : Int)] 1 = some (q, σ') := h1
      rw [h1', Option.bind_some, vput_lt h]
      exact ⟨_, _, h2, h3, rfl⟩
    · cases k with
      | zero => simp at hn; omega
      | succ k =>
        rw [show decide ((n : Int) ≥ 128) = true by simp; omega, cond_true, u8_or128, fdiv128]
        obtain ⟨q, σ', h1, h2, h3⟩ := hg.append (zs := [UInt8.ofNat (n % 128 + 128)]) (bytes := 1) (vs := [.int .u8 ((UInt8.ofNat (n % 128 + 128)).toNat : Int)]) (k := 1) rfl rfl (by simp) (by simp; omega) (by simp; omega)
        have h1' : σ.append b.b b.o b.n 1 1 [.int .u8 ((UInt8.ofNat (n % 128 + 128)).toNat : Int)] 1 = some (q, σ') := h1
        obtain ⟨b1, σ1, k1, k2, k3⟩ := vary_Put_L4_ok (L := L) (l := l) (x := x) (fu := fu) (K := K) k (n / 128) m ⟨q.1, q.2.1, q.2.2⟩ σ' _ (by rw [Nat.div_lt_iff_lt_mul (by omega), ← Nat.pow_succ]; exact hn) (by omega) h2 (by simp; omega)
        refine ⟨b1, σ1, ?_, k2, ?_⟩
        · rw [vput_ge (by omega)]
          simpa using k1
        · rw [h1', Option.bind_some]
          exact k3
theorem vputs_len : ∀ (ns : List Nat), (∀ n ∈ ns, n < 18446744073709551616) → (vputs ns).length ≤ 10 * ns.length
  | [], _ => by simp [vputs]
  | n :: ns, h => by
    have h1 := vput_len10 (h n List.mem_cons_self)
    have h2 := vputs_len ns fun m hm => h m (List.mem_cons_of_mem _ hm)
    simp only [vputs, List.length_append, List.length_cons]
    omega
theorem vputs_append : ∀ (a b : List Nat), vputs (a ++ b) = vputs a ++ vputs b
  | [], b => rfl
  | n :: a, b => by simp [vputs, vputs_append a b]
theorem vary_Put_loop {R : Type} {L : Nat} {l s : Sl} {σ0 : Heap} {K : AVal → Heap → Option R} {ns : List Nat} (hL : 10 < L) (hl : l.Is eU64 σ0 (ns.map Int.ofNat)) (hne : ∀ b, s.b = some b → l.b ≠ some b) (hns : ∀ n ∈ ns, n < 18446744073709551616) :
    ∀ (d i m : Nat) (b : Sl) (σ : Heap) (ys : List UInt8), i + d = ns.length → d < m → Grown eU8 s σ0 b σ ys → ys.length + 10 * d ≤ 1000000 → (0 < i → ∀ c, b.b = some c → σ0.length ≤ c) →
      ∃ b1 σ1, Grown eU8 s σ0 b1 σ1 (ys ++ vputs (ns.drop i)) ∧ (0 < ns.length → ∀ c, b1.b = some c → σ0.length ≤ c) ∧ vary_Put_L2 L m b l (i : Int) σ K = K (.slice b1.b b1.o b1.n 1) σ1
  | d, i, 0, _, _, _, _, h, _, _, _ => by omega
  | 0, i, m + 1, b, σ, ys, h, _, hg, _, hi => by
    refine ⟨b, σ, ?_, fun h0 => hi (by omega), ?_⟩
    · rw [List.drop_eq_nil_of_le (by omega), vputs, List.append_nil]; exact hg
    · rw [vary_Put_L2_eq, hl.n, List.length_map, lt_false (by omega)]
      rfl
  | d + 1, i, m + 1, b, σ, ys, h, hm, hg, hb, _ => by
    have hi : i < ns.length := by omega
    have hl' := hl.kept hg.kept hne
    have hs := hl.small
    rw [List.length_map] at hs
    obtain ⟨c, hc, f0⟩ := u64_cell hl' (i := i) (x := (ns[i] : Int)) (by rw [List.getElem?_map, List.getElem?_eq_getElem hi]; rfl)
    have hn := hns ns[i] (List.getElem_mem hi)
    obtain ⟨b1, σ1, k1, k2, k3⟩ := vary_Put_L4_ok (L := L) (l := l) (x := (i : Int)) (fu := m) (K := K) 10 ns[i] L b σ ys (Nat.lt_of_lt_of_le hn (by decide)) hL hg (by omega)
    have hvl := vput_len10 hn
    obtain ⟨b2, σ2, j1, j2, j3⟩ := vary_Put_loop (K := K) hL hl hne hns d (i + 1) m b1 σ1 (ys ++ vput ns[i]) (by omega) (by omega) k1 (by simp; omega) (fun _ => k2)
    refine ⟨b2, σ2, ?_, j2, ?_⟩
    · rw [List.drop_eq_getElem_cons hi, vputs]
      simpa using j1
    · rw [vary_Put_L2_eq]
      simp only [hl.n, List.length_map, dec0, lt_true hi, Bool.and_self, cond_true, hc, Option.bind_some, Int.toNat_natCast, f0, int?, if_true]
      rw [k3, wrap_i64_succ i (by omega)]
      exact j3

structure PutPre (s l : Sl) (σ : Heap) (ys : List UInt8) (ns : List Nat) : Prop where
  own : s.Own eU8 σ ys
  nums : l.Is eU64 σ (ns.map Int.ofNat)
  ne : ns ≠ []
  lt : ∀ n ∈ ns, n < 18446744073709551616
  small : ys.length + 10 * ns.length ≤ 1000000
  apart : ∀ b, s.b = some b → l.b ≠ some b
noncomputable def w_vary_Put (s l : Sl) (σ : Heap) : Option (Sl × Heap) := wOf (fun p : List UInt8 × List Nat => PutPre s l σ p.1 p.2) fun p => grow eU8 σ s (p.1 ++ vputs p.2)
theorem w_vary_Put_eq {s l : Sl} {σ : Heap} {ys : List UInt8} {ns : List Nat} (h : PutPre s l σ ys ns) : w_vary_Put s l σ = some (grow eU8 σ s (ys ++ vputs ns)) :=
  wOf_eq (x := (ys, ns)) h fun p hp => by
    obtain ⟨y, n⟩ := p
    rw [show y = ys from hp.own.uniq (by decide) h.own]
    have : n = ns := by
      have e := hp.nums.uniq (by decide) h.nums
      exact List.map_inj_right (fun a b h => Int.ofNat.inj h) |>.1 e
    rw [this]
theorem vputs_ne {ns : List Nat} (h : ns ≠ []) : vputs ns ≠ [] := by
  cases ns with
  | nil => exact absurd rfl h
  | cons n ns =>
    rw [vputs]
    intro e
    exact vput_ne n (List.append_eq_nil_iff.1 e).1
theorem ok_vary_Put : Ok_vary_Put w_vary_Put := fun s l σ v σ' h => by
  obtain ⟨⟨ys, ns⟩, hp, e⟩ := wOf_some h
  obtain ⟨rfl, rfl⟩ : v = (grow eU8 σ s (ys ++ vputs ns)).1 ∧ σ' = (grow eU8 σ s (ys ++ vputs ns)).2 := by rw [e]; exact ⟨rfl, rfl⟩
  have hsm := hp.small
  simp only at hsm
  obtain ⟨b1, σ1, k1, k2, k3⟩ := vary_Put_loop (R := AVal × Heap) (L := ns.length + 11) (K := fun v σ => some (v, σ)) (by omega) hp.nums hp.apart hp.lt ns.length 0 (ns.length + 11) s σ ys (by simp) (by omega) (Grown.start hp.own) (by omega) (fun h => by omega)
  rw [List.drop_zero] at k1
  exact call_grow (call_ok ok known0_ok (L := ns.length + 11) (n := 2) ((vary_Put_eq (ns.length + 11) s l σ _).trans k3)) hp.own k1.own (by
    intro e
    exact vputs_ne hp.ne (List.append_eq_nil_iff.1 e).2) k1.kept (k2 (List.length_pos_iff.2 hp.ne))
end Go.Abs.TA
