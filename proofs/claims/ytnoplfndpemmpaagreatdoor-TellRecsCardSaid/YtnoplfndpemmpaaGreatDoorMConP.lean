/-
Bytes of runes; contracts of utf8.AppendRune.
Contract of json.Quote.
-/
import Derived.Test.YtnoplfndpemmpaaGreatDoorMConY
import Derived.Test.YtnoplfndpemmpaaGreatDoorMAd
namespace Go.Abs.TE
open Go Go.Abs Go.Proofs

def encB (n : Nat) : List UInt8 := (Utf8.encode (n : Int)).data.toList
theorem u8n (n : Nat) : IntKind.u8.wrap (n : Int) = ((n % 256 : Nat) : Int) := by
  rw [IntKind.wrap_u8]; omega
theorem fdivN (n k : Nat) : Int.fdiv (n : Int) (2 ^ k) = ((n / 2 ^ k : Nat) : Int) := by
  rw [Int.fdiv_eq_ediv_of_nonneg _ (by exact Int.le_of_lt (Int.pow_pos (by decide)))]
  simp
theorem hi192 : ∀ m : Fin 32, IntKind.u8.wrap (BitVec.ofInt IntKind.u8.bits 192 ||| BitVec.ofInt IntKind.u8.bits (IntKind.u8.wrap ((m.val : Nat) : Int))).toNat = ((192 + m.val : Nat) : Int) := by decide +kernel
theorem hi224 : ∀ m : Fin 16, IntKind.u8.wrap (BitVec.ofInt IntKind.u8.bits 224 ||| BitVec.ofInt IntKind.u8.bits (IntKind.u8.wrap ((m.val : Nat) : Int))).toNat = ((224 + m.val : Nat) : Int) := by decide +kernel
theorem hi240 : ∀ m : Fin 8, IntKind.u8.wrap (BitVec.ofInt IntKind.u8.bits 240 ||| BitVec.ofInt IntKind.u8.bits (IntKind.u8.wrap ((m.val : Nat) : Int))).toNat = ((240 + m.val : Nat) : Int) := by decide +kernel
theorem lo256 : ∀ m : Fin 256, IntKind.u8.wrap (BitVec.ofInt IntKind.u8.bits 128 ||| BitVec.ofInt IntKind.u8.bits (IntKind.u8.wrap (BitVec.ofInt IntKind.u8.bits ((m.val : Nat) : Int) &&& BitVec.ofInt IntKind.u8.bits 63).toNat)).toNat = ((128 + m.val % 64 : Nat) : Int) := by decide +kernel
theorem lo (n : Nat) : IntKind.u8.wrap (BitVec.ofInt IntKind.u8.bits 128 ||| BitVec.ofInt IntKind.u8.bits (IntKind.u8.wrap (BitVec.ofInt IntKind.u8.bits (IntKind.u8.wrap (n : Int)) &&& BitVec.ofInt IntKind.u8.bits 63).toNat)).toNat = ((128 + n % 64 : Nat) : Int) := by
  rw [u8n n, lo256 ⟨n % 256, Nat.mod_lt _ (by decide)⟩]
  show ((128 + n % 256 % 64 : Nat) : Int) = _
  congr 2
  omega
theorem valid_iff {n : Nat} : Utf8.valid (n : Int) = true ↔ n < 55296 ∨ (57344 ≤ n ∧ n ≤ 1114111) := by
  unfold Utf8.valid
  simp only [Bool.or_eq_true, Bool.and_eq_true, decide_eq_true_eq]
  omega
set_option maxRecDepth 100000 in
theorem enc1 {n : Nat} (h : n < 128) : encB n = [UInt8.ofNat n] := by
  unfold encB Utf8.encode
  rw [valid_iff.2 (.inl (by omega))]
  simp only [if_true, Int.toNat_natCast, if_pos h]
set_option maxRecDepth 100000 in
theorem enc2 {n : Nat} (h1 : 128 ≤ n) (h2 : n < 2048) : encB n = [UInt8.ofNat (192 + n / 64), UInt8.ofNat (128 + n % 64)] := by
  unfold encB Utf8.encode
  rw [valid_iff.2 (.inl (by omega))]
  simp only [if_true, Int.toNat_natCast, if_neg (show ¬ n < 128 by omega), if_pos h2]
set_option maxRecDepth 100000 in
theorem enc3 {n : Nat} (h1 : 2048 ≤ n) (h2 : n < 65536) (hv : Utf8.valid (n : Int) = true) : encB n = [UInt8.ofNat (224 + n / 4096), UInt8.ofNat (128 + n / 64 % 64), UInt8.ofNat (128 + n % 64)] := by
  unfold encB Utf8.encode
  rw [hv]
  simp only [if_true, Int.toNat_natCast, if_neg (show ¬ n < 128 by omega), if_neg (show ¬ n < 2048 by omega), if_pos h2]
set_option maxRecDepth 100000 in
theorem enc4 {n : Nat} (h1 : 65536 ≤ n) (hv : Utf8.valid (n : Int) = true) : encB n = [UInt8.ofNat (240 + n / 262144), UInt8.ofNat (128 + n / 4096 % 64), UInt8.ofNat (128 + n / 64 % 64), UInt8.ofNat (128 + n % 64)] := by
  unfold encB Utf8.encode
  rw [hv]
  simp only [if_true, Int.toNat_natCast, if_neg (show ¬ n < 128 by omega), if_neg (show ¬ n < 2048 by omega), if_neg (show ¬ n < 65536 by omega)]
set_option maxRecDepth 100000 in
theorem encB_len (n : Nat) : 1 ≤ (encB n).length ∧ (encB n).length ≤ 4 := by
  unfold encB Utf8.encode
  constructor <;> (simp only; split <;> (try split) <;> (try split) <;> (try split) <;> simp)
theorem all2 (a b : Nat) (ha : a < 256) (hb : b < 256) : eU8.all [UInt8.ofNat a, UInt8.ofNat b] = [.int .u8 (a : Int), .int .u8 (b : Int)] := by
  simp [El.all, eU8]; omega
theorem all3 (a b c : Nat) (ha : a < 256) (hb : b < 256) (hc : c < 256) : eU8.all [UInt8.ofNat a, UInt8.ofNat b, UInt8.ofNat c] = [.int .u8 (a : Int), .int .u8 (b : Int), .int .u8 (c : Int)] := by
  simp [El.all, eU8]; omega
theorem all4 (a b c d : Nat) (ha : a < 256) (hb : b < 256) (hc : c < 256) (hd : d < 256) : eU8.all [UInt8.ofNat a, UInt8.ofNat b, UInt8.ofNat c, UInt8.ofNat d] = [.int .u8 (a : Int), .int .u8 (b : Int), .int .u8 (c : Int), .int .u8 (d : Int)] := by
  simp [El.all, eU8]; omega
theorem ret_append {p : Sl} {σ : Heap} {ys zs : List UInt8} {vs : List AVal} {k : Nat} (hs : p.Own eU8 σ ys) (hv : vs = eU8.all zs) (hk : k = zs.length) (hz : zs ≠ []) (hl : ys.length + zs.length ≤ 70368744177664) :
    ∃ q σ1, σ.append p.b p.o p.n 1 1 vs k = some (q, σ1) ∧ Sl.Own ⟨q.1, q.2.1, q.2.2⟩ eU8 σ1 (ys ++ zs) ∧ Kept p σ σ1 ∧ ∀ c, q.1 = some c → σ.length ≤ c := by
  obtain ⟨q, σ1, h1, h2, h3, _⟩ := append_own hs hv hk (bytes := 1) (by omega) hl
  refine ⟨q, σ1, h1, h2, h3, fun c hc => ?_⟩
  have := append_new h1 (by
    subst hk
    cases zs with
    | nil => exact absurd rfl hz
    | cons _ _ => simp) c hc
  omega
structure RunePre (p : Sl) (r : Int) (σ : Heap) (ys : List UInt8) (n : Nat) : Prop where
  own : p.Own eU8 σ ys
  rune : r = (n : Int)
  ok : Utf8.valid r = true
  small : ys.length ≤ 1000000000
theorem RunePre.uniq {p : Sl} {r : Int} {σ : Heap} {ys ys' : List UInt8} {n n' : Nat} (h : RunePre p r σ ys n) (h' : RunePre p r σ ys' n') : ys' = ys ∧ n' = n := by
  refine ⟨h'.own.uniq (by decide) h.own, ?_⟩
  have := h.rune
  have := h'.rune
  omega
noncomputable def w_unicode_utf8_appendRuneNonASCII (p : Sl) (r : Int) (σ : Heap) : Option (Sl × Heap) := wOf (fun t : List UInt8 × Nat => RunePre p r σ t.1 t.2 ∧ 128 ≤ t.2) fun t => grow eU8 σ p (t.1 ++ encB t.2)
theorem w_unicode_utf8_appendRuneNonASCII_eq {p : Sl} {r : Int} {σ : Heap} {ys : List UInt8} {n : Nat} (h : RunePre p r σ ys n) (h1 : 128 ≤ n) : w_unicode_utf8_appendRuneNonASCII p r σ = some (grow eU8 σ p (ys ++ encB n)) :=
  wOf_eq (x := (ys, n)) ⟨h, h1⟩ fun t ht => by
    obtain ⟨y, m⟩ := t
    obtain ⟨e1, e2⟩ := h.uniq ht.1
    simp only at e1 e2
    rw [e1, e2]
theorem ok_unicode_utf8_appendRuneNonASCII : Ok_unicode_utf8_appendRuneNonASCII w_unicode_utf8_appendRuneNonASCII := fun p r σ v σ' h => by
  obtain ⟨⟨ys, n⟩, ⟨hp, h128⟩, e⟩ := wOf_some h
  simp only at hp h128 e
  have hr := hp.rune
  have hv := hp.ok
  rw [hr] at hv
  have hv' := valid_iff.1 hv
  have hsm := hp.small
  have hel := encB_len n
  have hne : encB n ≠ [] := fun e => by rw [e] at hel; simp at hel
  have key : ∀ (vs : List AVal) (k : Nat), vs = eU8.all (encB n) → k = (encB n).length → callC (R := AVal × Heap) T known0 0 2 97 [.slice p.b p.o p.n 1, .int .i32 r] σ (fun v σ => some (v, σ)) = ((σ.append p.b p.o p.n 1 1 vs k).bind fun q => some (.slice q.1.1 q.1.2.1 q.1.2.2 1, q.2)) →
      CallOK Tryz.prog T 97 [(tSl 1).av p, (tInt .i32).av r] σ ((tSl 1).av v) σ' := fun vs k h1 h2 h3 => by
    obtain ⟨q, σ1, a1, a2, a3, a4⟩ := ret_append hp.own h1 h2 hne (by omega)
    rw [a1, Option.bind_some] at h3
    have := call_grow (call_ok ok known0_ok h3) (q := ⟨q.1, q.2.1, q.2.2⟩) hp.own a2 (by simp [hne]) a3 a4
    rw [show (grow eU8 σ p (ys ++ encB n)).1 = v by rw [e], show (grow eU8 σ p (ys ++ encB n)).2 = σ' by rw [e]] at this
    exact this
  have hw : IntKind.u32.wrap (n : Int) = (n : Int) := by rw [IntKind.wrap_u32]; omega
  rw [hr] at key
  rcases Nat.lt_or_ge n 2048 with h2 | h2
  · have k2 := key [.int .u8 ((192 + n / 64 : Nat) : Int), .int .u8 ((128 + n % 64 : Nat) : Int)] 2 (by rw [enc2 h128 h2, all2 _ _ (by omega) (by omega)]) (by rw [enc2 h128 h2]; rfl)
    rw [hr]
    refine k2 ((unicode_utf8_appendRuneNonASCII_eq 0 p (n : Int) σ _).trans ?_)
    rw [hw, show decide ((n : Int) ≤ 2047) = true by simp; omega, cond_true, fdivN n 6, lo, hi192 ⟨n / 2 ^ 6, by omega⟩]
  · have k3 : n < 65536 → _ := fun h3 => key [.int .u8 ((224 + n / 4096 : Nat) : Int), .int .u8 ((128 + n / 64 % 64 : Nat) : Int), .int .u8 ((128 + n % 64 : Nat) : Int)] 3 (by rw [enc3 h2 h3 hv, all3 _ _ _ (by omega) (by omega) (by omega)]) (by rw [enc3 h2 h3 hv]; rfl)
    have k4 : 65536 ≤ n → _ := fun h3 => key [.int .u8 ((240 + n / 262144 : Nat) : Int), .int .u8 ((128 + n / 4096 % 64 : Nat) : Int), .int .u8 ((128 + n / 64 % 64 : Nat) : Int), .int .u8 ((128 + n % 64 : Nat) : Int)] 4 (by rw [enc4 h3 hv, all4 _ _ _ _ (by omega) (by omega) (by omega) (by omega)]) (by rw [enc4 h3 hv]; rfl)
    rw [hr]
    rcases Nat.lt_or_ge n 65536 with h3 | h3
    · refine k3 h3 ((unicode_utf8_appendRuneNonASCII_eq 0 p (n : Int) σ _).trans ?_)
      rw [hw, show decide ((n : Int) ≤ 2047) = false by simp; omega, cond_false, fdivN n 6, fdivN n 12, lo, lo, hi224 ⟨n / 2 ^ 12, by omega⟩]
      by_cases h4 : n < 55296
      · rw [show decide ((n : Int) < 55296) = true by simp; omega, cond_true, cond_true]
      · rw [show decide ((n : Int) < 55296) = false by simp; omega, cond_false, show decide ((57343 : Int) < (n : Int)) = true by simp; omega, cond_true, show decide ((n : Int) ≤ 65535) = true by simp; omega, cond_true]
    · refine k4 h3 ((unicode_utf8_appendRuneNonASCII_eq 0 p (n : Int) σ _).trans ?_)
      rw [hw, show decide ((n : Int) ≤ 2047) = false by simp; omega, cond_false, fdivN n 6, fdivN n 12, fdivN n 18, lo, lo, lo, hi240 ⟨n / 2 ^ 18, by omega⟩]
      rw [show decide ((n : Int) < 55296) = false by simp; omega, cond_false, show decide ((57343 : Int) < (n : Int)) = true by simp; omega, cond_true, show decide ((n : Int) ≤ 65535) = false by simp; omega, cond_false,
        show decide ((n : Int) > 65535) = true by simp; omega, cond_true, show decide ((n : Int) ≤ 1114111) = true by simp; omega, cond_true]
/-! AppendRune -/
noncomputable def c_unicode_utf8_AppendRune : C_unicode_utf8_AppendRune := { unicode_utf8_appendRuneNonASCII := w_unicode_utf8_appendRuneNonASCII }
noncomputable def w_unicode_utf8_AppendRune (p : Sl) (r : Int) (σ : Heap) : Option (Sl × Heap) := wOf (fun t : List UInt8 × Nat => RunePre p r σ t.1 t.2) fun t => grow eU8 σ p (t.1 ++ encB t.2)
theorem w_unicode_utf8_AppendRune_eq {p : Sl} {r : Int} {σ : Heap} {ys : List UInt8} {n : Nat} (h : RunePre p r σ ys n) : w_unicode_utf8_AppendRune p r σ = some (grow eU8 σ p (ys ++ encB n)) :=
  wOf_eq (x := (ys, n)) h fun t ht => by
    obtain ⟨y, m⟩ := t
    obtain ⟨e1, e2⟩ := h.uniq ht
    simp only at e1 e2
    rw [e1, e2]
theorem ok_unicode_utf8_AppendRune : Ok_unicode_utf8_AppendRune w_unicode_utf8_AppendRune := fun p r σ v σ' h => by
  obtain ⟨⟨ys, n⟩, hp, e⟩ := wOf_some h
  simp only at hp e
  have hr := hp.rune
  have hv := hp.ok
  rw [hr] at hv
  have hv' := valid_iff.1 hv
  have hsm := hp.small
  have hw : IntKind.u32.wrap (n : Int) = (n : Int) := by rw [IntKind.wrap_u32]; omega
  have p1 : c_unicode_utf8_AppendRune.unicode_utf8_appendRuneNonASCII = w_unicode_utf8_appendRuneNonASCII := rfl
  rcases Nat.lt_or_ge n 128 with h1 | h1
  · obtain ⟨q, σ1, a1, a2, a3, a4⟩ := ret_append (vs := [.int .u8 (IntKind.u8.wrap r)]) (k := 1) hp.own (zs := encB n) (by rw [enc1 h1, hr, u8n]; simp [El.all, eU8]) (by rw [enc1 h1]; rfl) (by rw [enc1 h1]; simp) (by rw [enc1 h1]; simp; omega)
    have h3 : callC (R := AVal × Heap) T (O_unicode_utf8_AppendRune c_unicode_utf8_AppendRune) 0 2 61 [.slice p.b p.o p.n 1, .int .i32 r] σ (fun v σ => some (v, σ)) = some (.slice q.1 q.2.1 q.2.2 1, σ1) := by
      rw [unicode_utf8_AppendRune_eq, hr, hw, show decide ((n : Int) ≤ 127) = true by simp; omega, cond_true, ← hr, a1, Option.bind_some]
    have := call_grow (call_ok ok (K_unicode_utf8_AppendRune c_unicode_utf8_AppendRune ok_unicode_utf8_appendRuneNonASCII) h3) (q := ⟨q.1, q.2.1, q.2.2⟩) hp.own a2 (by rw [enc1 h1]; simp) a3 a4
    rw [show (grow eU8 σ p (ys ++ encB n)).1 = v by rw [e], show (grow eU8 σ p (ys ++ encB n)).2 = σ' by rw [e]] at this
    exact this
  · refine call_ok ok (K_unicode_utf8_AppendRune c_unicode_utf8_AppendRune ok_unicode_utf8_appendRuneNonASCII) (L := 0) (n := 2) ((unicode_utf8_AppendRune_eq c_unicode_utf8_AppendRune 0 p r σ _).trans ?_)
    rw [p1, w_unicode_utf8_appendRuneNonASCII_eq hp h1, e, hr, hw, show decide ((n : Int) ≤ 127) = false by simp; omega, cond_false, Option.bind_some]
    rfl
end Go.Abs.TE
namespace Go.Abs.TE
open Go Go.Abs Go.Proofs

/-! ### Runes of a text -/
theorem decode_valid (s : ByteArray) (i : Nat) : Utf8.valid ((Utf8.decode s i).1 : Int) = true := by
  have he : Utf8.valid ((Utf8.runeError : Nat) : Int) = true := by decide
  unfold Utf8.decode
  simp only
  split
  · rename_i h
    exact valid_iff.2 (.inl (by omega))
  · split
    · split
      · refine valid_iff.2 (.inl ?_)
        omega
      · exact he
    · split
      · split
        · rename_i h
          simp only [Bool.and_eq_true] at h
          exact h.2
        · exact he
      · split
        · split
          · rename_i h
            simp only [Bool.and_eq_true] at h
            exact h.2
          · exact he
        · exact he
theorem decode_w (s : ByteArray) (i : Nat) : 1 ≤ (Utf8.decode s i).2 := by
  unfold Utf8.decode
  simp only
  split
  · exact Nat.le_refl _
  · split
    · split <;> simp
    · split
      · split <;> simp
      · split
        · split <;> simp
        · simp
theorem runesA_fuel (s : ByteArray) : ∀ (k k' i : Nat), s.size ≤ i + k → s.size ≤ i + k' → runesA s k i = runesA s k' i
  | 0, 0, _, _, _ => rfl
  | 0, k' + 1, i, h, _ => by rw [runesA, runesA, if_neg (by omega)]
  | k + 1, 0, i, _, h => by rw [runesA, runesA, if_neg (by omega)]
  | k + 1, k' + 1, i, h, h' => by
    rw [runesA, runesA]
    split
    · have := decode_w s i
      rw [runesA_fuel s k k' _ (by omega) (by omega)]
    · rfl
def rsN (s : ByteArray) (k i : Nat) : List Nat := (runesA s k i).map Int.toNat
theorem rsN_step {s : ByteArray} {k i : Nat} (h : i < s.size) : rsN s (k + 1) i = (Utf8.decode s i).1 :: rsN s k (i + (Utf8.decode s i).2) := by
  unfold rsN
  rw [runesA, if_pos h]
  rfl
theorem rsN_end {s : ByteArray} {k i : Nat} (h : ¬ i < s.size) : rsN s k i = [] := by
  unfold rsN
  cases k with
  | zero => rfl
  | succ k => rw [runesA, if_neg h]; rfl
theorem rsN_len (s : ByteArray) : ∀ (k i : Nat), (rsN s k i).length ≤ k
  | 0, _ => by simp [rsN, runesA]
  | k + 1, i => by
    by_cases h : i < s.size
    · rw [rsN_step h]
      have := rsN_len s k (i + (Utf8.decode s i).2)
      simp; omega
    · rw [rsN_end h]; simp
/-! ### How a rune is written -/
def hexd (k : Nat) : UInt8 := UInt8.ofNat (if k < 10 then 48 + k else 87 + k)
def signB (n : Nat) : List UInt8 :=
  if n = 34 ∨ n = 92 then [92, UInt8.ofNat n] else if n = 10 then [92, 110] else if n = 13 then [92, 114] else if n < 32 ∨ n = 127 then [92, 117, 48, 48, hexd (n / 16), hexd (n % 16)] else encB n
theorem signB_len (n : Nat) : 1 ≤ (signB n).length ∧ (signB n).length ≤ 6 := by
  have := encB_len n
  unfold signB
  split
  · simp
  · split
    · simp
    · split
      · simp
      · split
        · simp
        · omega
theorem flat_len : ∀ (rs : List Nat), (rs.flatMap signB).length ≤ 6 * rs.length
  | [] => by simp
  | r :: rs => by
    have := signB_len r
    have := flat_len rs
    rw [List.flatMap_cons, List.length_append, List.length_cons]
    omega
def quoteB (s : ByteArray) : List UInt8 := 34 :: ((rsN s s.size 0).flatMap signB ++ [34])
theorem dig1 : ∀ n : Fin 128, n.val < 32 ∨ n.val = 127 → (decide ((0 : Int) ≤ Int.fdiv ((n.val : Nat) : Int) (2 ^ 4)) && decide (Int.fdiv ((n.val : Nat) : Int) (2 ^ 4) < 16)) = true ∧
    (((⟨#[48, 49, 50, 51, 52, 53, 54, 55, 56, 57, 97, 98, 99, 100, 101, 102]⟩ : ByteArray).data.toList.getD ((Int.fdiv ((n.val : Nat) : Int) (2 ^ 4)).toNat) 0).toNat : Int) = ((hexd (n.val / 16)).toNat : Int) := by decide +kernel
theorem dig2 : ∀ n : Fin 128, (decide ((0 : Int) ≤ IntKind.i32.wrap (BitVec.ofInt IntKind.i32.bits ((n.val : Nat) : Int) &&& BitVec.ofInt IntKind.i32.bits 15).toNat) && decide (IntKind.i32.wrap (BitVec.ofInt IntKind.i32.bits ((n.val : Nat) : Int) &&& BitVec.ofInt IntKind.i32.bits 15).toNat < 16)) = true ∧
    (((⟨#[48, 49, 50, 51, 52, 53, 54, 55, 56, 57, 97, 98, 99, 100, 101, 102]⟩ : ByteArray).data.toList.getD ((IntKind.i32.wrap (BitVec.ofInt IntKind.i32.bits ((n.val : Nat) : Int) &&& BitVec.ofInt IntKind.i32.bits 15).toNat).toNat) 0).toNat : Int) = ((hexd (n.val % 16)).toNat : Int) := by decide +kernel
theorem _root_.Go.Abs.Mine.grow {α : Type} {E : El α} {σ0 σ : Heap} {out : Sl} {ys zs : List α} (h : Mine E σ0 out σ ys) : Mine E σ0 (Go.Abs.grow E σ out zs).1 (Go.Abs.grow E σ out zs).2 zs := by
  refine ⟨Kept.pre h.pre grow_kept h.new, grow_own, fun c hc => ?_⟩
  rw [grow_fst] at hc
  injection hc with hc
  have := h.pre.length_le
  omega
/-! ### Quote -/
noncomputable def c_json_Quote : C_json_Quote := { unicode_utf8_AppendRune := w_unicode_utf8_AppendRune }
theorem Quote_loop {L : Nat} {s : ByteArray} {σ0 : Heap} :
    ∀ (k i m : Nat) (out : Sl) (σ : Heap) (ys : List UInt8), s.size ≤ i + k → k < m → Mine eU8 σ0 out σ ys → ys.length + 6 * k ≤ 900000000 →
      ∃ σ1, σ0 <+: σ1 ∧ json_Quote_L3 (R := AVal × Heap) c_json_Quote L m out s i σ (fun v σ => some (v, σ)) = some (.str (ba (ys ++ ((rsN s k i).flatMap signB ++ [34]))), σ1)
  | k, i, 0, _, _, _, _, h, _, _ => by omega
  | k, i, m + 1, out, σ, ys, h, hm, ho, hb => by
    by_cases hi : i < s.size
    · cases k with
      | zero => omega
      | succ k =>
        have hw := decode_w s i
        have hv := decode_valid s i
        have hv' := valid_iff.1 hv
        have p1 : c_json_Quote.unicode_utf8_AppendRune = w_unicode_utf8_AppendRune := rfl
        rw [json_Quote_L3_eq, decide_eq_true hi, cond_true, p1, rsN_step hi]
        generalize (Utf8.decode s i).1 = n at hv hv' ⊢
        generalize (Utf8.decode s i).2 = w at hw ⊢
        -- what comes behind
        have recur : ∀ (q : Option Nat × Nat × Nat) (σ' : Heap) (zs : List UInt8), Mine eU8 σ0 ⟨q.1, q.2.1, q.2.2⟩ σ' (ys ++ zs) → zs.length ≤ 6 → zs = signB n →
            ∃ σ1, σ0 <+: σ1 ∧ json_Quote_L3 (R := AVal × Heap) c_json_Quote L m ⟨q.1, q.2.1, q.2.2⟩ s (i + w) σ' (fun v σ => some (v, σ)) = some (.str (ba (ys ++ ((n :: rsN s k (i + w)).flatMap signB ++ [34]))), σ1) := fun q σ' zs hM hl hz => by
          obtain ⟨σ1, g1, g2⟩ := Quote_loop (L := L) (s := s) k (i + w) m ⟨q.1, q.2.1, q.2.2⟩ σ' (ys ++ zs) (by omega) (by omega) hM (by simp; omega)
          refine ⟨σ1, g1, ?_⟩
          rw [g2, List.flatMap_cons, ← hz, List.append_assoc, List.append_assoc]
        have app : ∀ (zs : List UInt8) (vs : List AVal) (c : Nat), vs = eU8.all zs → c = zs.length → zs.length ≤ 6 → ∃ q σ', σ.append out.b out.o out.n 1 1 vs c = some (q, σ') ∧ Mine eU8 σ0 ⟨q.1, q.2.1, q.2.2⟩ σ' (ys ++ zs) := fun zs vs c h1 h2 h3 => ho.append h1 h2 (by omega) (by omega)
        have esc : ∀ a : Nat, a < 256 → eU8.all [92, UInt8.ofNat a] = [.int .u8 92, .int .u8 (a : Int)] := fun a ha => by
          simp [El.all, eU8]; omega
        by_cases h34 : n = 34
        · rw [show ((n : Int) == 34) = true by simp [h34], cond_true]
          obtain ⟨q, σ', a1, a2⟩ := app [92, UInt8.ofNat n] [.int .u8 92, .int .u8 (IntKind.u8.wrap (n : Int))] 2 (by rw [esc n (by omega), u8n, Nat.mod_eq_of_lt (by omega)]) rfl (by simp)
          rw [a1, Option.bind_some]
          exact recur q σ' _ a2 (by simp) (by unfold signB; rw [if_pos (.inl h34)])
        rw [show ((n : Int) == 34) = false by rw [beq_eq_false_iff_ne]; omega, cond_false]
        by_cases h92 : n = 92
        · rw [show ((n : Int) == 92) = true by simp [h92], cond_true]
          obtain ⟨q, σ', a1, a2⟩ := app [92, UInt8.ofNat n] [.int .u8 92, .int .u8 (IntKind.u8.wrap (n : Int))] 2 (by rw [esc n (by omega), u8n, Nat.mod_eq_of_lt (by omega)]) rfl (by simp)
          rw [a1, Option.bind_some]
          exact recur q σ' _ a2 (by simp) (by unfold signB; rw [if_pos (.inr h92)])
        rw [show ((n : Int) == 92) = false by rw [beq_eq_false_iff_ne]; omega, cond_false]
        by_cases h10 : n = 10
        · rw [show ((n : Int) == 10) = true by simp [h10], cond_true]
          obtain ⟨q, σ', a1, a2⟩ := app [92, 110] [.int .u8 92, .int .u8 110] 2 rfl rfl (by simp)
          rw [a1, Option.bind_some]
          exact recur q σ' _ a2 (by simp) (by unfold signB; rw [if_neg (by omega), if_pos h10])
        rw [show ((n : Int) == 10) = false by rw [beq_eq_false_iff_ne]; omega, cond_false]
        by_cases h13 : n = 13
        · rw [show ((n : Int) == 13) = true by simp [h13], cond_true]
          obtain ⟨q, σ', a1, a2⟩ := app [92, 114] [.int .u8 92, .int .u8 114] 2 rfl rfl (by simp)
          rw [a1, Option.bind_some]
          exact recur q σ' _ a2 (by simp) (by unfold signB; rw [if_neg (by omega), if_neg h10, if_pos h13])
        rw [show ((n : Int) == 13) = false by rw [beq_eq_false_iff_ne]; omega, cond_false]
        have hex : n < 32 ∨ n = 127 → ∃ q σ', σ.append out.b out.o out.n 1 1 [.int .u8 92, .int .u8 117, .int .u8 48, .int .u8 48, .int .u8 ((hexd (n / 16)).toNat : Int), .int .u8 ((hexd (n % 16)).toNat : Int)] 6 = some (q, σ') ∧ Mine eU8 σ0 ⟨q.1, q.2.1, q.2.2⟩ σ' (ys ++ signB n) := fun hc => by
          have hs : signB n = [92, 117, 48, 48, hexd (n / 16), hexd (n % 16)] := by
            unfold signB
            rw [if_neg (by omega), if_neg h10, if_neg h13, if_pos hc]
          rw [hs]
          exact app _ _ 6 rfl rfl (by simp)
        have d1 := fun hc : n < 32 ∨ n = 127 => dig1 ⟨n, by omega⟩ hc
        have d2 := fun hc : n < 32 ∨ n = 127 => dig2 ⟨n, by omega⟩
        simp only at d1 d2
        by_cases h32 : n < 32
        · obtain ⟨d11, d12⟩ := d1 (.inl h32)
          obtain ⟨d21, d22⟩ := d2 (.inl h32)
          obtain ⟨q, σ', a1, a2⟩ := hex (.inl h32)
          rw [show decide ((n : Int) < 32) = true by simp; omega, cond_true, d11, cond_true, d21, cond_true, d12, d22, a1, Option.bind_some]
          exact recur q σ' _ a2 (signB_len n).2 rfl
        rw [show decide ((n : Int) < 32) = false by simp; omega, cond_false]
        by_cases h127 : n = 127
        · obtain ⟨d11, d12⟩ := d1 (.inr h127)
          obtain ⟨d21, d22⟩ := d2 (.inr h127)
          obtain ⟨q, σ', a1, a2⟩ := hex (.inr h127)
          rw [show ((n : Int) == 127) = true by simp [h127], cond_true, d11, cond_true, d21, cond_true, d12, d22, a1, Option.bind_some]
          exact recur q σ' _ a2 (signB_len n).2 rfl
        rw [show ((n : Int) == 127) = false by rw [beq_eq_false_iff_ne]; omega, cond_false]
        have hs : signB n = encB n := by
          unfold signB
          rw [if_neg (by omega), if_neg h10, if_neg h13, if_neg (by omega)]
        rw [w_unicode_utf8_AppendRune_eq ⟨ho.own, rfl, hv, by omega⟩, Option.bind_some]
        have hM := ho.grow (zs := ys ++ encB n)
        generalize Go.Abs.grow eU8 σ out (ys ++ encB n) = q at hM ⊢
        exact recur (q.1.b, q.1.o, q.1.n) q.2 (encB n) hM (by have := encB_len n; omega) hs.symm
    · obtain ⟨q, σ', a1, a2⟩ := ho.append (zs := [34]) (bytes := 1) (vs := [.int .u8 34]) (k := 1) rfl rfl (by simp; omega) (by simp; omega)
      have a1' : σ.append out.b out.o out.n 1 1 [.int .u8 34] 1 = some (q, σ') := a1
      have hr : σ'.read q.1 q.2.1 q.2.2 1 = some (eU8.all (ys ++ [34])) := (a2.own.is (by simp; omega)).read
      refine ⟨σ', a2.pre, ?_⟩
      rw [json_Quote_L3_eq, decide_eq_false hi, cond_false, a1', Option.bind_some, hr, Option.bind_some, bytes_all, Option.bind_some, rsN_end hi]
      rfl
noncomputable def w_json_Quote (s : ByteArray) (σ : Heap) : Option (ByteArray × Heap) := wIf (s.size ≤ 100000000) (ba (quoteB s), σ)
theorem w_json_Quote_eq {s : ByteArray} {σ : Heap} (h : s.size ≤ 100000000) : w_json_Quote s σ = some (ba (quoteB s), σ) := wIf_eq h
theorem ok_json_Quote : Ok_json_Quote w_json_Quote := fun s σ v σ' h => by
  obtain ⟨hs, e⟩ := wIf_some h
  injection e with e1 e2
  subst e1; subst e2
  have hM : Mine eU8 σ ⟨some σ.length, 0, 1⟩ (σ ++ [.row [.int .u8 34] .rw]) [34] := ⟨pre_push .., Sl.Own.new (E := eU8) (xs := [34]), fun c hc => by injection hc with hc; omega⟩
  obtain ⟨σ1, g1, g2⟩ := Quote_loop (L := s.size + 1) (s := s) s.size 0 (s.size + 1) _ _ _ (by omega) (by omega) hM (by simp; omega)
  exact call_gc0 (call_ok ok (K_json_Quote c_json_Quote ok_unicode_utf8_AppendRune) (L := s.size + 1) (n := 2) ((json_Quote_eq c_json_Quote (s.size + 1) s σ _).trans g2)) (fun b hb => get_pre g1 hb) trivial
end Go.Abs.TE
