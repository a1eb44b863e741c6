/-
Styles as bytes: contracts of bits, PutStyle, TakeStyle; they come back.
-/
import Derived.Test.YtcfohnfnajfahaaDoorConB3
namespace Go.Abs.TA
open Go Go.Abs Go.Proofs

/-! ### Numbers come back from their bytes -/
theorem ofNat_toNat {n : Nat} (h : n < 256) : (UInt8.ofNat n).toNat = n := by simp; omega
theorem vtakeGo_vput (rest : List UInt8) : ∀ (n i acc : Nat), acc + n * 2 ^ (7 * i) < 18446744073709551616 → (0 < i → n ≠ 0) → i ≤ 9 → vtakeGo i acc (vput n ++ rest) = (acc + n * 2 ^ (7 * i), i + (vput n).length) := by
  intro n
  induction n using Nat.strongRecOn with
  | ind n ih =>
    intro i acc h h0 hi
    by_cases h1 : n < 128
    · rw [vput_lt h1, List.singleton_append, vtakeGo, ofNat_toNat (by omega)]
      have h9 : ¬ ((i = 9 ∧ n > 1) ∨ i > 9) := by
        rintro (⟨e, h2⟩ | h2)
        · subst e
          have e : (2 : Nat) ^ (7 * 9) = 9223372036854775808 := by decide
          have : 2 * 2 ^ (7 * 9) ≤ n * 2 ^ (7 * 9) := Nat.mul_le_mul_right _ (by omega)
          omega
        · omega
      rw [if_neg h9, if_pos h1, if_neg (by rintro ⟨h2, h3⟩; exact h0 h3 h2), Nat.mod_eq_of_lt h1]
      rfl
    · rw [vput_ge (by omega), List.cons_append, vtakeGo, ofNat_toNat (by omega)]
      have hlt : i < 9 := by
        rcases Nat.lt_or_ge i 9 with h2 | h2
        · exact h2
        · have e9 : i = 9 := by omega
          subst e9
          have e : (2 : Nat) ^ (7 * 9) = 9223372036854775808 := by decide
          have : 128 * 2 ^ (7 * 9) ≤ n * 2 ^ (7 * 9) := Nat.mul_le_mul_right _ (by omega)
          omega
      have hm : (n % 128 + 128) % 128 = n % 128 := by omega
      have hs : acc + n % 128 * 2 ^ (7 * i) + n / 128 * 2 ^ (7 * (i + 1)) = acc + n * 2 ^ (7 * i) := by
        rw [show 7 * (i + 1) = 7 * i + 7 by omega, Nat.pow_add, Nat.add_assoc, Nat.mul_comm (2 ^ (7 * i)) (2 ^ 7), ← Nat.mul_assoc, ← Nat.add_mul]
        congr 2
        have := Nat.div_add_mod n 128
        omega
      rw [if_neg (by omega), if_neg (by omega), hm, ih (n / 128) (by omega) (i + 1) _ (by rw [hs]; exact h) (fun _ => by omega) (by omega), hs]
      simp only [List.length_cons]
      congr 1
      omega
theorem vtake_vput {n : Nat} (h : n < 18446744073709551616) (rest : List UInt8) : vtake (vput n ++ rest) = (n, (vput n).length) := by
  unfold vtake
  rw [vtakeGo_vput rest n 0 0 (by simpa using h) (by omega) (by omega)]
  simp

/-! ### bits -/
def bitsN (s : api_Style) : Nat := s.Fore.toNat + 16 * s.Back.toNat + (bif s.Bold then 256 else 0) + (bif s.Under then 512 else 0) + (bif s.Turned then 1024 else 0)
theorem or_pow {m k b : Nat} (hb : b = 2 ^ k) (h : m < 2 ^ k) (hk : k ≤ 20) : IntKind.u64.wrap (BitVec.ofInt IntKind.u64.bits (m : Int) ||| BitVec.ofInt IntKind.u64.bits (b : Int)).toNat = ((m + b : Nat) : Int) := by
  have hp : 2 ^ k ≤ 2 ^ 20 := Nat.pow_le_pow_right (by decide) hk
  have e20 : (2 : Nat) ^ 20 = 1048576 := by decide
  rw [BitVec.toNat_or]
  have e : ∀ m : Nat, m < 18446744073709551616 → (BitVec.ofInt IntKind.u64.bits (m : Int)).toNat = m := fun m hm => by
    show (BitVec.ofInt 64 (m : Int)).toNat = _
    rw [BitVec.toNat_ofInt]
    omega
  rw [e m (by omega), e b (by omega), hb]
  have := Nat.two_pow_add_eq_or_of_lt h 1
  rw [Nat.or_comm, show 2 ^ k = 2 ^ k * 1 by omega, ← this, IntKind.wrap_u64]
  omega
theorem bits_base : ∀ f b : Fin 9, IntKind.u64.wrap (BitVec.ofInt IntKind.u64.bits (IntKind.u64.wrap ((f.val : Nat) : Int)) ||| BitVec.ofInt IntKind.u64.bits (IntKind.u64.wrap ((IntKind.u64.wrap ((b.val : Nat) : Int)) * 2 ^ 4))).toNat = ((f.val + 16 * b.val : Nat) : Int) := by decide +kernel
theorem okS_fin {s : api_Style} (h : okS s = true) : ∃ f b : Fin 9, s.Fore = ((f.val : Nat) : Int) ∧ s.Back = ((b.val : Nat) : Int) := by
  unfold okS at h
  simp only [decide_eq_true_eq] at h
  exact ⟨⟨s.Fore.toNat, by omega⟩, ⟨s.Back.toNat, by omega⟩, by simp; omega, by simp; omega⟩
noncomputable def w_cell_bits (s : api_Style) (σ : Heap) : Option (Int × Heap) := wIf (okS s = true) ((bitsN s : Int), σ)
theorem ok_cell_bits : Ok_cell_bits w_cell_bits := fun s σ v σ' h => by
  obtain ⟨hs, e⟩ := wIf_some h
  injection e with e1 e2
  subst e1; subst e2
  refine call_ok ok known0_ok (L := 4) (n := 2) ((cell_bits_eq 0 s σ _).trans ?_)
  obtain ⟨f, b, hf, hb⟩ := okS_fin hs
  have hf9 := f.isLt
  have hb9 := b.isLt
  show _ = some (AVal.int .u64 (bitsN s : Int), σ)
  rw [hf, hb, bits_base f b]
  have hN : bitsN s = f.val + 16 * b.val + (bif s.Bold then 256 else 0) + (bif s.Under then 512 else 0) + (bif s.Turned then 1024 else 0) := by
    unfold bitsN
    rw [hf, hb]
    simp
  rw [hN]
  have o8 : ∀ m : Nat, m < 256 → IntKind.u64.wrap (BitVec.ofInt IntKind.u64.bits (m : Int) ||| BitVec.ofInt IntKind.u64.bits 256).toNat = ((m + 256 : Nat) : Int) := fun m hm => or_pow (k := 8) rfl (by simpa using hm) (by omega)
  have o9 : ∀ m : Nat, m < 512 → IntKind.u64.wrap (BitVec.ofInt IntKind.u64.bits (m : Int) ||| BitVec.ofInt IntKind.u64.bits 512).toNat = ((m + 512 : Nat) : Int) := fun m hm => or_pow (k := 9) rfl (by simpa using hm) (by omega)
  have o10 : ∀ m : Nat, m < 1024 → IntKind.u64.wrap (BitVec.ofInt IntKind.u64.bits (m : Int) ||| BitVec.ofInt IntKind.u64.bits 1024).toNat = ((m + 1024 : Nat) : Int) := fun m hm => or_pow (k := 10) rfl (by simpa using hm) (by omega)
  cases s.Bold <;> cases s.Under <;> cases s.Turned <;> simp only [cond_true, cond_false]
  · rfl
  · rw [o10 _ (by omega)]
  · rw [o9 _ (by omega)]
  · rw [o9 _ (by omega), o10 _ (by omega)]
  · rw [o8 _ (by omega)]
  · rw [o8 _ (by omega), o10 _ (by omega)]
  · rw [o8 _ (by omega), o9 _ (by omega)]
  · rw [o8 _ (by omega), o9 _ (by omega), o10 _ (by omega)]
theorem bitsN_lt {s : api_Style} (h : okS s = true) : bitsN s < 2048 := by
  obtain ⟨f, b, hf, hb⟩ := okS_fin h
  have hf9 := f.isLt
  have hb9 := b.isLt
  unfold bitsN
  rw [hf, hb]
  cases s.Bold <;> cases s.Under <;> cases s.Turned <;> simp <;> omega

/-! ### PutStyle -/
noncomputable def c_cell_PutStyle : C_cell_PutStyle := { vary_Put := w_vary_Put, cell_bits := w_cell_bits }
noncomputable def w_cell_PutStyle (b : Sl) (s : api_Style) (σ : Heap) : Option (Sl × Heap) := wOf (fun ys => b.Own eU8 σ ys ∧ okS s = true ∧ ys.length ≤ 900000) fun ys => grow eU8 σ b (ys ++ vput (bitsN s))
theorem w_cell_PutStyle_eq {b : Sl} {s : api_Style} {σ : Heap} {ys : List UInt8} (h : b.Own eU8 σ ys) (hs : okS s = true) (hl : ys.length ≤ 900000) : w_cell_PutStyle b s σ = some (grow eU8 σ b (ys ++ vput (bitsN s))) :=
  wOf_eq ⟨h, hs, hl⟩ fun y hy => by rw [hy.1.uniq (by decide) h]
theorem ok_cell_PutStyle : Ok_cell_PutStyle w_cell_PutStyle := fun b s σ v σ' h => by
  obtain ⟨ys, ⟨hb, hs, hl⟩, e⟩ := wOf_some h
  obtain ⟨rfl, rfl⟩ : v = (grow eU8 σ b (ys ++ vput (bitsN s))).1 ∧ σ' = (grow eU8 σ b (ys ++ vput (bitsN s))).2 := by rw [e]; exact ⟨rfl, rfl⟩
  have hp : σ <+: σ ++ [.row [.int .u64 (bitsN s : Int)] .rw] := pre_push ..
  have hlt := bitsN_lt hs
  have hap : ∀ c, b.b = some c → (⟨some σ.length, 0, 1⟩ : Sl).b ≠ some c := fun c hc e => by
    simp at e
    have := (hb.is (by omega)).lt hc
    omega
  have hP : w_vary_Put b ⟨some σ.length, 0, 1⟩ (σ ++ [.row [.int .u64 (bitsN s : Int)] .rw]) = some (grow eU8 (σ ++ [.row [.int .u64 (bitsN s : Int)] .rw]) b (ys ++ vputs [bitsN s])) :=
    w_vary_Put_eq { own := hb.pre hp, nums := Sl.Is.new (E := eU64) (xs := [(bitsN s : Int)]) (by simp), ne := by simp, lt := fun n hn => by simp at hn; omega, small := by simp; omega, apart := hap }
  have hv : ys ++ vputs [bitsN s] = ys ++ vput (bitsN s) := by simp [vputs]
  rw [hv] at hP
  generalize hq : grow eU8 (σ ++ [.row [.int .u64 (bitsN s : Int)] .rw]) b (ys ++ vput (bitsN s)) = q at hP
  have hown := grow_own (E := eU8) (σ := σ ++ [.row [.int .u64 (bitsN s : Int)] .rw]) (s := b) (zs := ys ++ vput (bitsN s))
  have hkept := grow_kept (E := eU8) (σ := σ ++ [.row [.int .u64 (bitsN s : Int)] .rw]) (s := b) (zs := ys ++ vput (bitsN s))
  have hfst := grow_fst (E := eU8) (σ := σ ++ [.row [.int .u64 (bitsN s : Int)] .rw]) (s := b) (zs := ys ++ vput (bitsN s))
  rw [hq] at hown hkept hfst
  refine call_grow (q := q.1) (call_ok ok (K_cell_PutStyle c_cell_PutStyle ok_vary_Put ok_cell_bits) (L := 0) (n := 2) (v := (tSl 1).av q.1) (σ' := q.2) ((cell_PutStyle_eq c_cell_PutStyle 0 b s σ _).trans ?_)) hb hown (fun e => vput_ne _ (List.append_eq_nil_iff.1 e).2) ⟨?_, fun c hc hne => ?_⟩ (fun c hc => ?_)
  · have p1 : c_cell_PutStyle.vary_Put = w_vary_Put := rfl
    have p2 : c_cell_PutStyle.cell_bits = w_cell_bits := rfl
    simp only [p1, p2, w_cell_bits, wIf_eq hs, Option.bind_some, alloc]
    rw [hP, Option.bind_some]
    rfl
  · have := hkept.len
    simp at this
    omega
  · rw [hkept.at_ c (by simp; omega) hne]
    exact get_pre hp hc
  · rw [hfst] at hc
    simp at hc
    omega

/-! ### TakeStyle -/
def styleOf (n : Nat) : api_Style := ⟨decide (n &&& 256 > 0), decide (n &&& 512 > 0), decide (n &&& 1024 > 0), ((n &&& 15 : Nat) : Int), ((n / 16 &&& 15 : Nat) : Int)⟩
theorem style_back {s : api_Style} (h : okS s = true) : styleOf (bitsN s) = s := by
  obtain ⟨f, b, hf, hb⟩ := okS_fin h
  obtain ⟨b0, b1, b2, fo, ba⟩ := s
  simp only at hf hb
  subst hf; subst hb
  have key : ∀ f b : Fin 9, ∀ x y z : Bool, styleOf (bitsN ⟨x, y, z, ((f.val : Nat) : Int), ((b.val : Nat) : Int)⟩) = ⟨x, y, z, ((f.val : Nat) : Int), ((b.val : Nat) : Int)⟩ := by decide +kernel
  exact key f b b0 b1 b2
theorem i64_and {n m : Nat} (hn : n ≤ 9223372036854775807) (hm : m ≤ 1048576) : IntKind.i64.wrap (BitVec.ofInt IntKind.i64.bits (n : Int) &&& BitVec.ofInt IntKind.i64.bits (m : Int)).toNat = ((n &&& m : Nat) : Int) := by
  rw [BitVec.toNat_and]
  have e : ∀ m : Nat, m ≤ 9223372036854775807 → (BitVec.ofInt IntKind.i64.bits (m : Int)).toNat = m := fun m hm => by
    show (BitVec.ofInt 64 (m : Int)).toNat = _
    rw [BitVec.toNat_ofInt]
    omega
  rw [e n hn, e m (by omega)]
  have : n &&& m ≤ m := Nat.and_le_right
  exact wrap_i64_nat _ (by omega)
def zeroS : api_Style := ⟨false, false, false, 0, 0⟩
def takeS (σ : Heap) (p : Nat) (s : Sl) (bad : Bool) (xs : List UInt8) : (api_Style × Bool) × Heap :=
  bif numOK bad xs 2048 && okS (styleOf (vtake xs).1) then ((styleOf (vtake xs).1, true), (numRes 2048 σ p s bad xs).2) else ((zeroS, false), (numRes 2048 σ p s bad xs).2)
noncomputable def c_cell_TakeStyle : C_cell_TakeStyle := { vary_Reader_Num := w_vary_Reader_Num, vary_Reader_Good := w_vary_Reader_Good, cell_Style := w_cell_Style }
noncomputable def w_cell_TakeStyle (r : Pt) (σ : Heap) : Option ((api_Style × Bool) × Heap) :=
  wOf (fun t : Nat × Sl × Bool × List UInt8 => NumPre r 2048 σ t.1 t.2.1 t.2.2.1 t.2.2.2) fun t => takeS σ t.1 t.2.1 t.2.2.1 t.2.2.2
theorem NumPre.uniq {r : Pt} {limit : Int} {σ : Heap} {p p' : Nat} {s s' : Sl} {bad bad' : Bool} {xs xs' : List UInt8} (h : NumPre r limit σ p s bad xs) (hy : NumPre r limit σ p' s' bad' xs') : (p', s', bad', xs') = (p, s, bad, xs) := by
  have e1 := hy.at_
  rw [h.at_] at e1
  simp at e1
  subst e1
  obtain ⟨e2, e3⟩ := h.rdr.uniq hy.rdr
  subst e2; subst e3
  rw [show xs' = xs from hy.is.uniq (by decide) h.is]
theorem w_cell_TakeStyle_eq {r : Pt} {σ : Heap} {p : Nat} {s : Sl} {bad : Bool} {xs : List UInt8} (h : NumPre r 2048 σ p s bad xs) : w_cell_TakeStyle r σ = some (takeS σ p s bad xs) :=
  wOf_eq (x := (p, s, bad, xs)) h fun y hy => by
    obtain ⟨p', s', bad', xs'⟩ := y
    have := h.uniq hy
    simp only [Prod.mk.injEq] at this
    obtain ⟨rfl, rfl, rfl, rfl⟩ := this
    rfl
theorem numRes_rdr {limit : Int} {σ : Heap} {p : Nat} {s : Sl} {bad : Bool} {xs : List UInt8} (h : Rdr σ p s bad) : Rdr (numRes limit σ p s bad xs).2 p (bif numOK bad xs limit then ⟨s.b, s.o + (vtake xs).2 * 1, s.n - (vtake xs).2⟩ else s) (!numOK bad xs limit) := by
  unfold numRes
  cases hk : numOK bad xs limit with
  | true =>
    have : bad = false := by
      unfold numOK at hk
      cases bad
      · rfl
      · simp at hk
    subst this
    exact h.set _ _
  | false => exact h.set _ _
theorem ok_cell_TakeStyle : Ok_cell_TakeStyle w_cell_TakeStyle := fun r σ v σ' h => by
  obtain ⟨⟨p, s, bad, xs⟩, hp, e⟩ := wOf_some h
  simp only at hp e
  obtain ⟨rfl, rfl⟩ : v = (takeS σ p s bad xs).1 ∧ σ' = (takeS σ p s bad xs).2 := by rw [e]; exact ⟨rfl, rfl⟩
  refine call_ok ok (K_cell_TakeStyle c_cell_TakeStyle ok_cell_Style ok_vary_Reader_Num ok_vary_Reader_Good) (L := 0) (n := 2) ((cell_TakeStyle_eq c_cell_TakeStyle 0 r σ _).trans ?_)
  have p1 : c_cell_TakeStyle.vary_Reader_Num = w_vary_Reader_Num := rfl
  have p2 : c_cell_TakeStyle.vary_Reader_Good = w_vary_Reader_Good := rfl
  have p3 : c_cell_TakeStyle.cell_Style = w_cell_Style := rfl
  have hg := numRes_rdr (limit := 2048) (xs := xs) hp.rdr
  have hr := hp.at_
  rw [p1, w_vary_Reader_Num_eq hp, Option.bind_some, p2, hr, w_vary_Reader_Good_eq hg, Option.bind_some, p3]
  simp only [Bool.not_not, w_cell_Style, Option.bind_some]
  cases hk : numOK bad xs 2048 with
  | false =>
    simp only [Bool.not_false, cond_true]
    unfold takeS
    rw [hk]
    rfl
  | true =>
    simp only [Bool.not_true, cond_false]
    have hv : (numRes 2048 σ p s bad xs).1 = ((vtake xs).1 : Int) := by unfold numRes; rw [hk]; rfl
    have hlt : (vtake xs).1 < 2048 := by
      unfold numOK at hk
      simp at hk
      omega
    have a2 : IntKind.i64.wrap (BitVec.ofInt IntKind.i64.bits (((vtake xs).1 / 16 : Nat) : Int) &&& BitVec.ofInt IntKind.i64.bits 15).toNat = (((vtake xs).1 / 16 &&& 15 : Nat) : Int) := i64_and (n := (vtake xs).1 / 16) (m := 15) (by omega) (by omega)
    have b1 : IntKind.i64.wrap (BitVec.ofInt IntKind.i64.bits ((vtake xs).1 : Int) &&& BitVec.ofInt IntKind.i64.bits 256).toNat = (((vtake xs).1 &&& 256 : Nat) : Int) := i64_and (m := 256) (by omega) (by omega)
    have b2 : IntKind.i64.wrap (BitVec.ofInt IntKind.i64.bits ((vtake xs).1 : Int) &&& BitVec.ofInt IntKind.i64.bits 512).toNat = (((vtake xs).1 &&& 512 : Nat) : Int) := i64_and (m := 512) (by omega) (by omega)
    have b3 : IntKind.i64.wrap (BitVec.ofInt IntKind.i64.bits ((vtake xs).1 : Int) &&& BitVec.ofInt IntKind.i64.bits 1024).toNat = (((vtake xs).1 &&& 1024 : Nat) : Int) := i64_and (m := 1024) (by omega) (by omega)
    have b4 : IntKind.i64.wrap (BitVec.ofInt IntKind.i64.bits ((vtake xs).1 : Int) &&& BitVec.ofInt IntKind.i64.bits 15).toNat = (((vtake xs).1 &&& 15 : Nat) : Int) := i64_and (m := 15) (by omega) (by omega)
    have b5 : Int.fdiv ((vtake xs).1 : Int) (2 ^ 4) = (((vtake xs).1 / 16 : Nat) : Int) := by
      rw [Int.fdiv_eq_ediv_of_nonneg _ (by decide)]
      simp
    rw [hv]
    simp only [b5, b1, b2, b3, b4, a2]
    have es : (⟨decide ((((vtake xs).1 &&& 256 : Nat) : Int) > 0), decide ((((vtake xs).1 &&& 512 : Nat) : Int) > 0), decide ((((vtake xs).1 &&& 1024 : Nat) : Int) > 0), (((vtake xs).1 &&& 15 : Nat) : Int), (((vtake xs).1 / 16 &&& 15 : Nat) : Int)⟩ : api_Style) = styleOf (vtake xs).1 := by
      unfold styleOf
      simp
    rw [es]
    unfold takeS
    rw [hk, Bool.true_and, ← es]
    cases okS _ <;> rfl
end Go.Abs.TA
