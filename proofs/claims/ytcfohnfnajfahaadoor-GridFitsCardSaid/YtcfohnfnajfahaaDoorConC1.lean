/-
Contracts: the grid laws' fit, within, slices.Repeat, blank lines, Fit.
-/
import Derived.Test.YtcfohnfnajfahaaDoorConC0
import Derived.Test.YtcfohnfnajfahaaDoorConA7
import Derived.Test.YtcfohnfnajfahaaDoorEqA2
import Derived.Test.YtcfohnfnajfahaaDoorEqA3
namespace Go.Abs.TA
open Go Go.Abs Go.Proofs

theorem obs_some {x : Option (AVal × Heap)} {b : Bool} (h : obs x = some b) : ∃ σ, x = some (.bool b, σ) := by
  unfold obs at h
  split at h
  · injection h with h; subst h; exact ⟨_, rfl⟩
  · cases h
theorem glob0 (g : Nat) (h : T.glob g = true) : g = 0 := by
  have : memN [0] g = true := h
  have := memN_mem this
  simpa using this
noncomputable def w_law09_fit (σ : Heap) : Option (Bool × Heap) := wIf (WideOK σ) (true, σ)
theorem w_law09_fit_eq {σ : Heap} (h : WideOK σ) : w_law09_fit σ = some (true, σ) := wIf_eq h
theorem ok_law09_fit : Ok_law09_fit w_law09_fit := fun σ v σ' h => by
  obtain ⟨hw, e⟩ := wIf_some h
  injection e with e1 e2
  subst e1; subst e2
  obtain ⟨σ1, e1⟩ := obs_some fit9
  refine call_frame_flat (xs0 := []) (call_ok ok known0_ok e1) rfl (fun b x hb => ?_) (fun b => b) (fun b x hb => ?_) (fun g hg => ?_)
  · cases b with
    | zero => simp at hb; subst hb; rfl
    | succ b => simp at hb
  · cases b with
    | zero =>
      simp at hb
      subst hb
      exact ⟨_, hw, by simp [Blk.ren, Blk.frz, wideRow, rens_map, AVal.ren]⟩
    | succ b => simp at hb
  · obtain rfl := glob0 g hg
    exact ⟨rfl, by simp⟩

def within (n lo hi : Int) : Int := if hi < (if lo > n then lo else n) then hi else (if lo > n then lo else n)
def w_law09_within (n lo hi : Int) (σ : Heap) : Option (Int × Heap) := some (within n lo hi, σ)
theorem ok_law09_within : Ok_law09_within w_law09_within := fun n lo hi σ v σ' h => by
  injection h with h; injection h with h1 h2; subst h1; subst h2
  exact call_ok ok known0_ok (L := 0) (n := 2) (law09_within_eq 0 n lo hi σ _)

/-! ### slices.Repeat of one cell -/
noncomputable def w_math_bits_Mul64 (x y : Int) (σ : Heap) : Option ((Int × Int) × Heap) := wIf (x = 1 ∧ 0 ≤ y ∧ y < 2147483648) ((0, y), σ)
theorem mask32 {y : Int} (h0 : 0 ≤ y) (h1 : y < 2147483648) : IntKind.u64.wrap (BitVec.ofInt IntKind.u64.bits y &&& BitVec.ofInt IntKind.u64.bits 4294967295).toNat = y := by
  obtain ⟨k, rfl⟩ := Int.eq_ofNat_of_zero_le h0
  rw [BitVec.toNat_and]
  have e1 : (BitVec.ofInt IntKind.u64.bits (k : Int)).toNat = k := by
    show (BitVec.ofInt 64 (k : Int)).toNat = _
    rw [BitVec.toNat_ofInt]
    omega
  have e2 : (BitVec.ofInt IntKind.u64.bits 4294967295).toNat = 2 ^ 32 - 1 := by decide
  rw [e1, e2, Nat.and_two_pow_sub_one_eq_mod, IntKind.wrap_u64]
  omega
theorem ok_math_bits_Mul64 : Ok_math_bits_Mul64 w_math_bits_Mul64 := fun x y σ v σ' h => by
  obtain ⟨⟨rfl, h0, h1⟩, e⟩ := wIf_some h
  injection e with e1 e2
  subst e1; subst e2
  refine call_ok ok known0_ok (L := 0) (n := 2) ((math_bits_Mul64_eq 0 1 y σ _).trans ?_)
  have e2 : Int.fdiv y (2 ^ 32) = 0 := by
    rw [Int.fdiv_eq_ediv_of_nonneg _ (by decide)]
    exact Int.ediv_eq_zero_of_lt h0 (by omega)
  have e1 : Int.fdiv 1 (2 ^ 32) = 0 := by decide
  have e3 : IntKind.u64.wrap (BitVec.ofInt IntKind.u64.bits 1 &&& BitVec.ofInt IntKind.u64.bits 4294967295).toNat = 1 := by decide
  have e4 := mask32 h0 h1
  have e5 : IntKind.u64.wrap y = y := by rw [IntKind.wrap_u64]; omega
  have e6 : IntKind.u64.wrap 0 = 0 := by decide
  have e7 : IntKind.u64.wrap (BitVec.ofInt IntKind.u64.bits 0 &&& BitVec.ofInt IntKind.u64.bits 4294967295).toNat = 0 := by decide
  have e8 : Int.fdiv 0 (2 ^ 32) = 0 := by decide
  simp only [e1, e2, e3, e4, e5, e6, e7, e8, Int.zero_mul, Int.mul_zero, Int.one_mul, Int.add_zero]
  rfl
noncomputable def c_math_bits_Mul : C_math_bits_Mul := ⟨w_math_bits_Mul64⟩
noncomputable def w_math_bits_Mul (x y : Int) (σ : Heap) : Option ((Int × Int) × Heap) := w_math_bits_Mul64 x y σ
theorem ok_math_bits_Mul : Ok_math_bits_Mul w_math_bits_Mul := fun x y σ v σ' h => by
  refine call_ok ok (K_math_bits_Mul c_math_bits_Mul ok_math_bits_Mul64) (L := 0) (n := 2) ((math_bits_Mul_eq c_math_bits_Mul 0 x y σ _).trans ?_)
  have p : c_math_bits_Mul.math_bits_Mul64 = w_math_bits_Mul64 := rfl
  have h' : w_math_bits_Mul64 x y σ = some (v, σ') := h
  rw [p, h']
  rfl
theorem rep_all {c : api_Cell} : ∀ (n : Nat), eCell.all (List.replicate n c) = (List.replicate n c.cells).flatten
  | 0 => rfl
  | n + 1 => by
    rw [List.replicate_succ, El.all_cons, rep_all n, List.replicate_succ, List.flatten_cons]
    rfl
/-- The first k of them are c, the others z. -/
def repTo (c z : api_Cell) (k n : Nat) : List api_Cell := List.replicate k c ++ List.replicate (n - k) z
theorem repTo_len {c z : api_Cell} {k n : Nat} (h : k ≤ n) : (repTo c z k n).length = n := by simp [repTo]; omega
theorem overwrite_rep {c z : api_Cell} {k m n : Nat} (h : k + m ≤ n) : overwrite (eCell.all (repTo c z k n)) (k * 6) (eCell.all (List.replicate m c)) = eCell.all (repTo c z (k + m) n) := by
  have e : eCell.all (repTo c z k n) = eCell.all (List.replicate k c) ++ eCell.all (List.replicate m z) ++ eCell.all (List.replicate (n - k - m) z) := by
    have e1 : List.replicate (n - k) z = List.replicate m z ++ List.replicate (n - k - m) z := by rw [List.replicate_append_replicate]; congr 1; omega
    unfold repTo
    rw [e1, El.all_append, El.all_append, List.append_assoc]
  have hl : (eCell.all (List.replicate k c)).length = k * 6 := by rw [El.all_len, List.length_replicate]; rfl
  rw [e]
  have := overwrite_append (eCell.all (List.replicate m c)) (eCell.all (List.replicate k c)) (eCell.all (List.replicate m z)) (eCell.all (List.replicate (n - k - m) z)) (by rw [El.all_len, El.all_len, List.length_replicate, List.length_replicate])
  rw [hl] at this
  rw [this, ← El.all_append, ← El.all_append, List.replicate_append_replicate, show n - k - m = n - (k + m) by omega]
  rfl
theorem store_rep {σ0 σ : Heap} {out : Sl} {c z : api_Cell} {k m n : Nat} (h : Mine eCell σ0 out σ (repTo c z k n)) (hb : out.b.isNone = false) (hk : k + m ≤ n) :
    ∃ b σ', out.b = some b ∧ σ.store b (out.o + k * 6) (eCell.all (List.replicate m c)) = some σ' ∧ Mine eCell σ0 out σ' (repTo c z (k + m) n) := by
  cases hob : out.b with
  | none => rw [hob] at hb; cases hb
  | some b =>
    obtain ⟨σ', h1, h2, h3, h4⟩ := store_own h.own hob (o := k * 6) (vs := eCell.all (List.replicate m c)) (overwrite_rep hk) (by rw [repTo_len hk, repTo_len (by omega)]) (by
      rw [El.all_len, List.length_replicate, repTo_len (by omega)]
      show k * 6 + m * 6 ≤ n * 6
      omega)
    have ho : out.o = 0 := by
      cases h.own with
      | nil hb' _ _ _ => rw [hob] at hb'; cases hb'
      | row _ _ ho _ _ => exact ho
    have hl := h.pre.length_le
    have hn := h.new b hob
    exact ⟨b, σ', rfl, by rw [ho, Nat.zero_add]; exact h1, pre_of_get (by omega) (fun d hd => by rw [h4 d (by omega)]; exact get_pre h.pre hd), h2, h.new⟩
noncomputable def c_slices_Repeat : C_slices_Repeat := ⟨w_math_bits_Mul⟩
theorem slices_Repeat_loop {R : Type} {L : Nat} {out : Sl} {σ0 : Heap} {K : AVal → Heap → Option R} {c z : api_Cell} {n : Nat} (hn : n ≤ 1000000) (hb : out.b.isNone = false) :
    ∀ (d k m : Nat) (σ : Heap), k + d = n → d < m → 0 < k → Mine eCell σ0 out σ (repTo c z k n) →
      ∃ σ1, Mine eCell σ0 out σ1 (List.replicate n c) ∧ slices_Repeat_L8 c_slices_Repeat L m out (k : Int) σ K = K (.slice out.b out.o out.n 6) σ1 := by
  intro d
  induction d using Nat.strongRecOn with
  | ind d ih =>
    intro k m σ hk hm h0 hM
    cases m with
    | zero => omega
    | succ m =>
      have hon : out.n = n := by rw [hM.own.len, repTo_len (by omega)]
      rw [slices_Repeat_L8_eq, hon]
      by_cases hd : d = 0
      · refine ⟨σ, ?_, ?_⟩
        · have : repTo c z k n = List.replicate n c := by unfold repTo; rw [show n - k = 0 by omega, show k = n by omega]; simp
          rw [← this]; exact hM
        · rw [lt_false (show ¬ k < n by omega)]
          rfl
      · have hr := (hM.own.is (by rw [repTo_len (by omega)]; omega)).readn (m := min k (n - k)) (by rw [repTo_len (by omega)]; omega)
        have ht : (repTo c z k n).take (min k (n - k)) = List.replicate (min k (n - k)) c := by
          unfold repTo
          rw [List.take_append_of_le_length (by simp; omega), List.take_replicate]
          congr 1
          omega
        rw [ht] at hr
        have hr' : σ.read out.b out.o (min k (n - k)) 6 = some (eCell.all (List.replicate (min k (n - k)) c)) := hr
        obtain ⟨b, σ', g1, g2, g3⟩ := store_rep hM hb (m := min k (n - k)) (by omega)
        obtain ⟨σ1, j1, j2⟩ := ih (d - min k (n - k)) (by omega) (k + min k (n - k)) m σ' (by omega) (by omega) (by omega) g3
        refine ⟨σ1, j1, ?_⟩
        rw [lt_true (show k < n by omega)]
        simp only [cond_true, dec0, show decide ((k : Int) ≤ (n : Int)) = true by simp; omega, Int.le_refl, decide_true, Bool.and_self, Int.toNat_natCast]
        rw [hr', Option.bind_some, g1]
        simp only [g2, Option.bind_some]
        rw [show (k : Int) + ((min k (n - k) : Nat) : Int) = ((k + min k (n - k) : Nat) : Int) by simp, wrap_i64_nat _ (by omega), ← g1, ← hon]
        rw [hon]
        rw [hon] at j2
        exact j2
end Go.Abs.TA
