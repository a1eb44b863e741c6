/-
The grid laws' own fit is true: a closed call, run by the kernel.
Contracts: the grid laws' fit, within, slices.Repeat, blank lines, Fit.
Contracts: slices.Repeat, blank lines, Fit.
-/
import Derived.Test.YtcfohnfnajfahaaDoorMConA
import Derived.Test.YtcfohnfnajfahaaDoorEqA2
import Derived.Test.YtcfohnfnajfahaaDoorEqA3
namespace Go.Abs.TA
open Go Go.Abs Go.Proofs
def obs (x : Option (AVal × Heap)) : Option Bool := match x with | some (.bool b, _) => some b | _ => none
theorem fit9 : obs (callC T known0 100 20 35 [] [.row wideRow .ro] (fun v σ => some (v, σ))) = some true := by kernel_rfl
end Go.Abs.TA
namespace Go.Abs.TA
open Go Go.Abs Go.Proofs

theorem obs_some {x : Option (AVal × Heap)} {b : Bool} (h : obs x = some b) : ∃ σ, x = some (.bool b, σ) := by
  unfold obs at h
  split at h
  · injection h with h; subst h; exact ⟨_, rfl⟩
  · cases h
theorem glob0 (g : Nat) (h : T.glob g = true) : g = 0 := by
  have : memN [0] g = true := h
  have := memN_mem this
  simpa using this
noncomputable def w_law09_fit (σ : Heap) : Option (Bool × Heap) := wIf (WideOK σ) (true, σ)
theorem w_law09_fit_eq {σ : Heap} (h : WideOK σ) : w_law09_fit σ = some (true, σ) := wIf_eq h
theorem ok_law09_fit : Ok_law09_fit w_law09_fit := fun σ v σ' h => by
  obtain ⟨hw, e⟩ := wIf_some h
  injection e with e1 e2
  subst e1; subst e2
  obtain ⟨σ1, e1⟩ := obs_some fit9
  refine call_frame_flat (xs0 := []) (call_ok ok known0_ok e1) rfl (fun b x hb => ?_) (fun b => b) (fun b x hb => ?_) (fun g hg => ?_)
  · cases b with
    | zero => simp at hb; subst hb; rfl
    | succ b => simp at hb
  · cases b with
    | zero =>
      simp at hb
      subst hb
      exact ⟨_, hw, by simp [Blk.ren, Blk.frz, wideRow, rens_map, AVal.ren]⟩
    | succ b => simp at hb
  · obtain rfl := glob0 g hg
    exact ⟨rfl, by simp⟩

def within (n lo hi : Int) : Int := if hi < (if lo > n then lo else n) then hi else (if lo > n then lo else n)
def w_law09_within (n lo hi : Int) (σ : Heap) : Option (Int × Heap) := some (within n lo hi, σ)
theorem ok_law09_within : Ok_law09_within w_law09_within := fun n lo hi σ v σ' h => by
  injection h with h; injection h with h1 h2; subst h1; subst h2
  exact call_ok ok known0_ok (L := 0) (n := 2) (law09_within_eq 0 n lo hi σ _)

/-! ### slices.Repeat of one cell -/
noncomputable def w_math_bits_Mul64 (x y : Int) (σ : Heap) : Option ((Int × Int) × Heap) := wIf (x = 1 ∧ 0 ≤ y ∧ y < 2147483648) ((0, y), σ)
theorem mask32 {y : Int} (h0 : 0 ≤ y) (h1 : y < 2147483648) : IntKind.u64.wrap (BitVec.ofInt IntKind.u64.bits y &&& BitVec.ofInt IntKind.u64.bits 4294967295).toNat = y := by
  obtain ⟨k, rfl⟩ := Int.eq_ofNat_of_zero_le h0
  rw [BitVec.toNat_and]
  have e1 : (BitVec.ofInt IntKind.u64.bits (k : Int)).toNat = k := by
    show (BitVec.ofInt 64 (k : Int)).toNat = _
    rw [BitVec.toNat_ofInt]
    omega
  have e2 : (BitVec.ofInt IntKind.u64.bits 4294967295).toNat = 2 ^ 32 - 1 := by decide
  rw [e1, e2, Nat.and_two_pow_sub_one_eq_mod, IntKind.wrap_u64]
  omega
theorem ok_math_bits_Mul64 : Ok_math_bits_Mul64 w_math_bits_Mul64 := fun x y σ v σ' h => by
  obtain ⟨⟨rfl, h0, h1⟩, e⟩ := wIf_some h
  injection e with e1 e2
  subst e1; subst e2
  refine call_ok ok known0_ok (L := 0) (n := 2) ((math_bits_Mul64_eq 0 1 y σ _).trans ?_)
  have e2 : Int.fdiv y (2 ^ 32) = 0 := by
    rw [Int.fdiv_eq_ediv_of_nonneg _ (by decide)]
    exact Int.ediv_eq_zero_of_lt h0 (by omega)
  have e1 : Int.fdiv 1 (2 ^ 32) = 0 := by decide
  have e3 : IntKind.u64.wrap (BitVec.ofInt IntKind.u64.bits 1 &&& BitVec.ofInt IntKind.u64.bits 4294967295).toNat = 1 := by decide
  have e4 := mask32 h0 h1
  have e5 : IntKind.u64.wrap y = y := by rw [IntKind.wrap_u64]; omega
  have e6 : IntKind.u64.wrap 0 = 0 := by decide
  have e7 : IntKind.u64.wrap (BitVec.ofInt IntKind.u64.bits 0 &&& BitVec.ofInt IntKind.u64.bits 4294967295).toNat = 0 := by decide
  have e8 : Int.fdiv 0 (2 ^ 32) = 0 := by decide
  simp only [e1, e2, e3, e4, e5, e6, e7, e8, Int.zero_mul, Int.mul_zero, Int.one_mul, Int.add_zero]
  rfl
noncomputable def c_math_bits_Mul : C_math_bits_Mul := ⟨w_math_bits_Mul64⟩
noncomputable def w_math_bits_Mul (x y : Int) (σ : Heap) : Option ((Int × Int) × Heap) := w_math_bits_Mul64 x y σ
theorem ok_math_bits_Mul : Ok_math_bits_Mul w_math_bits_Mul := fun x y σ v σ' h => by
  refine call_ok ok (K_math_bits_Mul c_math_bits_Mul ok_math_bits_Mul64) (L := 0) (n := 2) ((math_bits_Mul_eq c_math_bits_Mul 0 x y σ _).trans ?_)
  have p : c_math_bits_Mul.math_bits_Mul64 = w_math_bits_Mul64 := rfl
  have h' : w_math_bits_Mul64 x y σ = some (v, σ') := h
  rw [p, h']
  rfl
theorem rep_all {c : api_Cell} : ∀ (n : Nat), eCell.all (List.replicate n c) = (List.replicate n c.cells).flatten
  | 0 => rfl
  | n + 1 => by
    rw [List.replicate_succ, El.all_cons, rep_all n, List.replicate_succ, List.flatten_cons]
    rfl
/-- The first k of them are c, the others z. -/
def repTo (c z : api_Cell) (k n : Nat) : List api_Cell := List.replicate k c ++ List.replicate (n - k) z
theorem repTo_len {c z : api_Cell} {k n : Nat} (h : k ≤ n) : (repTo c z k n).length = n := by simp [repTo]; omega
theorem overwrite_rep {c z : api_Cell} {k m n : Nat} (h : k + m ≤ n) : overwrite (eCell.all (repTo c z k n)) (k * 6) (eCell.all (List.replicate m c)) = eCell.all (repTo c z (k + m) n) := by
  have e : eCell.all (repTo c z k n) = eCell.all (List.replicate k c) ++ eCell.all (List.replicate m z) ++ eCell.all (List.replicate (n - k - m) z) := by
    have e1 : List.replicate (n - k) z = List.replicate m z ++ List.replicate (n - k - m) z := by rw [List.replicate_append_replicate]; congr 1; omega
    unfold repTo
    rw [e1, El.all_append, El.all_append, List.append_assoc]
  have hl : (eCell.all (List.replicate k c)).length = k * 6 := by rw [El.all_len, List.length_replicate]; rfl
  rw [e]
  have := overwrite_append (eCell.all (List.replicate m c)) (eCell.all (List.replicate k c)) (eCell.all (List.replicate m z)) (eCell.all (List.replicate (n - k - m) z)) (by rw [El.all_len, El.all_len, List.length_replicate, List.length_replicate])
  rw [hl] at this
  rw [this, ← El.all_append, ← El.all_append, List.replicate_append_replicate, show n - k - m = n - (k + m) by omega]
  rfl
theorem store_rep {σ0 σ : Heap} {out : Sl} {c z : api_Cell} {k m n : Nat} (h : Mine eCell σ0 out σ (repTo c z k n)) (hb : out.b.isNone = false) (hk : k + m ≤ n) :
    ∃ b σ', out.b = some b ∧ σ.store b (out.o + k * 6) (eCell.all (List.replicate m c)) = some σ' ∧ Mine eCell σ0 out σ' (repTo c z (k + m) n) := by
  cases hob : out.b with
  | none => rw [hob] at hb; cases hb
  | some b =>
    obtain ⟨σ', h1, h2, h3, h4⟩ := store_own h.own hob (o := k * 6) (vs := eCell.all (List.replicate m c)) (overwrite_rep hk) (by rw [repTo_len hk, repTo_len (by omega)]) (by
      rw [El.all_len, List.length_replicate, repTo_len (by omega)]
      show k * 6 + m * 6 ≤ n * 6
      omega)
    have ho : out.o = 0 := by
      cases h.own with
      | nil hb' _ _ _ => rw [hob] at hb'; cases hb'
      | row _ _ ho _ _ => exact ho
    have hl := h.pre.length_le
    have hn := h.new b hob
    exact ⟨b, σ', rfl, by rw [ho, Nat.zero_add]; exact h1, pre_of_get (by omega) (fun d hd => by rw [h4 d (by omega)]; exact get_pre h.pre hd), h2, h.new⟩
noncomputable def c_slices_Repeat : C_slices_Repeat := ⟨w_math_bits_Mul⟩
theorem slices_Repeat_loop {R : Type} {L : Nat} {out : Sl} {σ0 : Heap} {K : AVal → Heap → Option R} {c z : api_Cell} {n : Nat} (hn : n ≤ 1000000) (hb : out.b.isNone = false) :
    ∀ (d k m : Nat) (σ : Heap), k + d = n → d < m → 0 < k → Mine eCell σ0 out σ (repTo c z k n) →
      ∃ σ1, Mine eCell σ0 out σ1 (List.replicate n c) ∧ slices_Repeat_L8 c_slices_Repeat L m out (k : Int) σ K = K (.slice out.b out.o out.n 6) σ1 := by
  intro d
  induction d using Nat.strongRecOn with
  | ind d ih =>
    intro k m σ hk hm h0 hM
    cases m with
    | zero => omega
    | succ m =>
      have hon : out.n = n := by rw [hM.own.len, repTo_len (by omega)]
      rw [slices_Repeat_L8_eq, hon]
      by_cases hd : d = 0
      · refine ⟨σ, ?_, ?_⟩
        · have : repTo c z k n = List.replicate n c := by unfold repTo; rw [show n - k = 0 by omega, show k = n by omega]; simp
          rw [← this]; exact hM
        · rw [lt_false (show ¬ k < n by omega)]
          rfl
      · have hr := (hM.own.is (by rw [repTo_len (by omega)]; omega)).readn (m := min k (n - k)) (by rw [repTo_len (by omega)]; omega)
        have ht : (repTo c z k n).take (min k (n - k)) = List.replicate (min k (n - k)) c := by
          unfold repTo
          rw [List.take_append_of_le_length (by simp; omega), List.take_replicate]
          congr 1
          omega
        rw [ht] at hr
        have hr' : σ.read out.b out.o (min k (n - k)) 6 = some (eCell.all (List.replicate (min k (n - k)) c)) := hr
        obtain ⟨b, σ', g1, g2, g3⟩ := store_rep hM hb (m := min k (n - k)) (by omega)
        obtain ⟨σ1, j1, j2⟩ := ih (d - min k (n - k)) (by omega) (k + min k (n - k)) m σ' (by omega) (by omega) (by omega) g3
        refine ⟨σ1, j1, ?_⟩
        rw [lt_true (show k < n by omega)]
        simp only [cond_true, dec0, show decide ((k : Int) ≤ (n : Int)) = true by simp; omega, Int.le_refl, decide_true, Bool.and_self, Int.toNat_natCast]
        rw [hr', Option.bind_some, g1]
        simp only [g2, Option.bind_some]
        rw [show (k : Int) + ((min k (n - k) : Nat) : Int) = ((k + min k (n - k) : Nat) : Int) by simp, wrap_i64_nat _ (by omega), ← g1, ← hon]
        rw [hon]
        rw [hon] at j2
        exact j2
end Go.Abs.TA
namespace Go.Abs.TA
open Go Go.Abs Go.Proofs

def zeroC : api_Cell := ⟨0, ⟨false, false, false, 0, 0⟩⟩
noncomputable def w_slices_Repeat (x : Sl) (count : Int) (σ : Heap) : Option (Sl × Heap) := wOf (fun p : api_Cell × Nat => x.Is eCell σ [p.1] ∧ count = (p.2 : Int) ∧ p.2 ≤ 1000000) fun p => fresh eCell σ false (List.replicate p.2 p.1)
theorem w_slices_Repeat_eq {x : Sl} {σ : Heap} {c : api_Cell} {n : Nat} (h : x.Is eCell σ [c]) (hn : n ≤ 1000000) : w_slices_Repeat x (n : Int) σ = some (fresh eCell σ false (List.replicate n c)) :=
  wOf_eq (x := (c, n)) ⟨h, rfl, hn⟩ fun y hy => by
    obtain ⟨c', n'⟩ := y
    have e1 := hy.1.uniq (by decide) h
    have e2 := hy.2.1
    simp only [List.cons.injEq, and_true] at e1
    simp only at e2
    rw [e1, show n' = n by omega]
theorem ok_slices_Repeat : Ok_slices_Repeat w_slices_Repeat := fun x count σ v σ' h => by
  obtain ⟨⟨c, n⟩, ⟨hx, rfl, hn⟩, e⟩ := wOf_some h
  simp only at hx hn e
  obtain ⟨rfl, rfl⟩ : v = (fresh eCell σ false (List.replicate n c)).1 ∧ σ' = (fresh eCell σ false (List.replicate n c)).2 := by rw [e]; exact ⟨rfl, rfl⟩
  have p1 : c_slices_Repeat.math_bits_Mul = w_math_bits_Mul := rfl
  have hzr : (List.replicate n [AVal.int .i32 0, .bool false, .bool false, .bool false, .int .i64 0, .int .i64 0]).flatten = eCell.all (repTo c zeroC 0 n) := by
    unfold repTo
    rw [List.replicate_zero, List.nil_append, Nat.sub_zero, rep_all]
    rfl
  have hM0 : Mine eCell σ ⟨some σ.length, 0, n⟩ (σ ++ [.row (eCell.all (repTo c zeroC 0 n)) .rw]) (repTo c zeroC 0 n) :=
    ⟨pre_push .., .row _ rfl rfl (by rw [repTo_len (by omega)]) (get_push ..), fun d hd => by simp at hd; omega⟩
  obtain ⟨b, σ2, g1, g2, g3⟩ := store_rep hM0 rfl (m := min 1 n) (by omega)
  injection g1 with g1
  subst g1
  have hMul : w_math_bits_Mul (IntKind.u64.wrap ((1 : Nat) : Int)) (IntKind.u64.wrap (n : Int)) σ = some ((0, (n : Int)), σ) := by
    rw [show IntKind.u64.wrap ((1 : Nat) : Int) = 1 by decide, show IntKind.u64.wrap (n : Int) = (n : Int) by rw [IntKind.wrap_u64]; omega]
    exact wIf_eq ⟨rfl, by omega, by omega⟩
  have hxn : x.n = 1 := hx.n
  have hr := (hx.pre (pre_push σ (.row (eCell.all (repTo c zeroC 0 n)) .rw))).readn (m := min 1 n) (by simp; omega)
  have ht : ([c] : List api_Cell).take (min 1 n) = List.replicate (min 1 n) c := by
    rcases Nat.eq_zero_or_pos n with h0 | h0
    · subst h0; rfl
    · rw [show min 1 n = 1 by omega]; rfl
  rw [ht] at hr
  have hr' : Heap.read (σ ++ [.row (eCell.all (repTo c zeroC 0 n)) .rw]) x.b x.o (min 1 n) 6 = some (eCell.all (List.replicate (min 1 n) c)) := hr
  have g2' : Heap.store (σ ++ [.row (eCell.all (repTo c zeroC 0 n)) .rw]) σ.length 0 (eCell.all (List.replicate (min 1 n) c)) = some σ2 := g2
  have key : ∃ σ1, Mine eCell σ ⟨some σ.length, 0, n⟩ σ1 (List.replicate n c) ∧ slices_Repeat_L8 (R := AVal × Heap) c_slices_Repeat (n + 1) (n + 1) ⟨some σ.length, 0, n⟩ ((min 1 n : Nat) : Int) σ2 (fun v σ => some (v, σ)) = some (.slice (some σ.length) 0 n 6, σ1) := by
    rcases Nat.eq_zero_or_pos n with h0 | h0
    · subst h0
      refine ⟨σ2, g3, ?_⟩
      rw [slices_Repeat_L8_eq]
      rfl
    · exact slices_Repeat_loop (R := AVal × Heap) (L := n + 1) (K := fun v σ => some (v, σ)) hn rfl (n - min 1 n) (min 1 n) (n + 1) σ2 (by omega) (by omega) (by omega) (by rw [Nat.zero_add] at g3; exact g3)
  obtain ⟨σ1, k1, k2⟩ := key
  refine call_mine (out := ⟨some σ.length, 0, n⟩) (call_ok ok (K_slices_Repeat c_slices_Repeat ok_math_bits_Mul) (L := n + 1) (n := 2) (σ' := σ1) ((slices_Repeat_eq c_slices_Repeat (n + 1) x (n : Int) σ _).trans ?_)) k1 rfl
  rw [show decide ((n : Int) < 0) = false by simp, cond_false, p1, hxn, hMul, Option.bind_some]
  rw [show decide ((0 : Int) > 0) = false by decide, cond_false]
  simp only
  rw [show decide ((n : Int) > 9223372036854775807) = false by rw [decide_eq_false_iff_not]; omega, cond_false, wrap_i64_nat n (by omega)]
  simp only [dec0, Int.le_refl, decide_true, Bool.and_self, show decide (32 * (n : Int) ≤ 70368744177664) = true by rw [decide_eq_true_iff]; omega, show decide ((n : Int) ≤ 70368744177664) = true by rw [decide_eq_true_iff]; omega, cond_true, Int.toNat_natCast, alloc, hzr]
  rw [hr', Option.bind_some, g2', Option.bind_some]
  exact k2

def blankC (s : api_Style) : api_Cell := ⟨32, ⟨false, false, false, 0, s.Back⟩⟩
noncomputable def c_grid_blank : C_grid_blank := { cell_Blank := w_cell_Blank, slices_Repeat := w_slices_Repeat }
noncomputable def w_grid_blank (w : Int) (s : api_Style) (σ : Heap) : Option (Sl × Heap) := wOf (fun n : Nat => w = (n : Int) ∧ n ≤ 1000000) fun n => fresh eCell σ false (List.replicate n (blankC s))
theorem w_grid_blank_eq {s : api_Style} {σ : Heap} {n : Nat} (hn : n ≤ 1000000) : w_grid_blank (n : Int) s σ = some (fresh eCell σ false (List.replicate n (blankC s))) :=
  wOf_eq ⟨rfl, hn⟩ fun y hy => by rw [show y = n by have := hy.1; omega]
theorem ok_grid_blank : Ok_grid_blank w_grid_blank := fun w s σ v σ' h => by
  obtain ⟨n, ⟨rfl, hn⟩, e⟩ := wOf_some h
  obtain ⟨rfl, rfl⟩ : v = (fresh eCell σ false (List.replicate n (blankC s))).1 ∧ σ' = (fresh eCell σ false (List.replicate n (blankC s))).2 := by rw [e]; exact ⟨rfl, rfl⟩
  have p1 : c_grid_blank.cell_Blank = w_cell_Blank := rfl
  have p2 : c_grid_blank.slices_Repeat = w_slices_Repeat := rfl
  have hp : σ <+: σ ++ [.row (blankC s).cells .rw] := pre_push ..
  have hR : w_slices_Repeat ⟨some σ.length, 0, 1⟩ (n : Int) (σ ++ [.row (blankC s).cells .rw]) = some (fresh eCell (σ ++ [.row (blankC s).cells .rw]) false (List.replicate n (blankC s))) :=
    w_slices_Repeat_eq (Sl.Is.new (E := eCell) (xs := [blankC s]) (by simp)) hn
  have ho := fresh_own eCell (σ ++ [.row (blankC s).cells .rw]) false (List.replicate n (blankC s)) (fun h => by cases h)
  have hpre := fresh_pre eCell (σ ++ [.row (blankC s).cells .rw]) false (List.replicate n (blankC s))
  have hnew := fresh_new eCell (σ ++ [.row (blankC s).cells .rw]) false (List.replicate n (blankC s))
  have hnone := fresh_isNone eCell (σ ++ [.row (blankC s).cells .rw]) false (List.replicate n (blankC s))
  generalize fresh eCell (σ ++ [.row (blankC s).cells .rw]) false (List.replicate n (blankC s)) = q at hR ho hpre hnew hnone
  refine call_mine (out := q.1) (call_ok ok (K_grid_blank c_grid_blank ok_cell_Blank ok_slices_Repeat) (L := 0) (n := 2) (σ' := q.2) ((grid_blank_eq c_grid_blank 0 (n : Int) s σ _).trans ?_)) ⟨hp.trans hpre, ho, fun c hc => by have := hnew c hc; simp at this; omega⟩ hnone.symm
  simp only [p1, p2, w_cell_Blank, Option.bind_some, alloc]
  have hR' : w_slices_Repeat ⟨some σ.length, 0, 1⟩ (n : Int) (σ ++ [.row [.int .i32 32, .bool false, .bool false, .bool false, .int .i64 0, .int .i64 s.Back] .rw]) = some q := hR
  rw [hR', Option.bind_some]

/-! ### Fit -/
def fitL (xs : List api_Cell) (w : Nat) : List api_Cell := if w ≤ xs.length then mend (xs.take w) else xs ++ List.replicate (w - xs.length) (blankC ⟨false, false, false, 0, 0⟩)
noncomputable def c_grid_Fit : C_grid_Fit := { cell_Mend := w_cell_Mend, slices_Clone := w_slices_Clone, grid_blank := w_grid_blank }
noncomputable def w_grid_Fit (l : Sl) (w : Int) (σ : Heap) : Option (Sl × Heap) :=
  wOf (fun xs => l.Is eCell σ xs ∧ WideOK σ ∧ xs.length ≤ 100000 ∧ w ≤ 100000) fun xs => fresh eCell σ (decide (w.toNat ≤ xs.length) && l.b.isNone) (fitL xs w.toNat)
theorem w_grid_Fit_eq {l : Sl} {w : Int} {σ : Heap} {xs : List api_Cell} (h : l.Is eCell σ xs) (hw : WideOK σ) (hx : xs.length ≤ 100000) (hl : w ≤ 100000) : w_grid_Fit l w σ = some (fresh eCell σ (decide (w.toNat ≤ xs.length) && l.b.isNone) (fitL xs w.toNat)) :=
  wOf_eq ⟨h, hw, hx, hl⟩ fun y hy => by rw [hy.1.uniq (by decide) h]
theorem ok_grid_Fit : Ok_grid_Fit w_grid_Fit := fun l w σ v σ' h => by
  obtain ⟨xs, ⟨hl, hw, hx, hw1⟩, e⟩ := wOf_some h
  obtain ⟨rfl, rfl⟩ : v = (fresh eCell σ (decide (w.toNat ≤ xs.length) && l.b.isNone) (fitL xs w.toNat)).1 ∧ σ' = (fresh eCell σ (decide (w.toNat ≤ xs.length) && l.b.isNone) (fitL xs w.toNat)).2 := by rw [e]; exact ⟨rfl, rfl⟩
  have p1 : c_grid_Fit.cell_Mend = w_cell_Mend := rfl
  have p2 : c_grid_Fit.slices_Clone = w_slices_Clone := rfl
  have p3 : c_grid_Fit.grid_blank = w_grid_blank := rfl
  have hW : (if (0 : Int) > w then 0 else w) = (w.toNat : Int) := by split <;> omega
  have hK := K_grid_Fit c_grid_Fit ok_cell_Mend ok_slices_Clone ok_grid_blank
  have heq := grid_Fit_eq (R := AVal × Heap) c_grid_Fit 0 l w σ (fun v σ => some (v, σ))
  rw [hW, hl.n] at heq
  generalize hwn : w.toNat = W at *
  by_cases hle : W ≤ xs.length
  · have hM := w_cell_Mend_eq (hl.take (k := W) hle) (by simp; omega) hw
    rw [show decide ((xs.length : Int) ≥ (W : Int)) = true by simp; omega, cond_true] at heq
    simp only [dec0, Bool.and_self, cond_true, Int.toNat_natCast, p1, hM, Option.bind_some] at heq
    rw [decide_eq_true hle, Bool.true_and, show fitL xs W = mend (xs.take W) by unfold fitL; rw [if_pos hle]]
    have : callC (R := AVal × Heap) T (O_grid_Fit c_grid_Fit) 0 2 44 [(tSl 6).av l, (tInt .i64).av w] σ (fun v σ => some (v, σ)) = some ((tSl 6).av (fresh eCell σ l.b.isNone (mend (xs.take W))).1, (fresh eCell σ l.b.isNone (mend (xs.take W))).2) := by
      have hn := hl.n
      show callC _ _ _ _ _ [.slice l.b l.o l.n 6, .int .i64 w] _ _ = _
      rw [hn]
      exact heq
    exact call_ok ok hK this
  · rw [show decide ((xs.length : Int) ≥ (W : Int)) = false by simp; omega, cond_false] at heq
    rw [decide_eq_false hle, Bool.false_and, show fitL xs W = xs ++ List.replicate (W - xs.length) (blankC ⟨false, false, false, 0, 0⟩) by unfold fitL; rw [if_neg hle]]
    have hC := w_slices_Clone_eq hl (by omega)
    rw [p2, hC, Option.bind_some] at heq
    have hn0 : l.b.isNone = true → xs = [] := Is_nil_of hl
    have M0 : Mine eCell σ (fresh eCell σ l.b.isNone xs).1 (fresh eCell σ l.b.isNone xs).2 xs := ⟨fresh_pre .., fresh_own _ _ _ _ hn0, fresh_new eCell σ l.b.isNone xs⟩
    generalize fresh eCell σ l.b.isNone xs = q4 at M0 heq
    rw [show (W : Int) - (xs.length : Int) = ((W - xs.length : Nat) : Int) by omega, wrap_i64_nat _ (by omega), p3, w_grid_blank_eq (by omega), Option.bind_some] at heq
    have B := fresh_own eCell q4.2 false (List.replicate (W - xs.length) (blankC ⟨false, false, false, 0, 0⟩)) (fun h => by cases h)
    have BP := fresh_pre eCell q4.2 false (List.replicate (W - xs.length) (blankC ⟨false, false, false, 0, 0⟩))
    generalize fresh eCell q4.2 false (List.replicate (W - xs.length) (blankC ⟨false, false, false, 0, 0⟩)) = q5 at B BP heq
    have hr := (B.is (by simp; omega)).read
    have hbn : q5.1.n = W - xs.length := by rw [B.len, List.length_replicate]
    have hr' : q5.2.read q5.1.b q5.1.o q5.1.n 6 = some (eCell.all (List.replicate (W - xs.length) (blankC ⟨false, false, false, 0, 0⟩))) := hr
    obtain ⟨q, σ2, ha, hM⟩ := (M0.step BP).append (zs := List.replicate (W - xs.length) (blankC ⟨false, false, false, 0, 0⟩)) (bytes := 32) (k := q5.1.n) rfl (by rw [hbn, List.length_replicate]) (by simp; omega) (by simp; omega)
    have ha' : q5.2.append q4.1.b q4.1.o q4.1.n 6 32 (eCell.all (List.replicate (W - xs.length) (blankC ⟨false, false, false, 0, 0⟩))) q5.1.n = some (q, σ2) := ha
    rw [hr', Option.bind_some, ha', Option.bind_some] at heq
    have : callC (R := AVal × Heap) T (O_grid_Fit c_grid_Fit) 0 2 44 [(tSl 6).av l, (tInt .i64).av w] σ (fun v σ => some (v, σ)) = some (.slice q.1 q.2.1 q.2.2 6, σ2) := by
      have hn := hl.n
      show callC _ _ _ _ _ [.slice l.b l.o l.n 6, .int .i64 w] _ _ = _
      rw [hn]
      exact heq
    exact call_mine (out := ⟨q.1, q.2.1, q.2.2⟩) (call_ok ok hK this) hM (Own.some_of_ne hM.own (by
      intro e
      have := congrArg List.length e
      simp at this
      omega)).symm
end Go.Abs.TA
