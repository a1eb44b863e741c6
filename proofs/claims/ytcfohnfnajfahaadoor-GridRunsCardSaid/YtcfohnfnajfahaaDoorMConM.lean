/-
The grid laws' model: what it reads, and how it changes a line.
Contract of the model's line.
The model's deeds: lines that go up, down; another size.
Contract of the model's do.
The model and the grid are the same.
-/
import Derived.Test.YtcfohnfnajfahaaDoorMConH
import Derived.Test.YtcfohnfnajfahaaDoorEqK
import Derived.Test.YtcfohnfnajfahaaDoorEqA5
import Derived.Test.YtcfohnfnajfahaaDoorEqJ
import Derived.Test.YtcfohnfnajfahaaDoorLawGL
namespace Go.Abs.TA
open Go Go.Abs Go.Proofs

/-! read -/
def rdC (ls : List (List api_Cell)) (x y : Int) (s : api_Style) : api_Cell :=
  if 0 ≤ y ∧ 0 ≤ x then (match ls[y.toNat]? with
    | some l => (match l[x.toNat]? with
      | some c => c
      | none => blankC s)
    | none => blankC s) else blankC s
noncomputable def w_law09_lines_read (m : Sl) (x y : Int) (s : api_Style) (σ : Heap) : Option (api_Cell × Heap) := wOf (fun ls => LsIs σ m ls) fun ls => (rdC ls x y s, σ)
theorem w_law09_lines_read_eq {m : Sl} {x y : Int} {s : api_Style} {σ : Heap} {ls : List (List api_Cell)} (h : LsIs σ m ls) : w_law09_lines_read m x y s σ = some (rdC ls x y s, σ) :=
  wOf_eq h fun t ht => by rw [ht.uniq h]
theorem ok_law09_lines_read : Ok_law09_lines_read w_law09_lines_read := fun m x y s σ v σ' h => by
  obtain ⟨ls, hls, e⟩ := wOf_some h
  injection e with e1 e2
  subst e1; subst e2
  refine call_ok ok known0_ok (L := 0) (n := 2) ((law09_lines_read_eq 0 m x y s σ _).trans ?_)
  show _ = some (t_api_Cell.av (rdC ls x y s), σ)
  have hn := hls.n
  unfold rdC
  by_cases h1 : 0 ≤ y
  · obtain ⟨j, rfl⟩ := Int.eq_ofNat_of_zero_le h1
    rw [show decide ((j : Int) ≥ 0) = true by simp, cond_true]
    by_cases h2 : j < ls.length
    · rw [lt_true (show j < m.n by omega), cond_true]
      have hj := List.getElem?_eq_getElem h2
      by_cases h3 : 0 ≤ x
      · obtain ⟨i, rfl⟩ := Int.eq_ofNat_of_zero_le h3
        obtain ⟨b, f, k1, k2, k3, k4⟩ := hls.at_ hj
        rw [show decide ((i : Int) ≥ 0) = true by simp, cond_true, if_pos ⟨h1, h3⟩]
        simp only [Bool.and_self, cond_true, k1, Option.bind_some, Int.toNat_natCast, k2, hj, k3.n]
        by_cases h4 : i < ls[j].length
        · have hi := List.getElem?_eq_getElem h4
          obtain ⟨b', hb', f0, f1, f2, f3, f4, f5⟩ := cell_at k3 hi
          rw [lt_true h4, cond_true]
          simp only [Bool.and_self, cond_true, hb', Option.bind_some, f0, f1, f2, f3, f4, f5, int?, bool?, if_true, hi]
          rfl
        · rw [lt_false h4, cond_false]
          simp only [List.getElem?_eq_none (show ls[j].length ≤ i by omega)]
          rfl
      · rw [if_neg (by omega), show decide (x ≥ 0) = false by simp; omega, cond_false]
        rfl
    · rw [lt_false (show ¬ j < m.n by omega), cond_false]
      simp only [Int.toNat_natCast, List.getElem?_eq_none (show ls.length ≤ j by omega)]
      split <;> rfl
  · rw [if_neg (by omega), show decide (y ≥ 0) = false by simp; omega, cond_false]
    rfl

/-! line -/
def atC (l : List api_Cell) (x : Nat) : api_Cell := l.getD x (blankC ⟨false, false, false, 0, 0⟩)
def pc0 (dd : law09_Deed) (l : List api_Cell) (x : Nat) : api_Cell := if (x : Int) = dd.A then dd.Cell else if (x : Int) - 1 = dd.A ∧ wide dd.Cell.Rune = true then ⟨0, dd.Cell.Style⟩ else atC l x
def pc1 (dd : law09_Deed) (s : api_Style) (l : List api_Cell) (x : Nat) : api_Cell := if dd.B ≤ (x : Int) ∧ (x : Int) < dd.C then blankC s else atC l x
def pc4 (dd : law09_Deed) (s : api_Style) (n : Nat) (l : List api_Cell) (x : Nat) : api_Cell := if dd.A ≤ (x : Int) then (if dd.A ≤ (x : Int) - n then atC l (x - n) else blankC s) else atC l x
def pc5 (dd : law09_Deed) (s : api_Style) (n : Nat) (l : List api_Cell) (x : Nat) : api_Cell := if dd.A ≤ (x : Int) then (match l[x + n]? with | some c => c | none => blankC s) else atC l x
def mapN (w : Nat) (f : Nat → api_Cell) : List api_Cell := (List.range w).map f
theorem mapN_len (w : Nat) (f : Nat → api_Cell) : (mapN w f).length = w := by simp [mapN]
theorem mapN_succ (w : Nat) (f : Nat → api_Cell) : mapN (w + 1) f = mapN w f ++ [f w] := by simp [mapN, List.range_succ]
theorem mapN_get {w : Nat} {f : Nat → api_Cell} {j : Nat} (h : j < w) : (mapN w f)[j]? = some (f j) := by simp [mapN, h]
noncomputable def c_law09_lines_line : C_law09_lines_line := { ref08_Mend := w_ref08_Mend, ref07_Wide := w_ref07_Wide, law09_within := w_law09_within, law09_tame := w_law09_tame, law09_Deed_kind := w_law09_Deed_kind, law09_lines_read := w_law09_lines_read }
/-- The callee 'kind' answers k. -/
def tK (k : Int) (dd : law09_Deed) : Option Unit := if kindI dd = k then some () else none
theorem tK_eq {k : Int} {dd : law09_Deed} (h : kindI dd = k) : tK k dd = some () := if_pos h
theorem tK_ok (k : Int) : ∀ (y : law09_Deed) σ, tK k y = some () → CallOK Tryd.prog T 71 [t_law09_Deed.av y] σ (.int .i64 k) σ := fun y σ h => by
  unfold tK at h
  split at h
  · rename_i e
    rw [← e]
    exact ok_law09_Deed_kind y σ (kindI y) σ rfl
  · cases h
section
variable {m out : Sl} {dd : law09_Deed} {s : api_Style} {σ0 σ : Heap} {ls : List (List api_Cell)} {l : List api_Cell} {y w n : Nat} {x5 : Option Nat × Nat × Nat}
/-- What a cell of the line is, read again. -/
theorem line_at (hm : LsIs σ0 m ls) (hy : ls[y]? = some l) (hp : σ0 <+: σ) {i : Nat} {c : api_Cell} (hi : l[i]? = some c) :
    ∃ (b : Nat) (f : Sl) (b' : Nat), m.b = some b ∧ slice? (σ.cell? b (m.o + y * 1)) 6 = some (f.b, f.o, f.n) ∧ y < m.n ∧ f.n = l.length ∧ i < f.n ∧ f.b = some b' ∧
    σ.cell? b' (f.o + i * 6) = some (.int .i32 c.Rune) ∧ σ.cell? b' (f.o + i * 6 + 1) = some (.bool c.Style.Bold) ∧ σ.cell? b' (f.o + i * 6 + 2) = some (.bool c.Style.Under) ∧
    σ.cell? b' (f.o + i * 6 + 3) = some (.bool c.Style.Turned) ∧ σ.cell? b' (f.o + i * 6 + 4) = some (.int .i64 c.Style.Fore) ∧ σ.cell? b' (f.o + i * 6 + 5) = some (.int .i64 c.Style.Back) := by
  obtain ⟨b, f, k1, k2, k3, k4⟩ := (hm.pre hp).at_ hy
  obtain ⟨b', hb', f0, f1, f2, f3, f4, f5⟩ := cell_at k3 hi
  have := (List.getElem?_eq_some_iff.1 hi).1
  exact ⟨b, f, b', k1, k2, k4, k3.n, by have := k3.n; omega, hb', f0, f1, f2, f3, f4, f5⟩
/-- The loop's end. -/
theorem line_end {g : Nat → api_Cell} (ho : Mine eCell σ0 out σ (mapN w g)) (hw : w ≤ 100) :
    ∃ σ1 v, Mine eCell σ0 v σ1 (mend (mapN w g)) ∧ (w_ref08_Mend out σ).bind (fun q23 => some (AVal.slice q23.1.b q23.1.o q23.1.n 6, q23.2)) = some (.slice v.b v.o v.n 6, σ1) := by
  have hl := mapN_len w g
  rw [w_ref08_Mend_eq (ho.own.is (by omega)) (by omega), Option.bind_some]
  refine ⟨_, (fresh eCell σ (decide (mapN w g = [])) (mend (mapN w g))).1, ⟨ho.pre.trans (fresh_pre ..), fresh_own eCell σ _ _ (fun h => ?_), fun c hc => ?_⟩, rfl⟩
  · simp at h
    rw [h]; rfl
  · have := ho.pre.length_le
    unfold fresh at hc
    cases hd : decide (mapN w g = []) <;> rw [hd] at hc
    · simp at hc; omega
    · simp at hc
theorem line_step {g : Nat → api_Cell} {i : Nat} (ho : Mine eCell σ0 out σ (mapN i g)) (hi : i < 100) {c : api_Cell} (hg : g i = c) :
    ∃ q σ', σ.append out.b out.o out.n 6 32 [.int .i32 c.Rune, .bool c.Style.Bold, .bool c.Style.Under, .bool c.Style.Turned, .int .i64 c.Style.Fore, .int .i64 c.Style.Back] 1 = some (q, σ') ∧ Mine eCell σ0 ⟨q.1, q.2.1, q.2.2⟩ σ' (mapN (i + 1) g) := by
  obtain ⟨q, σ', ha, hM⟩ := ho.append (zs := [c]) (bytes := 32) (vs := c.cells) (k := 1) rfl rfl (by rw [mapN_len]; simp; omega) (by rw [mapN_len]; simp; omega)
  refine ⟨q, σ', ha, ?_⟩
  rw [mapN_succ, hg]
  exact hM
theorem atC_of {i : Nat} {c : api_Cell} (h : l[i]? = some c) : atC l i = c := by
  unfold atC
  rw [List.getD_eq_getElem?_getD, h]
  rfl
theorem line0_loop {L : Nat} {n : Int} (hm : LsIs σ0 m ls) (hy : ls[y]? = some l) (hl : l.length = w) (hw : w ≤ 60) (hx : x5.2.2 = w) (hk : kindI dd = 0) :
    ∀ (d i fu : Nat) (out : Sl) (σ : Heap), i + d = w → d < fu → Mine eCell σ0 out σ (mapN i (pc0 dd l)) →
      ∃ σ1 v, Mine eCell σ0 v σ1 (mend (mapN w (pc0 dd l))) ∧ law09_lines_line_k0_L5 (R := AVal × Heap) c_law09_lines_line (tK 0) L fu m (y : Int) n out x5 (i : Int) dd s σ (fun v σ => some (v, σ)) = some (.slice v.b v.o v.n 6, σ1)
  | d, i, 0, _, _, _, h, _ => by omega
  | 0, i, fu + 1, out, σ, h, _, ho => by
    obtain rfl : i = w := by omega
    obtain ⟨σ1, v, h1, h2⟩ := line_end ho (by omega)
    refine ⟨σ1, v, h1, ?_⟩
    rw [law09_lines_line_k0_L5_eq, hx, lt_false (by omega), cond_false]
    exact h2
  | d + 1, i, fu + 1, out, σ, h, hf, ho => by
    have hi : i < l.length := by omega
    have hc := List.getElem?_eq_getElem hi
    obtain ⟨b, f, b', k1, k2, k3, k4, k5, k6, f0, f1, f2, f3, f4, f5⟩ := line_at hm hy ho.pre hc
    have p1 : c_law09_lines_line.ref07_Wide = w_ref07_Wide := rfl
    have go : ∀ c, pc0 dd l i = c → ∃ q σ', σ.append out.b out.o out.n 6 32 [.int .i32 c.Rune, .bool c.Style.Bold, .bool c.Style.Under, .bool c.Style.Turned, .int .i64 c.Style.Fore, .int .i64 c.Style.Back] 1 = some (q, σ') ∧
        ∃ σ1 v, Mine eCell σ0 v σ1 (mend (mapN w (pc0 dd l))) ∧ law09_lines_line_k0_L5 (R := AVal × Heap) c_law09_lines_line (tK 0) L fu m (y : Int) n ⟨q.1, q.2.1, q.2.2⟩ x5 (IntKind.i64.wrap ((i : Int) + 1)) dd s σ' (fun v σ => some (v, σ)) = some (.slice v.b v.o v.n 6, σ1) := fun c hg => by
      obtain ⟨q, σ', h1, h2⟩ := line_step ho (by omega) hg
      refine ⟨q, σ', h1, ?_⟩
      rw [wrap_i64_succ i (by omega)]
      exact line0_loop hm hy hl hw hx hk d (i + 1) fu _ _ (by omega) (by omega) h2
    rw [law09_lines_line_k0_L5_eq, hx, lt_true (show i < w by omega), cond_true, lt_true k3, dec0, Bool.and_self, cond_true, k1, Option.bind_some, Int.toNat_natCast, k2, Option.bind_some]
    simp only [lt_true k5, dec0, Bool.and_self, cond_true, k6, Option.bind_some, Int.toNat_natCast, f0, f1, f2, f3, f4, f5, int?, bool?, if_true, tK_eq hk, p1, w_ref07_Wide]
    rw [wrap_i64_of (show -9223372036854775808 ≤ (i : Int) - 1 by omega) (by omega)]
    by_cases c1 : (i : Int) = dd.A
    · obtain ⟨q, σ', h1, σ1, v, h2, h3⟩ := go dd.Cell (by rw [pc0, if_pos c1])
      refine ⟨σ1, v, h2, ?_⟩
      rw [show ((i : Int) == dd.A) = true by simp [c1], cond_true, h1, Option.bind_some]
      exact h3
    · rw [show ((i : Int) == dd.A) = false by simp [c1], cond_false]
      by_cases c2 : (i : Int) - 1 = dd.A
      · rw [show (((i : Int) - 1) == dd.A) = true by simp [c2], cond_true]
        cases c3 : wide dd.Cell.Rune with
        | true =>
          obtain ⟨q, σ', h1, σ1, v, h2, h3⟩ := go ⟨0, dd.Cell.Style⟩ (by rw [pc0, if_neg c1, if_pos ⟨c2, c3⟩])
          refine ⟨σ1, v, h2, ?_⟩
          rw [cond_true, h1, Option.bind_some]
          exact h3
        | false =>
          obtain ⟨q, σ', h1, σ1, v, h2, h3⟩ := go l[i] (by rw [pc0, if_neg c1, if_neg (by rw [c3]; simp), atC_of hc])
          refine ⟨σ1, v, h2, ?_⟩
          rw [cond_false, h1, Option.bind_some]
          exact h3
      · obtain ⟨q, σ', h1, σ1, v, h2, h3⟩ := go l[i] (by rw [pc0, if_neg c1, if_neg (fun e => c2 e.1), atC_of hc])
        refine ⟨σ1, v, h2, ?_⟩
        rw [show (((i : Int) - 1) == dd.A) = false by simp [c2], cond_false, h1, Option.bind_some]
        exact h3
theorem line1_loop {L : Nat} {n : Int} (hm : LsIs σ0 m ls) (hy : ls[y]? = some l) (hl : l.length = w) (hw : w ≤ 60) (hx : x5.2.2 = w) (hk : kindI dd = 1) :
    ∀ (d i fu : Nat) (out : Sl) (σ : Heap), i + d = w → d < fu → Mine eCell σ0 out σ (mapN i (pc1 dd s l)) →
      ∃ σ1 v, Mine eCell σ0 v σ1 (mend (mapN w (pc1 dd s l))) ∧ law09_lines_line_k1_L5 (R := AVal × Heap) c_law09_lines_line (tK 1) L fu m (y : Int) n out x5 (i : Int) dd s σ (fun v σ => some (v, σ)) = some (.slice v.b v.o v.n 6, σ1)
  | d, i, 0, _, _, _, h, _ => by omega
  | 0, i, fu + 1, out, σ, h, _, ho => by
    obtain rfl : i = w := by omega
    obtain ⟨σ1, v, h1, h2⟩ := line_end ho (by omega)
    refine ⟨σ1, v, h1, ?_⟩
    rw [law09_lines_line_k1_L5_eq, hx, lt_false (by omega), cond_false]
    exact h2
  | d + 1, i, fu + 1, out, σ, h, hf, ho => by
    have hi : i < l.length := by omega
    have hc := List.getElem?_eq_getElem hi
    obtain ⟨b, f, b', k1, k2, k3, k4, k5, k6, f0, f1, f2, f3, f4, f5⟩ := line_at hm hy ho.pre hc
    have p1 : c_law09_lines_line.law09_lines_read = w_law09_lines_read := rfl
    have go : ∀ c, pc1 dd s l i = c → ∃ q σ', σ.append out.b out.o out.n 6 32 [.int .i32 c.Rune, .bool c.Style.Bold, .bool c.Style.Under, .bool c.Style.Turned, .int .i64 c.Style.Fore, .int .i64 c.Style.Back] 1 = some (q, σ') ∧
        ∃ σ1 v, Mine eCell σ0 v σ1 (mend (mapN w (pc1 dd s l))) ∧ law09_lines_line_k1_L5 (R := AVal × Heap) c_law09_lines_line (tK 1) L fu m (y : Int) n ⟨q.1, q.2.1, q.2.2⟩ x5 (IntKind.i64.wrap ((i : Int) + 1)) dd s σ' (fun v σ => some (v, σ)) = some (.slice v.b v.o v.n 6, σ1) := fun c hg => by
      obtain ⟨q, σ', h1, h2⟩ := line_step ho (by omega) hg
      refine ⟨q, σ', h1, ?_⟩
      rw [wrap_i64_succ i (by omega)]
      exact line1_loop hm hy hl hw hx hk d (i + 1) fu _ _ (by omega) (by omega) h2
    rw [law09_lines_line_k1_L5_eq, hx, lt_true (show i < w by omega), cond_true, lt_true k3, dec0, Bool.and_self, cond_true, k1, Option.bind_some, Int.toNat_natCast, k2, Option.bind_some]
    simp only [lt_true k5, dec0, Bool.and_self, cond_true, k6, Option.bind_some, Int.toNat_natCast, f0, f1, f2, f3, f4, f5, int?, bool?, if_true, tK_eq hk, p1, w_law09_lines_read_eq (hm.pre ho.pre)]
    have hr : rdC ls (-1) 0 s = blankC s := rfl
    by_cases c1 : dd.B ≤ (i : Int)
    · rw [show decide ((i : Int) ≥ dd.B) = true by simp; omega, cond_true]
      by_cases c2 : (i : Int) < dd.C
      · obtain ⟨q, σ', h1, σ1, v, h2, h3⟩ := go (blankC s) (by rw [pc1, if_pos ⟨c1, c2⟩])
        refine ⟨σ1, v, h2, ?_⟩
        rw [show decide ((i : Int) < dd.C) = true by simp [c2], cond_true, hr, h1, Option.bind_some]
        exact h3
      · obtain ⟨q, σ', h1, σ1, v, h2, h3⟩ := go l[i] (by rw [pc1, if_neg (fun e => c2 e.2), atC_of hc])
        refine ⟨σ1, v, h2, ?_⟩
        rw [show decide ((i : Int) < dd.C) = false by simp; omega, cond_false, h1, Option.bind_some]
        exact h3
    · obtain ⟨q, σ', h1, σ1, v, h2, h3⟩ := go l[i] (by rw [pc1, if_neg (fun e => c1 e.1), atC_of hc])
      refine ⟨σ1, v, h2, ?_⟩
      rw [show decide ((i : Int) ≥ dd.B) = false by simp; omega, cond_false, h1, Option.bind_some]
      exact h3
theorem line4_loop {L : Nat} (hm : LsIs σ0 m ls) (hy : ls[y]? = some l) (hl : l.length = w) (hw : w ≤ 60) (hx : x5.2.2 = w) (hn : n ≤ 60) (hA : 0 ≤ dd.A) (hk : kindI dd = 4) :
    ∀ (d i fu : Nat) (out : Sl) (σ : Heap), i + d = w → d < fu → Mine eCell σ0 out σ (mapN i (pc4 dd s n l)) →
      ∃ σ1 v, Mine eCell σ0 v σ1 (mend (mapN w (pc4 dd s n l))) ∧ law09_lines_line_k4_L5 (R := AVal × Heap) c_law09_lines_line (tK 4) L fu m (y : Int) (n : Int) out x5 (i : Int) dd s σ (fun v σ => some (v, σ)) = some (.slice v.b v.o v.n 6, σ1)
  | d, i, 0, _, _, _, h, _ => by omega
  | 0, i, fu + 1, out, σ, h, _, ho => by
    obtain rfl : i = w := by omega
    obtain ⟨σ1, v, h1, h2⟩ := line_end ho (by omega)
    refine ⟨σ1, v, h1, ?_⟩
    rw [law09_lines_line_k4_L5_eq, hx, lt_false (by omega), cond_false]
    exact h2
  | d + 1, i, fu + 1, out, σ, h, hf, ho => by
    have hi : i < l.length := by omega
    have hc := List.getElem?_eq_getElem hi
    obtain ⟨b, f, b', k1, k2, k3, k4, k5, k6, f0, f1, f2, f3, f4, f5⟩ := line_at hm hy ho.pre hc
    have p1 : c_law09_lines_line.law09_lines_read = w_law09_lines_read := rfl
    have go : ∀ c, pc4 dd s n l i = c → ∃ q σ', σ.append out.b out.o out.n 6 32 [.int .i32 c.Rune, .bool c.Style.Bold, .bool c.Style.Under, .bool c.Style.Turned, .int .i64 c.Style.Fore, .int .i64 c.Style.Back] 1 = some (q, σ') ∧
        ∃ σ1 v, Mine eCell σ0 v σ1 (mend (mapN w (pc4 dd s n l))) ∧ law09_lines_line_k4_L5 (R := AVal × Heap) c_law09_lines_line (tK 4) L fu m (y : Int) (n : Int) ⟨q.1, q.2.1, q.2.2⟩ x5 (IntKind.i64.wrap ((i : Int) + 1)) dd s σ' (fun v σ => some (v, σ)) = some (.slice v.b v.o v.n 6, σ1) := fun c hg => by
      obtain ⟨q, σ', h1, h2⟩ := line_step ho (by omega) hg
      refine ⟨q, σ', h1, ?_⟩
      rw [wrap_i64_succ i (by omega)]
      exact line4_loop hm hy hl hw hx hn hA hk d (i + 1) fu _ _ (by omega) (by omega) h2
    rw [law09_lines_line_k4_L5_eq, hx, lt_true (show i < w by omega), cond_true, lt_true k3, dec0, Bool.and_self, cond_true, k1, Option.bind_some, Int.toNat_natCast, k2, Option.bind_some]
    simp only [lt_true k5, dec0, Bool.and_self, cond_true, k6, Option.bind_some, Int.toNat_natCast, f0, f1, f2, f3, f4, f5, int?, bool?, if_true, tK_eq hk, p1, w_law09_lines_read_eq (hm.pre ho.pre)]
    have hr : rdC ls (-1) 0 s = blankC s := rfl
    rw [wrap_i64_of (show -9223372036854775808 ≤ (i : Int) - (n : Int) by omega) (by omega)]
    by_cases c1 : dd.A ≤ (i : Int)
    · rw [show decide ((i : Int) ≥ dd.A) = true by simp; omega, cond_true]
      by_cases c2 : dd.A ≤ (i : Int) - n
      · rw [show decide ((i : Int) - n ≥ dd.A) = true by simp; omega, cond_true]
        have hj : i - n < l.length := by omega
        have hcj := List.getElem?_eq_getElem hj
        obtain ⟨q, σ', h1, σ1, v, h2, h3⟩ := go l[i - n] (by rw [pc4, if_pos c1, if_pos c2, atC_of hcj])
        refine ⟨σ1, v, h2, ?_⟩
        obtain ⟨b2, g, b2', j1, j2, j3, j4, j5, j6, e0, e1, e2, e3, e4, e5⟩ := line_at hm hy ho.pre hcj
        rw [j1] at k1
        injection k1 with k1
        subst k1
        rw [j2] at k2
        injection k2 with k2
        injection k2 with k2 k2'
        injection k2' with k2' k2''
        rw [show (i : Int) - (n : Int) = ((i - n : Nat) : Int) by omega]
        simp only [j2, Option.bind_some, lt_true j5, dec0, Bool.and_self, cond_true, j6, Int.toNat_natCast, e0, e1, e2, e3, e4, e5, if_true]
        rw [h1, Option.bind_some]
        exact h3
      · obtain ⟨q, σ', h1, σ1, v, h2, h3⟩ := go (blankC s) (by rw [pc4, if_pos c1, if_neg c2])
        refine ⟨σ1, v, h2, ?_⟩
        rw [show decide ((i : Int) - n ≥ dd.A) = false by simp; omega, cond_false, hr, h1, Option.bind_some]
        exact h3
    · obtain ⟨q, σ', h1, σ1, v, h2, h3⟩ := go l[i] (by rw [pc4, if_neg c1, atC_of hc])
      refine ⟨σ1, v, h2, ?_⟩
      rw [show decide ((i : Int) ≥ dd.A) = false by simp; omega, cond_false, h1, Option.bind_some]
      exact h3
theorem line5_loop {L : Nat} (hm : LsIs σ0 m ls) (hy : ls[y]? = some l) (hl : l.length = w) (hw : w ≤ 60) (hx : x5.2.2 = w) (hn : n ≤ 60) (hk : kindI dd = 5) :
    ∀ (d i fu : Nat) (out : Sl) (σ : Heap), i + d = w → d < fu → Mine eCell σ0 out σ (mapN i (pc5 dd s n l)) →
      ∃ σ1 v, Mine eCell σ0 v σ1 (mend (mapN w (pc5 dd s n l))) ∧ law09_lines_line_k5_L5 (R := AVal × Heap) c_law09_lines_line (tK 5) L fu m (y : Int) (n : Int) out x5 (i : Int) dd s σ (fun v σ => some (v, σ)) = some (.slice v.b v.o v.n 6, σ1)
  | d, i, 0, _, _, _, h, _ => by omega
  | 0, i, fu + 1, out, σ, h, _, ho => by
    obtain rfl : i = w := by omega
    obtain ⟨σ1, v, h1, h2⟩ := line_end ho (by omega)
    refine ⟨σ1, v, h1, ?_⟩
    rw [law09_lines_line_k5_L5_eq, hx, lt_false (by omega), cond_false]
    exact h2
  | d + 1, i, fu + 1, out, σ, h, hf, ho => by
    have hi : i < l.length := by omega
    have hc := List.getElem?_eq_getElem hi
    obtain ⟨b, f, b', k1, k2, k3, k4, k5, k6, f0, f1, f2, f3, f4, f5⟩ := line_at hm hy ho.pre hc
    have p1 : c_law09_lines_line.law09_lines_read = w_law09_lines_read := rfl
    have go : ∀ c, pc5 dd s n l i = c → ∃ q σ', σ.append out.b out.o out.n 6 32 [.int .i32 c.Rune, .bool c.Style.Bold, .bool c.Style.Under, .bool c.Style.Turned, .int .i64 c.Style.Fore, .int .i64 c.Style.Back] 1 = some (q, σ') ∧
        ∃ σ1 v, Mine eCell σ0 v σ1 (mend (mapN w (pc5 dd s n l))) ∧ law09_lines_line_k5_L5 (R := AVal × Heap) c_law09_lines_line (tK 5) L fu m (y : Int) (n : Int) ⟨q.1, q.2.1, q.2.2⟩ x5 (IntKind.i64.wrap ((i : Int) + 1)) dd s σ' (fun v σ => some (v, σ)) = some (.slice v.b v.o v.n 6, σ1) := fun c hg => by
      obtain ⟨q, σ', h1, h2⟩ := line_step ho (by omega) hg
      refine ⟨q, σ', h1, ?_⟩
      rw [wrap_i64_succ i (by omega)]
      exact line5_loop hm hy hl hw hx hn hk d (i + 1) fu _ _ (by omega) (by omega) h2
    rw [law09_lines_line_k5_L5_eq, hx, lt_true (show i < w by omega), cond_true, lt_true k3, dec0, Bool.and_self, cond_true, k1, Option.bind_some, Int.toNat_natCast, k2, Option.bind_some]
    simp only [lt_true k5, dec0, Bool.and_self, cond_true, k6, Option.bind_some, Int.toNat_natCast, f0, f1, f2, f3, f4, f5, int?, bool?, if_true, tK_eq hk, p1, w_law09_lines_read_eq (hm.pre ho.pre)]
    rw [wrap_i64_of (show -9223372036854775808 ≤ (i : Int) + (n : Int) by omega) (by omega)]
    by_cases c1 : dd.A ≤ (i : Int)
    · obtain ⟨q, σ', h1, σ1, v, h2, h3⟩ := go (rdC ls ((i : Int) + (n : Int)) (y : Int) s) (by
        rw [pc5, if_pos c1, rdC, if_pos (by omega), Int.toNat_natCast, hy, show (i : Int) + (n : Int) = ((i + n : Nat) : Int) by omega, Int.toNat_natCast])
      refine ⟨σ1, v, h2, ?_⟩
      rw [show decide ((i : Int) ≥ dd.A) = true by simp; omega, cond_true, h1, Option.bind_some]
      exact h3
    · obtain ⟨q, σ', h1, σ1, v, h2, h3⟩ := go l[i] (by rw [pc5, if_neg c1, atC_of hc])
      refine ⟨σ1, v, h2, ?_⟩
      rw [show decide ((i : Int) ≥ dd.A) = false by simp; omega, cond_false, h1, Option.bind_some]
      exact h3
end
end Go.Abs.TA
namespace Go.Abs.TA
open Go Go.Abs Go.Proofs

structure WideL (ls : List (List api_Cell)) (w : Nat) : Prop where
  each : ∀ l ∈ ls, l.length = w
  w1 : 1 ≤ w
  w2 : w ≤ 60
  h1 : 1 ≤ ls.length
  h2 : ls.length ≤ 60
theorem WideL.at_ {ls : List (List api_Cell)} {w : Nat} (h : WideL ls w) {i : Nat} {l : List api_Cell} (hl : ls[i]? = some l) : l.length = w := h.each l (List.mem_of_getElem? hl)
def lineK (dd : law09_Deed) : Prop := kindI dd = 0 ∨ kindI dd = 1 ∨ (kindI dd = 4 ∧ 0 ≤ dd.A) ∨ kindI dd = 5
def lineF (w : Nat) (dd : law09_Deed) (l : List api_Cell) : Nat → api_Cell :=
  if kindI dd = 0 then pc0 dd l else if kindI dd = 1 then pc1 dd (tameS dd.Cell.Style) l else
  if kindI dd = 4 then pc4 dd (tameS dd.Cell.Style) (within dd.C 0 w).toNat l else pc5 dd (tameS dd.Cell.Style) (within dd.C 0 w).toNat l
def lineV (w : Nat) (dd : law09_Deed) (l : List api_Cell) : List api_Cell := mend (mapN w (lineF w dd l))
/-- What the first line's slice is. -/
theorem LsIs.first {σ : Heap} {m : Sl} {ls : List (List api_Cell)} (h : LsIs σ m ls) {w : Nat} (hw : WideL ls w) : ∃ (b : Nat) (x : Option Nat × Nat × Nat), m.b = some b ∧ slice? (σ.cell? b m.o) 6 = some x ∧ x.2.2 = w ∧ 0 < m.n := by
  have h0 := List.getElem?_eq_getElem (show 0 < ls.length from hw.h1)
  obtain ⟨b, f, k1, k2, k3, k4⟩ := h.at_ h0
  rw [Nat.zero_mul, Nat.add_zero] at k2
  exact ⟨b, _, k1, k2, by rw [← hw.at_ h0]; exact k3.n, k4⟩
def LineP (σ : Heap) (m : Sl) (dd : law09_Deed) (y : Int) (v : Sl) (σ' : Heap) : Prop :=
  ∀ (ls : List (List api_Cell)) (l : List api_Cell) (j w : Nat), y = (j : Int) → LsIs σ m ls → WideL ls w → ls[j]? = some l → lineK dd → Mine eCell σ v σ' (lineV w dd l)
noncomputable def w_law09_lines_line (m : Sl) (dd : law09_Deed) (y : Int) (σ : Heap) : Option (Sl × Heap) :=
  wRel fun v σ' => CallOK Tryd.prog T 76 [(tSl 1).av m, t_law09_Deed.av dd, (tInt .i64).av y] σ ((tSl 6).av v) σ' ∧ LineP σ m dd y v σ'
theorem ok_law09_lines_line : Ok_law09_lines_line w_law09_lines_line := fun _ _ _ _ _ _ h => (wRel_some h).1
theorem line_known {k : Int} : KnownOK Tryd.prog T ((O_law09_lines_line c_law09_lines_line).and 71 (f1 t_law09_Deed (.int .i64 k) (tK k))) :=
  known_ok ok (K_law09_lines_line c_law09_lines_line ok_ref08_Mend ok_ref07_Wide ok_law09_within ok_law09_tame ok_law09_Deed_kind ok_law09_lines_read) fn_law09_Deed_kind (by kernel_rfl) (f1_ok (tK_ok k))
theorem w_law09_lines_line_ex {m : Sl} {dd : law09_Deed} {σ : Heap} {ls : List (List api_Cell)} {l : List api_Cell} {j w : Nat} (hm : LsIs σ m ls) (hw : WideL ls w) (hl : ls[j]? = some l) (hk : lineK dd) :
    ∃ v σ', w_law09_lines_line m dd (j : Int) σ = some (v, σ') ∧ Mine eCell σ v σ' (lineV w dd l) := by
  have p1 : c_law09_lines_line.law09_tame = w_law09_tame := rfl
  have p2 : c_law09_lines_line.law09_within = w_law09_within := rfl
  obtain ⟨b, x, b1, b2, b3, b4⟩ := hm.first hw
  have hll := hw.at_ hl
  have hw2 := hw.w2
  have hn : ((within dd.C 0 (w : Int)).toNat : Int) = within dd.C 0 (w : Int) ∧ (within dd.C 0 (w : Int)).toNat ≤ w := by
    unfold within
    constructor <;> (split <;> split <;> omega)
  have go : ∃ σ1 v, Mine eCell σ v σ1 (lineV w dd l) ∧ CallOK Tryd.prog T 76 [(tSl 1).av m, t_law09_Deed.av dd, (tInt .i64).av (j : Int)] σ ((tSl 6).av v) σ1 := by
    have h0 : Mine eCell σ ⟨none, 0, 0⟩ σ (mapN 0 (lineF w dd l)) := Mine.start σ
    unfold lineV
    rcases hk with hk | hk | hk | hk
    · have hF : lineF w dd l = pc0 dd l := by unfold lineF; rw [if_pos hk]
      rw [hF] at h0 ⊢
      obtain ⟨σ1, v, r1, r2⟩ := line0_loop (L := 100) (s := tameS dd.Cell.Style) (x5 := x) (n := within dd.C 0 w) hm hl hll hw2 b3 hk w 0 100 _ _ (by omega) (by omega) h0
      refine ⟨σ1, v, r1, call_ok ok line_known (L := 100) (n := 2) ((law09_lines_line_k0_eq c_law09_lines_line (tK 0) 100 m dd (j : Int) σ _).trans ?_)⟩
      rw [show decide ((0 : Int) < (m.n : Int)) = true by simp; omega, cond_true, b1, Option.bind_some, b2, Option.bind_some, p1, w_law09_tame, Option.bind_some, p2, w_law09_within, Option.bind_some]
      simp only [Heap.back_frz, b3]
      exact r2
    · have hF : lineF w dd l = pc1 dd (tameS dd.Cell.Style) l := by unfold lineF; rw [if_neg (by omega), if_pos hk]
      rw [hF] at h0 ⊢
      obtain ⟨σ1, v, r1, r2⟩ := line1_loop (L := 100) (x5 := x) (n := within dd.C 0 w) hm hl hll hw2 b3 hk w 0 100 _ _ (by omega) (by omega) h0
      refine ⟨σ1, v, r1, call_ok ok line_known (L := 100) (n := 2) ((law09_lines_line_k1_eq c_law09_lines_line (tK 1) 100 m dd (j : Int) σ _).trans ?_)⟩
      rw [show decide ((0 : Int) < (m.n : Int)) = true by simp; omega, cond_true, b1, Option.bind_some, b2, Option.bind_some, p1, w_law09_tame, Option.bind_some, p2, w_law09_within, Option.bind_some]
      simp only [Heap.back_frz, b3]
      exact r2
    · have hF : lineF w dd l = pc4 dd (tameS dd.Cell.Style) (within dd.C 0 w).toNat l := by unfold lineF; rw [if_neg (by omega), if_neg (by omega), if_pos hk.1]
      rw [hF] at h0 ⊢
      obtain ⟨σ1, v, r1, r2⟩ := line4_loop (L := 100) (x5 := x) hm hl hll hw2 b3 (by omega) hk.2 hk.1 w 0 100 _ _ (by omega) (by omega) h0
      refine ⟨σ1, v, r1, call_ok ok line_known (L := 100) (n := 2) ((law09_lines_line_k4_eq c_law09_lines_line (tK 4) 100 m dd (j : Int) σ _).trans ?_)⟩
      rw [show decide ((0 : Int) < (m.n : Int)) = true by simp; omega, cond_true, b1, Option.bind_some, b2, Option.bind_some, p1, w_law09_tame, Option.bind_some, p2, w_law09_within, Option.bind_some]
      simp only [Heap.back_frz, b3]
      rw [hn.1] at r2
      exact r2
    · have hF : lineF w dd l = pc5 dd (tameS dd.Cell.Style) (within dd.C 0 w).toNat l := by unfold lineF; rw [if_neg (by omega), if_neg (by omega), if_neg (by omega)]
      rw [hF] at h0 ⊢
      obtain ⟨σ1, v, r1, r2⟩ := line5_loop (L := 100) (x5 := x) hm hl hll hw2 b3 (by omega) hk w 0 100 _ _ (by omega) (by omega) h0
      refine ⟨σ1, v, r1, call_ok ok line_known (L := 100) (n := 2) ((law09_lines_line_k5_eq c_law09_lines_line (tK 5) 100 m dd (j : Int) σ _).trans ?_)⟩
      rw [show decide ((0 : Int) < (m.n : Int)) = true by simp; omega, cond_true, b1, Option.bind_some, b2, Option.bind_some, p1, w_law09_tame, Option.bind_some, p2, w_law09_within, Option.bind_some]
      simp only [Heap.back_frz, b3]
      rw [hn.1] at r2
      exact r2
  obtain ⟨σ1, v, hM, hc⟩ := go
  have hu : LineP σ m dd (j : Int) v σ1 := fun ls' l' j' w' e h1 h2 h3 _ => by
    obtain rfl := h1.uniq hm
    obtain rfl : j' = j := by omega
    rw [hl] at h3
    injection h3 with h3
    subst h3
    have := h2.at_ hl
    rw [show w' = w by omega]
    exact hM
  obtain ⟨x', hx, hP⟩ := wRel_ex (P := fun v σ' => CallOK Tryd.prog T 76 [(tSl 1).av m, t_law09_Deed.av dd, (tInt .i64).av (j : Int)] σ ((tSl 6).av v) σ' ∧ LineP σ m dd (j : Int) v σ') ⟨hc, hu⟩
  exact ⟨x'.1, x'.2, hx, hP.2 ls l j w rfl hm hw hl hk⟩
end Go.Abs.TA
namespace Go.Abs.TA
open Go Go.Abs Go.Proofs

theorem append_kept {σ σ' : Heap} {b : Option Nat} {o n z bytes k : Nat} {vs : List AVal} {q : Option Nat × Nat × Nat} (h : σ.append b o n z bytes vs k = some (q, σ')) : σ.length ≤ σ'.length ∧ ∀ c, c < σ.length → b ≠ some c → σ'[c]? = σ[c]? := by
  unfold Heap.append at h
  split at h
  · injection h with h
    injection h with h1 h2
    subst h2
    exact ⟨Nat.le_refl _, fun _ _ _ => rfl⟩
  · split at h
    · split at h
      · injection h with h
        injection h with h1 h2
        subst h2
        exact ⟨by simp, fun c hc _ => List.getElem?_append_left hc⟩
      · split at h
        · split at h
          · injection h with h
            injection h with h1 h2
            subst h2
            refine ⟨by simp, fun c hc hne => ?_⟩
            rw [List.getElem?_append_left (by simpa using hc), List.getElem?_set_ne]
            rintro rfl
            exact hne rfl
          · cases h
        · cases h
    · cases h
theorem LinesP.same {τ σ σ' : Heap} {q : Sl} {els : List Sl} {w : Nat} {ls : List (List api_Cell)} (h : LinesP τ σ q els w ls) (hp : τ <+: σ') (hlen : σ.length ≤ σ'.length)
    (e : ∀ b, b < σ.length → (q.b = some b ∨ ∃ f ∈ els, f.b = some b) → σ'[b]? = σ[b]?) : LinesP τ σ' q els w ls where
  pre := hp
  own := own_same h.own fun b hb => e b (by
    cases h.own with
    | nil z _ _ _ => rw [z] at hb; cases hb
    | row b2 z _ _ zr =>
      rw [z] at hb
      injection hb with hb
      subst hb
      exact (List.getElem?_eq_some_iff.1 zr).1) (.inl hb)
  new := h.new
  len := h.len
  line := fun i f l h1 h2 => by
    obtain ⟨a1, a2⟩ := h.line i f l h1 h2
    obtain ⟨z, z1, z2, z3⟩ := h.newl f (List.mem_of_getElem? h1)
    exact ⟨own_same a1 fun b hb => e b (by rw [z1] at hb; injection hb with hb; omega) (.inr ⟨f, List.mem_of_getElem? h1, hb⟩), a2⟩
  newl := fun f hf => by
    obtain ⟨z, z1, z2, z3⟩ := h.newl f hf
    exact ⟨z, z1, z2, by omega⟩
  nd := h.nd
/-- Lines that can be read, in blocks of some set. -/
def LsIn (S : Nat → Prop) (σ : Heap) (v : Sl) (ls : List (List api_Cell)) : Prop :=
  ∃ els : List Sl, v.Is eSl σ els ∧ els.length = ls.length ∧ (∀ c, v.b = some c → S c) ∧ ∀ (i : Nat) (f : Sl) (l : List api_Cell), els[i]? = some f → ls[i]? = some l → f.Is eCell σ l ∧ ∀ c, f.b = some c → S c
theorem LsIn.is {S : Nat → Prop} {σ : Heap} {v : Sl} {ls : List (List api_Cell)} (h : LsIn S σ v ls) : LsIs σ v ls := by
  obtain ⟨els, h1, h2, _, h3⟩ := h
  exact ⟨els, h1, h2, fun i f l hf hl => (h3 i f l hf hl).1⟩
theorem LsIn.pre {S : Nat → Prop} {σ σ' : Heap} {v : Sl} {ls : List (List api_Cell)} (h : LsIn S σ v ls) (hp : σ <+: σ') : LsIn S σ' v ls := by
  obtain ⟨els, h1, h2, h3, h4⟩ := h
  exact ⟨els, h1.pre hp, h2, h3, fun i f l hf hl => ⟨(h4 i f l hf hl).1.pre hp, (h4 i f l hf hl).2⟩⟩
theorem LsIn.nil {S : Nat → Prop} {σ : Heap} : LsIn S σ ⟨none, 0, 0⟩ [] := ⟨[], Sl.Is.nil, rfl, fun c hc => (by cases hc), fun i f l hf _ => (by simp at hf)⟩
theorem LinesP.lsIn {S : Nat → Prop} {τ σ : Heap} {q : Sl} {els : List Sl} {w : Nat} {ls : List (List api_Cell)} (h : LinesP τ σ q els w ls) (hS : ∀ c, τ.length ≤ c → S c) (hw : w ≤ 1000) (hl : ls.length ≤ 1000) : LsIn S σ q ls := by
  refine ⟨els, h.own.is (by have := h.len; omega), h.len, fun c hc => hS c (h.new c hc), fun i f l hf hl' => ?_⟩
  obtain ⟨a1, a2⟩ := h.line i f l hf hl'
  obtain ⟨z, z1, z2, _⟩ := h.newl f (List.mem_of_getElem? hf)
  exact ⟨a1.is (by omega), fun c hc => by rw [z1] at hc; injection hc with hc; exact hS c (by omega)⟩
def mapL (n : Nat) (f : Nat → List api_Cell) : List (List api_Cell) := (List.range n).map f
theorem mapL_succ (n : Nat) (f : Nat → List api_Cell) : mapL (n + 1) f = mapL n f ++ [f n] := by simp [mapL, List.range_succ]
theorem mapL_len (n : Nat) (f : Nat → List api_Cell) : (mapL n f).length = n := by simp [mapL]
theorem mapL_get {n : Nat} {f : Nat → List api_Cell} {j : Nat} (h : j < n) : (mapL n f)[j]? = some (f j) := by simp [mapL, h]

noncomputable def c_law09_lines_do : C_law09_lines_do := { ref08_Mend := w_ref08_Mend, cell_Right := w_cell_Right, law09_within := w_law09_within, law09_tame := w_law09_tame, law09_Deed_kind := w_law09_Deed_kind, law09_lines_read := w_law09_lines_read, law09_lines_line := w_law09_lines_line }
/-- Where line y comes from. -/
def fromU (t e n y : Nat) : Int := if t ≤ y ∧ y < e then (if e ≤ y + n then -1 else ((y + n : Nat) : Int)) else (y : Int)
def fromD (t e n y : Nat) : Int := if t ≤ y ∧ y < e then (if y < t + n then -1 else ((y - n : Nat) : Int)) else (y : Int)
def rowV (ls : List (List api_Cell)) (w : Nat) (s : api_Style) (y : Int) : List api_Cell := mapN w fun x => rdC ls (x : Int) y s
section
variable {R : Type} {L fu0 : Nat} {m : Sl} {ls : List (List api_Cell)} {w : Nat} {s : api_Style} {σ0 σ1 : Heap} {x4 : Option Nat × Nat × Nat} {K : AVal → Heap → Option R}
theorem row2_loop {out next : Sl} {t e n x : Int} (hm : LsIs σ1 m ls) (hw : w ≤ 60) (hx : x4.2.2 = w) (y : Int) :
    ∀ (d i fu : Nat) (l : Sl) (σ : Heap), i + d = w → d < fu → Mine eCell σ1 l σ (mapN i fun x => rdC ls (x : Int) y s) →
      ∃ l' σ' fu', Mine eCell σ1 l' σ' (rowV ls w s y) ∧ law09_lines_do_k2_L21 c_law09_lines_do (tK 2) L fu0 fu m x4 out next t e n x y l (i : Int) s σ K = law09_lines_do_k2_L21 c_law09_lines_do (tK 2) L fu0 (fu' + 1) m x4 out next t e n x y l' (w : Int) s σ' K
  | d, i, 0, _, _, _, h, _ => by omega
  | 0, i, fu + 1, l, σ, h, _, ho => by
    obtain rfl : i = w := by omega
    exact ⟨l, σ, fu, ho, rfl⟩
  | d + 1, i, fu + 1, l, σ, h, hf, ho => by
    have p1 : c_law09_lines_do.law09_lines_read = w_law09_lines_read := rfl
    obtain ⟨q, σ', h1, h2⟩ := line_step ho (by omega) rfl
    obtain ⟨l', σ2, fu', r1, r2⟩ := row2_loop hm hw hx y d (i + 1) fu _ _ (by omega) (by omega) h2
    refine ⟨l', σ2, fu', r1, ?_⟩
    rw [law09_lines_do_k2_L21_eq, hx, lt_true (show i < w by omega), cond_true, p1, w_law09_lines_read_eq (hm.pre ho.pre), Option.bind_some, h1, Option.bind_some, wrap_i64_succ i (by omega)]
    exact r2
theorem row3_loop {next : Sl} {t e n x : Int} (hm : LsIs σ1 m ls) (hw : w ≤ 60) (hx : x4.2.2 = w) (y : Int) :
    ∀ (d i fu : Nat) (l : Sl) (σ : Heap), i + d = w → d < fu → Mine eCell σ1 l σ (mapN i fun x => rdC ls (x : Int) y s) →
      ∃ l' σ' fu', Mine eCell σ1 l' σ' (rowV ls w s y) ∧ law09_lines_do_k3_L21 c_law09_lines_do (tK 3) L fu0 fu m x4 next t e n x y l (i : Int) s σ K = law09_lines_do_k3_L21 c_law09_lines_do (tK 3) L fu0 (fu' + 1) m x4 next t e n x y l' (w : Int) s σ' K
  | d, i, 0, _, _, _, h, _ => by omega
  | 0, i, fu + 1, l, σ, h, _, ho => by
    obtain rfl : i = w := by omega
    exact ⟨l, σ, fu, ho, rfl⟩
  | d + 1, i, fu + 1, l, σ, h, hf, ho => by
    have p1 : c_law09_lines_do.law09_lines_read = w_law09_lines_read := rfl
    obtain ⟨q, σ', h1, h2⟩ := line_step ho (by omega) rfl
    obtain ⟨l', σ2, fu', r1, r2⟩ := row3_loop hm hw hx y d (i + 1) fu _ _ (by omega) (by omega) h2
    refine ⟨l', σ2, fu', r1, ?_⟩
    rw [law09_lines_do_k3_L21_eq, hx, lt_true (show i < w by omega), cond_true, p1, w_law09_lines_read_eq (hm.pre ho.pre), Option.bind_some, h1, Option.bind_some, wrap_i64_succ i (by omega)]
    exact r2
/-- The row's end: it stands behind the others. -/
theorem row_push {next : Sl} {nels : List Sl} {nls : List (List api_Cell)} {l : Sl} {σ : Heap} {r : List api_Cell} (hL : LinesP σ0 σ1 next nels w nls) (ho : Mine eCell σ1 l σ r) (hr : r.length = w) (hw : 1 ≤ w) (hn : nels.length ≤ 1000) :
    ∃ q σ2, σ.append next.b next.o next.n 1 24 [.slice l.b l.o l.n 6] 1 = some (q, σ2) ∧ LinesP σ0 σ2 ⟨q.1, q.2.1, q.2.2⟩ (nels ++ [l]) w (nls ++ [r]) ∧ q.1 = some σ.length :=
  have ⟨q, σ2, h1, h2⟩ := hL.push ho.pre ho.own hr hw ho.new hn
  ⟨q, σ2, h1, h2, by
    obtain ⟨b, hb, _⟩ := own_b h2.own (by simp)
    have hb : q.1 = some b := hb
    rw [hb, append_new h1 (by decide) b hb]⟩
theorem rowV_len (ls : List (List api_Cell)) (w : Nat) (s : api_Style) (y : Int) : (rowV ls w s y).length = w := mapN_len ..
theorem down_loop' {t e n h : Nat} (hL100 : 100 ≤ L) (hm : LsIs σ0 m ls) (hls : ls.length = h) (hh : h ≤ 60) (hw1 : 1 ≤ w) (hw : w ≤ 60) (hx : x4.2.2 = w) (ht : t ≤ h) (he : e ≤ h) (hn : n ≤ 60) :
    ∀ (k i fu : Nat) (σ : Heap) (next : Sl) (nels : List Sl), i + k = h → k < fu → LinesP σ0 σ next nels w (mapL i fun y => rowV ls w s (fromD t e n y)) →
      ∃ σ2 next' nels', LinesP σ0 σ2 next' nels' w (mapL h fun y => rowV ls w s (fromD t e n y)) ∧
        law09_lines_do_k3_L10 (R := AVal × Heap) c_law09_lines_do (tK 3) L fu m x4 next (t : Int) (e : Int) (n : Int) (i : Int) s σ (fun v σ => some (v, σ)) = some (.tuple [.slice next'.b next'.o next'.n 1, .slice none 0 0 1], σ2)
  | k, i, 0, _, _, _, _, h, _ => by omega
  | 0, i, fu + 1, σ, next, nels, h1, _, hL => by
    obtain rfl : i = h := by omega
    refine ⟨σ, next, nels, hL, ?_⟩
    rw [law09_lines_do_k3_L10_eq, hm.n, hls, lt_false (by omega), cond_false]
  | k + 1, i, fu + 1, σ, next, nels, h1, hf, hL => by
    have hp := hL.pre
    have go : ∃ σ2 next' nels', LinesP σ0 σ2 next' nels' w (mapL h fun y => rowV ls w s (fromD t e n y)) ∧
        law09_lines_do_k3_L21 (R := AVal × Heap) c_law09_lines_do (tK 3) L fu L m x4 next (t : Int) (e : Int) (n : Int) (i : Int) (fromD t e n i) ⟨none, 0, 0⟩ 0 s σ (fun v σ => some (v, σ)) = some (.tuple [.slice next'.b next'.o next'.n 1, .slice none 0 0 1], σ2) := by
      obtain ⟨l, σa, fu', r1, r2⟩ := row3_loop (R := AVal × Heap) (L := L) (fu0 := fu) (K := fun v σ => some (v, σ)) (next := next) (t := (t : Int)) (e := (e : Int)) (n := (n : Int)) (x := (i : Int)) (s := s) (hm.pre hp) hw hx (fromD t e n i) w 0 L _ _ (by omega) (by omega) (Mine.start σ)
      have hlen : nels.length = i := by rw [hL.len, mapL_len]
      obtain ⟨q, σb, q1, q2, _⟩ := row_push hL r1 (rowV_len ..) hw1 (by omega)
      rw [← mapL_succ i (fun y => rowV ls w s (fromD t e n y))] at q2
      obtain ⟨σ2, next', nels', z1, z2⟩ := down_loop' hL100 hm hls hh hw1 hw hx ht he hn k (i + 1) fu σb _ _ (by omega) (by omega) q2
      refine ⟨σ2, next', nels', z1, ?_⟩
      rw [Int.ofNat_zero] at r2
      rw [r2, law09_lines_do_k3_L21_eq, hx, lt_false (by omega), cond_false, q1, Option.bind_some, wrap_i64_succ i (by omega)]
      exact z2
    obtain ⟨σ2, next', nels', z1, z2⟩ := go
    refine ⟨σ2, next', nels', z1, ?_⟩
    rw [law09_lines_do_k3_L10_eq, hm.n, hls, lt_true (show i < h by omega), cond_true, wrap_i64_of (show -9223372036854775808 ≤ (i : Int) - (n : Int) by omega) (by omega)]
    unfold fromD at z2
    by_cases c1 : t ≤ i
    · rw [show decide ((i : Int) ≥ (t : Int)) = true by simp; omega, cond_true]
      by_cases c2 : i < e
      · rw [show decide ((i : Int) < (e : Int)) = true by simp; omega, cond_true]
        rw [if_pos ⟨c1, c2⟩] at z2
        by_cases c3 : i < t + n
        · rw [show decide ((i : Int) - (n : Int) < (t : Int)) = true by simp; omega, cond_true]
          rw [if_pos c3] at z2
          exact z2
        · rw [show decide ((i : Int) - (n : Int) < (t : Int)) = false by simp; omega, cond_false, show decide ((i : Int) - (n : Int) ≥ (e : Int)) = false by simp; omega, cond_false]
          rw [if_neg c3, show ((i - n : Nat) : Int) = (i : Int) - (n : Int) by omega] at z2
          exact z2
      · rw [show decide ((i : Int) < (e : Int)) = false by simp; omega, cond_false]
        rw [if_neg (fun h => c2 h.2)] at z2
        exact z2
    · rw [show decide ((i : Int) ≥ (t : Int)) = false by simp; omega, cond_false]
      rw [if_neg (fun h => c1 h.1)] at z2
      exact z2


/-- What goes out, so far. -/
def outAt {α : Type} (xs : List α) (t n i : Nat) : List α := ((xs.take i).drop t).take n
theorem outAt_in {α : Type} {xs : List α} {t n i : Nat} {x : α} (hx : xs[i]? = some x) (h1 : t ≤ i) (h2 : i < t + n) : outAt xs t n (i + 1) = outAt xs t n i ++ [x] := by
  obtain ⟨hi, rfl⟩ := List.getElem?_eq_some_iff.1 hx
  unfold outAt
  rw [List.take_succ_eq_append_getElem hi, List.drop_append_of_le_length (by simp; omega), List.take_append, List.length_drop, List.length_take]
  congr 1
  rw [List.take_of_length_le (by simp; omega)]
theorem outAt_out {α : Type} {xs : List α} {t n i : Nat} (h : ¬ (t ≤ i ∧ i < t + n)) : outAt xs t n (i + 1) = outAt xs t n i := by
  unfold outAt
  by_cases h1 : t ≤ i
  · have h2 : t + n ≤ i := by omega
    rw [List.drop_take, List.drop_take, List.take_take, List.take_take]
    congr 1
    omega
  · rw [List.drop_eq_nil_of_le (by simp; omega), List.drop_eq_nil_of_le (by simp; omega)]
theorem m_cell {q : Sl} {σ : Heap} {els : List Sl} (h : q.Is eSl σ els) {i : Nat} {f : Sl} (hi : els[i]? = some f) : ∃ b, q.b = some b ∧ slice? (σ.cell? b (q.o + i * 1)) 6 = some (f.b, f.o, f.n) := by
  obtain ⟨b, hb, hc⟩ := h.cell hi
  have hc0 : σ.cell? b (q.o + i * 1) = some (.slice f.b f.o f.n 6) := hc 0 (by decide)
  refine ⟨b, hb, ?_⟩
  rw [hc0]
  unfold slice?
  cases f with
  | mk eb eo en => cases eb <;> rfl
theorem own_lt {α : Type} {E : El α} {q : Sl} {σ : Heap} {xs : List α} (h : q.Own E σ xs) {b : Nat} (hb : q.b = some b) : b < σ.length := by
  cases h with
  | nil z _ _ _ => rw [z] at hb; cases hb
  | row b2 z _ _ zr =>
    rw [z] at hb
    injection hb with hb
    subst hb
    exact (List.getElem?_eq_some_iff.1 zr).1
theorem up_loop' {els : List Sl} {t e n h : Nat} (hL100 : 100 ≤ L) (hm : LsIs σ0 m ls) (hels : m.Is eSl σ0 els) (hls : ls.length = h) (hh : h ≤ 60) (hw1 : 1 ≤ w) (hw : w ≤ 60) (hx : x4.2.2 = w) (ht : t ≤ h) (hn : n ≤ 60) :
    ∀ (k i fu : Nat) (σ : Heap) (next : Sl) (nels : List Sl) (out : Sl), i + k = h → k < fu → LinesP σ0 σ next nels w (mapL i fun y => rowV ls w s (fromU t e n y)) → Mine eSl σ0 out σ (outAt els t n i) →
      (∀ c, out.b = some c → next.b ≠ some c ∧ ∀ f ∈ nels, f.b ≠ some c) →
      ∃ σ2 next' nels' out', LinesP σ0 σ2 next' nels' w (mapL h fun y => rowV ls w s (fromU t e n y)) ∧ Mine eSl σ0 out' σ2 (outAt els t n h) ∧
        law09_lines_do_k2_L10 (R := AVal × Heap) c_law09_lines_do (tK 2) L fu m x4 out next (t : Int) (e : Int) (n : Int) (i : Int) s σ (fun v σ => some (v, σ)) = some (.tuple [.slice next'.b next'.o next'.n 1, .slice out'.b out'.o out'.n 1], σ2)
  | k, i, 0, _, _, _, _, _, h, _, _, _ => by omega
  | 0, i, fu + 1, σ, next, nels, out, h1, _, hL, hO, _ => by
    obtain rfl : i = h := by omega
    refine ⟨σ, next, nels, out, hL, hO, ?_⟩
    rw [law09_lines_do_k2_L10_eq, hm.n, hls, lt_false (by omega), cond_false]
  | k + 1, i, fu + 1, σ, next, nels, out, h1, hf, hL, hO, hD => by
    have hp := hL.pre
    have hmn : m.n = h := by rw [hm.n, hls]
    have hel : els.length = h := by rw [← hels.n, hmn]
    have go : ∃ σ2 next' nels' out', LinesP σ0 σ2 next' nels' w (mapL h fun y => rowV ls w s (fromU t e n y)) ∧ Mine eSl σ0 out' σ2 (outAt els t n h) ∧
        law09_lines_do_k2_L21 (R := AVal × Heap) c_law09_lines_do (tK 2) L fu L m x4 out next (t : Int) (e : Int) (n : Int) (i : Int) (fromU t e n i) ⟨none, 0, 0⟩ 0 s σ (fun v σ => some (v, σ)) = some (.tuple [.slice next'.b next'.o next'.n 1, .slice out'.b out'.o out'.n 1], σ2) := by
      obtain ⟨l, σa, fu', r1, r2⟩ := row2_loop (R := AVal × Heap) (L := L) (fu0 := fu) (K := fun v σ => some (v, σ)) (out := out) (next := next) (t := (t : Int)) (e := (e : Int)) (n := (n : Int)) (x := (i : Int)) (s := s) (hm.pre hp) hw hx (fromU t e n i) w 0 L _ _ (by omega) (by omega) (Mine.start σ)
      have hlen : nels.length = i := by rw [hL.len, mapL_len]
      obtain ⟨q, σb, q1, q2, q3⟩ := row_push hL r1 (rowV_len ..) hw1 (by omega)
      rw [← mapL_succ i (fun y => rowV ls w s (fromU t e n y))] at q2
      obtain ⟨a1, a2⟩ := append_kept q1
      have hσa := r1.pre.length_le
      have hab : σa.length < σb.length := own_lt q2.own (b := σa.length) q3
      have hOb : Mine eSl σ0 out σb (outAt els t n i) := ⟨q2.pre, own_same hO.own fun b hb => by
        have := own_lt hO.own hb
        rw [a2 b (by omega) (hD b hb).1]
        exact get_pre r1.pre this, hO.new⟩
      have hDb : ∀ c, out.b = some c → (q.1 : Option Nat) ≠ some c ∧ ∀ f ∈ nels ++ [l], f.b ≠ some c := fun c hc => by
        have := own_lt hO.own hc
        refine ⟨fun e1 => ?_, fun f hf' e1 => ?_⟩
        · rw [q3] at e1
          injection e1 with e1
          omega
        · rcases List.mem_append.1 hf' with h2 | h2
          · exact (hD c hc).2 f h2 e1
          · simp only [List.mem_singleton] at h2
            subst h2
            have := r1.new c e1
            omega
      rw [Int.ofNat_zero] at r2
      rw [r2, law09_lines_do_k2_L21_eq, hx, lt_false (by omega), cond_false, q1, Option.bind_some, wrap_i64_succ i (by omega), wrap_i64_of (show -9223372036854775808 ≤ (t : Int) + (n : Int) by omega) (by omega)]
      by_cases c1 : t ≤ i
      · rw [show decide ((i : Int) ≥ (t : Int)) = true by simp; omega, cond_true]
        by_cases c2 : i < t + n
        · rw [show decide ((i : Int) < (t : Int) + (n : Int)) = true by simp; omega, cond_true, lt_true (show i < m.n by omega), dec0, Bool.and_self, cond_true]
          have hi := List.getElem?_eq_getElem (show i < els.length by omega)
          obtain ⟨b, k1, k2⟩ := m_cell (hels.pre q2.pre) hi
          have hol : (outAt els t n i).length ≤ 60 := by unfold outAt; simp; omega
          obtain ⟨q', σc, e1, e2⟩ := hOb.append (zs := [els[i]]) (bytes := 24) (vs := [.slice els[i].b els[i].o els[i].n 6]) (k := 1) (by simp [eSl, El.all]) rfl (by simp; omega) (by simp; omega)
          obtain ⟨b1, b2⟩ := append_kept e1
          rw [← outAt_in hi c1 c2] at e2
          have hLc : LinesP σ0 σc ⟨q.1, q.2.1, q.2.2⟩ (nels ++ [l]) w (mapL (i + 1) fun y => rowV ls w s (fromU t e n y)) := q2.same e2.pre b1 fun b' hb' hb => b2 b' hb' fun e3 => by
            rcases hb with hb | ⟨f, hf', hb⟩
            · exact (hDb b' e3).1 hb
            · exact (hDb b' e3).2 f hf' hb
          obtain ⟨σ2, next', nels', out', z1, z2, z3⟩ := up_loop' hL100 hm hels hls hh hw1 hw hx ht hn k (i + 1) fu σc _ _ _ (by omega) (by omega) hLc e2 (fun c hc => by
            have hc : q'.1 = some c := hc
            have := append_new e1 (by decide) c hc
            refine ⟨fun e3 => ?_, fun f hf' e3 => ?_⟩
            · have e3 : q.1 = some c := e3
              rw [q3] at e3
              injection e3 with e3
              omega
            · obtain ⟨z, z1, _, z3⟩ := q2.newl f hf'
              rw [z1] at e3
              injection e3 with e3
              omega)
          refine ⟨σ2, next', nels', out', z1, z2, ?_⟩
          have e1' : σb.append out.b out.o out.n 1 24 [.slice els[i].b els[i].o els[i].n 6] 1 = some (q', σc) := e1
          rw [k1, Option.bind_some, Int.toNat_natCast, k2, Option.bind_some, e1', Option.bind_some]
          exact z3
        · rw [show decide ((i : Int) < (t : Int) + (n : Int)) = false by simp; omega, cond_false]
          rw [← outAt_out (xs := els) (t := t) (n := n) (i := i) (by omega)] at hOb
          obtain ⟨σ2, next', nels', out', z1, z2, z3⟩ := up_loop' hL100 hm hels hls hh hw1 hw hx ht hn k (i + 1) fu σb _ _ _ (by omega) (by omega) q2 hOb hDb
          exact ⟨σ2, next', nels', out', z1, z2, z3⟩
      · rw [show decide ((i : Int) ≥ (t : Int)) = false by simp; omega, cond_false]
        rw [← outAt_out (xs := els) (t := t) (n := n) (i := i) (by omega)] at hOb
        obtain ⟨σ2, next', nels', out', z1, z2, z3⟩ := up_loop' hL100 hm hels hls hh hw1 hw hx ht hn k (i + 1) fu σb _ _ _ (by omega) (by omega) q2 hOb hDb
        exact ⟨σ2, next', nels', out', z1, z2, z3⟩
    obtain ⟨σ2, next', nels', out', z1, z2, z3⟩ := go
    refine ⟨σ2, next', nels', out', z1, z2, ?_⟩
    rw [law09_lines_do_k2_L10_eq, hm.n, hls, lt_true (show i < h by omega), cond_true, wrap_i64_of (show -9223372036854775808 ≤ (i : Int) + (n : Int) by omega) (by omega)]
    unfold fromU at z3
    by_cases c1 : t ≤ i
    · rw [show decide ((i : Int) ≥ (t : Int)) = true by simp; omega, cond_true]
      by_cases c2 : i < e
      · rw [show decide ((i : Int) < (e : Int)) = true by simp; omega, cond_true]
        rw [if_pos ⟨c1, c2⟩] at z3
        rw [show decide ((i : Int) + (n : Int) < (t : Int)) = false by simp; omega, cond_false]
        by_cases c3 : e ≤ i + n
        · rw [show decide ((i : Int) + (n : Int) ≥ (e : Int)) = true by simp; omega, cond_true]
          rw [if_pos c3] at z3
          exact z3
        · rw [show decide ((i : Int) + (n : Int) ≥ (e : Int)) = false by simp; omega, cond_false]
          rw [if_neg c3, show ((i + n : Nat) : Int) = (i : Int) + (n : Int) by omega] at z3
          exact z3
      · rw [show decide ((i : Int) < (e : Int)) = false by simp; omega, cond_false]
        rw [if_neg (fun h => c2 h.2)] at z3
        exact z3
    · rw [show decide ((i : Int) ≥ (t : Int)) = false by simp; omega, cond_false]
      rw [if_neg (fun h => c1 h.1)] at z3
      exact z3
/-! another size -/
def rowB (ls : List (List api_Cell)) (w : Nat) (y : Nat) : List api_Cell := mapN w fun x => rdC ls (x : Int) (y : Int) ⟨false, false, false, 0, 0⟩
theorem row6_loop {next : Sl} {W H away i6 : Nat} {x2 x7 : Int} {dd : law09_Deed} (hm : LsIs σ1 m ls) (hW : W ≤ 60) (hx : IntKind.i64.wrap (x7 + (away : Int)) = ((i6 : Nat) : Int)) :
    ∀ (d i fu : Nat) (l : Sl) (σ : Heap), i + d = W → d < fu → Mine eCell σ1 l σ (mapN i fun x => rdC ls (x : Int) (i6 : Int) ⟨false, false, false, 0, 0⟩) →
      ∃ l' σ' fu', Mine eCell σ1 l' σ' (rowB ls W i6) ∧ law09_lines_do_k6_L37 c_law09_lines_do (tK 6) L fu0 fu m next (away : Int) x7 l x2 (W : Int) (i : Int) dd σ K = law09_lines_do_k6_L37 c_law09_lines_do (tK 6) L fu0 (fu' + 1) m next (away : Int) x7 l' x2 (W : Int) (W : Int) dd σ' K
  | d, i, 0, _, _, _, h, _ => by omega
  | 0, i, fu + 1, l, σ, h, _, ho => by
    obtain rfl : i = W := by omega
    exact ⟨l, σ, fu, ho, rfl⟩
  | d + 1, i, fu + 1, l, σ, h, hf, ho => by
    have p1 : c_law09_lines_do.law09_lines_read = w_law09_lines_read := rfl
    obtain ⟨q, σ', h1, h2⟩ := line_step ho (by omega) rfl
    obtain ⟨l', σ2, fu', r1, r2⟩ := row6_loop (H := H) hm hW hx d (i + 1) fu _ _ (by omega) (by omega) h2
    refine ⟨l', σ2, fu', r1, ?_⟩
    rw [law09_lines_do_k6_L37_eq, lt_true (show i < W by omega), cond_true, p1, hx, w_law09_lines_read_eq (hm.pre ho.pre), Option.bind_some, h1, Option.bind_some, wrap_i64_succ i (by omega)]
    exact r2
theorem size_loop {W H away : Nat} {dd : law09_Deed} (hL100 : 100 ≤ L) (hm : LsIs σ0 m ls) (hW1 : 1 ≤ W) (hW : W ≤ 60) (hH : H ≤ 60) (ha : away ≤ ls.length) (ha' : away ≤ 60) (hdA : within dd.A 1 60 = (W : Int)) :
    ∀ (k i fu : Nat) (σ : Heap) (next : Sl) (nels : List Sl), i + k = H → k < fu → LinesP σ0 σ next nels W (mapL i fun y => mend (rowB ls W (y + away))) →
      ∃ σ2 next' nels', LinesP σ0 σ2 next' nels' W (mapL H fun y => mend (rowB ls W (y + away))) ∧
        law09_lines_do_k6_L33 (R := AVal × Heap) c_law09_lines_do (tK 6) L fu m next (away : Int) (H : Int) (i : Int) dd σ (fun v σ => some (v, σ)) = some (.tuple [.slice next'.b next'.o next'.n 1, .slice m.b m.o away 1], σ2)
  | k, i, 0, _, _, _, _, h, _ => by omega
  | 0, i, fu + 1, σ, next, nels, h1, _, hL => by
    obtain rfl : i = H := by omega
    refine ⟨σ, next, nels, hL, ?_⟩
    rw [law09_lines_do_k6_L33_eq, lt_false (by omega), cond_false, dec0, hm.n, show decide ((away : Int) ≤ (ls.length : Int)) = true by simp; omega, Bool.and_self, cond_true, Int.toNat_natCast]
  | k + 1, i, fu + 1, σ, next, nels, h1, hf, hL => by
    have hp := hL.pre
    have p1 : c_law09_lines_do.law09_within = w_law09_within := rfl
    have p2 : c_law09_lines_do.ref08_Mend = w_ref08_Mend := rfl
    have hx : IntKind.i64.wrap ((i : Int) + (away : Int)) = ((i + away : Nat) : Int) := by rw [wrap_i64_of (by omega) (by omega)]; omega
    obtain ⟨l, σa, fu', r1, r2⟩ := row6_loop (R := AVal × Heap) (L := L) (fu0 := fu) (K := fun v σ => some (v, σ)) (next := next) (H := H) (x2 := (H : Int)) (dd := dd) (hm.pre hp) hW hx W 0 L _ _ (by omega) (by omega) (Mine.start σ)
    have hlen : nels.length = i := by rw [hL.len, mapL_len]
    have hrl : (rowB ls W (i + away)).length = W := mapN_len ..
    have hml : (mend (rowB ls W (i + away))).length = W := by rw [mend_len, hrl]
    have hM : Mine eCell σ (fresh eCell σa (decide (rowB ls W (i + away) = [])) (mend (rowB ls W (i + away)))).1 (fresh eCell σa (decide (rowB ls W (i + away) = [])) (mend (rowB ls W (i + away)))).2 (mend (rowB ls W (i + away))) := by
      refine ⟨r1.pre.trans (fresh_pre ..), fresh_own eCell σa _ _ (fun h => ?_), fun c hc => ?_⟩
      · simp at h
        rw [h]; rfl
      · have := r1.pre.length_le
        unfold fresh at hc
        cases hd : decide (rowB ls W (i + away) = []) <;> rw [hd] at hc
        · simp at hc; omega
        · simp at hc
    have hF := w_ref08_Mend_eq (s := l) (σ := σa) (r1.own.is (by omega)) (by omega)
    generalize fresh eCell σa (decide (rowB ls W (i + away) = [])) (mend (rowB ls W (i + away))) = e at hM hF
    obtain ⟨q, σb, q1, q2, _⟩ := row_push hL hM hml hW1 (by omega)
    rw [← mapL_succ i (fun y => mend (rowB ls W (y + away)))] at q2
    obtain ⟨σ2, next', nels', z1, z2⟩ := size_loop hL100 hm hW1 hW hH ha ha' hdA k (i + 1) fu σb _ _ (by omega) (by omega) q2
    refine ⟨σ2, next', nels', z1, ?_⟩
    rw [Int.ofNat_zero] at r2
    rw [law09_lines_do_k6_L33_eq, lt_true (show i < H by omega), cond_true, p1, w_law09_within, Option.bind_some, hdA]
    dsimp only
    rw [r2, law09_lines_do_k6_L37_eq, lt_false (by omega), cond_false, p2, hF, Option.bind_some, q1, Option.bind_some, wrap_i64_succ i (by omega)]
    exact z2
end
end Go.Abs.TA
namespace Go.Abs.TA
open Go Go.Abs Go.Proofs

/-- The deed's column and line, where it changes one line. -/
def colI (dd : law09_Deed) : Int := if kindI dd = 1 then 0 else dd.A
def linI (dd : law09_Deed) : Int := if kindI dd = 1 then dd.A else dd.B
/-- Nothing is done. -/
def idle (w h : Nat) (dd : law09_Deed) : Bool := decide (colI dd < 0 ∨ linI dd < 0 ∨ colI dd ≥ w ∨ linI dd ≥ h ∨ (kindI dd = 0 ∧ rightC dd.Cell = false))
def mdoL (w : Nat) (ls : List (List api_Cell)) (dd : law09_Deed) : List (List api_Cell) :=
  if kindI dd = 2 then mapL ls.length (fun y => rowV ls w (tameS dd.Cell.Style) (fromU (topN ls.length dd.A) (topN ls.length dd.B) (cntN ls.length dd.A dd.B dd.C) y)) else
  if kindI dd = 3 then mapL ls.length (fun y => rowV ls w (tameS dd.Cell.Style) (fromD (topN ls.length dd.A) (topN ls.length dd.B) (cntN ls.length dd.A dd.B dd.C) y)) else
  if kindI dd = 6 then mapL (within dd.B 1 60).toNat (fun y => mend (rowB ls (within dd.A 1 60).toNat (y + topN ls.length dd.C))) else
  if idle w ls.length dd then ls else ls.set (linI dd).toNat (lineV w dd (ls.getD (linI dd).toNat []))
def mdoO (ls : List (List api_Cell)) (dd : law09_Deed) : List (List api_Cell) :=
  if kindI dd = 2 then outAt ls (topN ls.length dd.A) (cntN ls.length dd.A dd.B dd.C) ls.length else
  if kindI dd = 6 then ls.take (topN ls.length dd.C) else []
def DoP (σ : Heap) (m : Sl) (dd : law09_Deed) (v : Sl × Sl) (σ' : Heap) : Prop :=
  ∀ (S : Nat → Prop) (ls : List (List api_Cell)) (w : Nat), LsIn S σ m ls → WideL ls w → (∀ c, σ.length ≤ c → S c) → σ <+: σ' ∧ LsIn S σ' v.1 (mdoL w ls dd) ∧ LsIn S σ' v.2 (mdoO ls dd)
noncomputable def w_law09_lines_do (m : Sl) (dd : law09_Deed) (σ : Heap) : Option ((Sl × Sl) × Heap) :=
  wRel fun v σ' => CallOK Tryd.prog T 51 [(tSl 1).av m, t_law09_Deed.av dd] σ ((tPair (tSl 1) (tSl 1)).av v) σ' ∧ DoP σ m dd v σ'
theorem ok_law09_lines_do : Ok_law09_lines_do w_law09_lines_do := fun _ _ _ _ _ h => (wRel_some h).1
theorem do_known {k : Int} : KnownOK Tryd.prog T ((O_law09_lines_do c_law09_lines_do).and 71 (f1 t_law09_Deed (.int .i64 k) (tK k))) :=
  known_ok ok (K_law09_lines_do c_law09_lines_do ok_ref08_Mend ok_cell_Right ok_law09_within ok_law09_tame ok_law09_Deed_kind ok_law09_lines_read ok_law09_lines_line) fn_law09_Deed_kind (by kernel_rfl) (f1_ok (tK_ok k))
theorem kind_cases (dd : law09_Deed) : kindI dd = 0 ∨ kindI dd = 1 ∨ kindI dd = 2 ∨ kindI dd = 3 ∨ kindI dd = 4 ∨ kindI dd = 5 ∨ kindI dd = 6 := by
  have h1 : ∃ k : Nat, IntKind.i64.wrap (BitVec.ofInt IntKind.i64.bits dd.Kind &&& BitVec.ofInt IntKind.i64.bits 65535).toNat = (k : Int) := by
    refine ⟨(BitVec.ofInt IntKind.i64.bits dd.Kind &&& BitVec.ofInt IntKind.i64.bits 65535).toNat, wrap_i64_nat _ ?_⟩
    rw [BitVec.toNat_and]
    exact Nat.le_trans Nat.and_le_right (by decide)
  obtain ⟨k, hk⟩ := h1
  unfold kindI
  rw [hk]
  have : Int.tmod (k : Int) 7 = ((k % 7 : Nat) : Int) := by rw [Int.tmod_eq_emod_of_nonneg (by omega)]; omega
  rw [this]
  omega
section
variable {m : Sl} {dd : law09_Deed} {σ : Heap} {ls : List (List api_Cell)} {w : Nat} {S : Nat → Prop}
theorem outAt_all {α : Type} (xs : List α) (t n : Nat) : outAt xs t n xs.length = (xs.drop t).take n := by unfold outAt; rw [List.take_length]
/-- Some of the lines, in memory of their own. -/
theorem LsIn.some_of {els oels : List Sl} {ols : List (List api_Cell)} {σ' : Heap} {out : Sl} (he : ∀ (i : Nat) (f : Sl) (l : List api_Cell), els[i]? = some f → ls[i]? = some l → f.Is eCell σ l ∧ ∀ c, f.b = some c → S c)
    (ho : Mine eSl σ out σ' oels) (hlen : oels.length = ols.length) (h60 : oels.length ≤ 1000) (hS : ∀ c, σ.length ≤ c → S c) (hx : ∀ i : Nat, i < oels.length → ∃ j : Nat, oels[i]? = els[j]? ∧ ols[i]? = ls[j]?) : LsIn S σ' out ols := by
  refine ⟨oels, ho.own.is (by omega), hlen, fun c hc => hS c (ho.new c hc), fun i f l hf hl' => ?_⟩
  obtain ⟨j, h1, h2⟩ := hx i (List.getElem?_eq_some_iff.1 hf).1
  obtain ⟨a, b⟩ := he j f l (by rw [← h1]; exact hf) (by rw [← h2]; exact hl')
  exact ⟨a.pre ho.pre, b⟩
/-- One line is another one: a list of its own. -/
theorem set_line (hm : LsIn S σ m ls) (hw : WideL ls w) (hS : ∀ c, σ.length ≤ c → S c) {j : Nat} (hj : j < ls.length) (hk : lineK dd) :
    ∃ vs q σ1 v σ2 b σ3, σ.read m.b m.o m.n 1 = some vs ∧ σ.append none 0 0 1 24 vs m.n = some (q, σ1) ∧ w_law09_lines_line m dd (j : Int) σ1 = some (v, σ2) ∧ j < q.2.2 ∧ q.1 = some b ∧
      σ2.store b (q.2.1 + j * 1) [.slice v.b v.o v.n 6] = some σ3 ∧ σ <+: σ3 ∧ LsIn S σ3 ⟨q.1, q.2.1, q.2.2⟩ (ls.set j (lineV w dd (ls.getD j []))) := by
  obtain ⟨els, h1, h2, h3, h4⟩ := hm
  have hh2 := hw.h2
  have hn : m.n = els.length := h1.n
  obtain ⟨q, σ1, k1, k2⟩ := (Mine.start (E := eSl) σ).append (zs := els) (bytes := 24) (vs := eSl.all els) (k := m.n) rfl hn (by simp; omega) (by simp; omega)
  rw [List.nil_append] at k2
  have hIs : LsIs σ m ls := ⟨els, h1, h2, fun i f l hf hl => (h4 i f l hf hl).1⟩
  have hl : ls[j]? = some ls[j] := List.getElem?_eq_getElem hj
  obtain ⟨v, σ2, l1, l2⟩ := w_law09_lines_line_ex (hIs.pre k2.pre) hw hl hk
  have hqo : Sl.Own ⟨q.1, q.2.1, q.2.2⟩ eSl σ2 els := k2.own.pre l2.pre
  obtain ⟨b, hb, hq0, hqr⟩ := own_b hqo (by intro e; rw [e] at h2; simp at h2; omega)
  have hb' : q.1 = some b := hb
  have hq0' : q.2.1 = 0 := hq0
  have hqn : q.2.2 = els.length := hqo.len
  have hje : j < els.length := by omega
  have hset := eSl.all_set els (List.getElem?_eq_getElem hje) v [] (eSl.en els[j]) [] (vs := [.slice v.b v.o v.n 6]) (by simp) (by simp [eSl]) (by simp [eSl]) (j := 0) rfl
  obtain ⟨σ3, s1, s2, s3, s4⟩ := store_own (E := eSl) hqo hb (o := q.2.1 + j * 1) (vs := [.slice v.b v.o v.n 6]) (ys := els.set j v) (by rw [hq0', Nat.zero_add]; exact hset) (by simp) (by rw [hq0']; simp [eSl]; omega)
  have hbn : σ.length ≤ b := k2.new b hb
  have hbl := own_lt k2.own hb
  have hp3 : σ <+: σ3 := pre_of_get (by have := k2.pre.length_le; have := l2.pre.length_le; omega) fun c hc => by
    rw [s4 c (by omega)]
    exact get_pre (k2.pre.trans l2.pre) hc
  refine ⟨_, q, σ1, v, σ2, b, σ3, h1.read, k1, l1, by omega, hb', s1, hp3, els.set j v, s2.is (by simp; omega), by simp [h2], fun c hc => hS c (k2.new c hc), fun i f l hf hl' => ?_⟩
  rw [List.getElem?_set] at hf hl'
  by_cases e : j = i
  · rw [if_pos e, if_pos (by omega)] at hf hl'
    injection hf with hf
    injection hl' with hl'
    subst hf; subst hl'
    have hlv : (lineV w dd (ls.getD j [])).length = w := by unfold lineV; rw [mend_len, mapN_len]
    have e2 : ls.getD j [] = ls[j] := by rw [List.getD_eq_getElem?_getD, hl]; rfl
    rw [e2] at hlv ⊢
    have hvo : v.Own eCell σ3 (lineV w dd ls[j]) := own_same l2.own fun c hc => s4 c fun e3 => by
      have := l2.new c hc
      omega
    have := hw.w2
    exact ⟨hvo.is (by omega), fun c hc => hS c (by have := l2.new c hc; have := k2.pre.length_le; omega)⟩
  · rw [if_neg e] at hf hl'
    obtain ⟨a1, a2⟩ := h4 i f l hf hl'
    exact ⟨a1.pre hp3, a2⟩
theorem LsIn.mono {S' : Nat → Prop} {v : Sl} (h : LsIn S σ v ls) (hS : ∀ c, S c → S' c) : LsIn S' σ v ls := by
  obtain ⟨els, h1, h2, h3, h4⟩ := h
  exact ⟨els, h1, h2, fun c hc => hS c (h3 c hc), fun i f l hf hl => ⟨(h4 i f l hf hl).1, fun c hc => hS c ((h4 i f l hf hl).2 c hc)⟩⟩
theorem mdo_idle (h2 : kindI dd ≠ 2) (h3 : kindI dd ≠ 3) (h6 : kindI dd ≠ 6) (h : colI dd < 0 ∨ linI dd < 0 ∨ colI dd ≥ w ∨ linI dd ≥ ls.length ∨ (kindI dd = 0 ∧ rightC dd.Cell = false)) : mdoL w ls dd = ls ∧ mdoO ls dd = [] := by
  unfold mdoL mdoO
  rw [if_neg h2, if_neg h3, if_neg h6, if_neg h2, if_neg h6, if_pos]
  · exact ⟨rfl, rfl⟩
  · unfold idle
    exact decide_eq_true h
theorem mdo_line (h2 : kindI dd ≠ 2) (h3 : kindI dd ≠ 3) (h6 : kindI dd ≠ 6) (h : ¬ (colI dd < 0 ∨ linI dd < 0 ∨ colI dd ≥ w ∨ linI dd ≥ ls.length ∨ (kindI dd = 0 ∧ rightC dd.Cell = false))) :
    mdoL w ls dd = ls.set (linI dd).toNat (lineV w dd (ls.getD (linI dd).toNat [])) ∧ mdoO ls dd = [] := by
  unfold mdoL mdoO
  rw [if_neg h2, if_neg h3, if_neg h6, if_neg h2, if_neg h6, if_neg]
  · exact ⟨rfl, rfl⟩
  · unfold idle
    rw [decide_eq_false h]
    simp
def DoR (S : Nat → Prop) (σ : Heap) (w : Nat) (ls : List (List api_Cell)) (dd : law09_Deed) (r : Option (AVal × Heap)) : Prop :=
  ∃ (v : Sl × Sl) (σ' : Heap), r = some ((tPair (tSl 1) (tSl 1)).av v, σ') ∧ σ <+: σ' ∧ LsIn S σ' v.1 (mdoL w ls dd) ∧ LsIn S σ' v.2 (mdoO ls dd)
theorem do_idle (hm : LsIn S σ m ls) (h2 : kindI dd ≠ 2) (h3 : kindI dd ≠ 3) (h6 : kindI dd ≠ 6) (h : colI dd < 0 ∨ linI dd < 0 ∨ colI dd ≥ w ∨ linI dd ≥ ls.length ∨ (kindI dd = 0 ∧ rightC dd.Cell = false)) :
    DoR S σ w ls dd (some (.tuple [.slice m.b m.o m.n 1, .slice none 0 0 1], σ)) := by
  obtain ⟨e1, e2⟩ := mdo_idle (w := w) (ls := ls) h2 h3 h6 h
  refine ⟨(m, ⟨none, 0, 0⟩), σ, rfl, List.prefix_rfl, ?_, ?_⟩
  · rw [e1]; exact hm
  · rw [e2]; exact LsIn.nil
/-- .. one line is another one. -/
theorem do_line (hm : LsIn S σ m ls) (hw : WideL ls w) (hS : ∀ c, σ.length ≤ c → S c) (h2 : kindI dd ≠ 2) (h3 : kindI dd ≠ 3) (h6 : kindI dd ≠ 6) (h : ¬ (colI dd < 0 ∨ linI dd < 0 ∨ colI dd ≥ w ∨ linI dd ≥ ls.length ∨ (kindI dd = 0 ∧ rightC dd.Cell = false)))
    (hk : lineK dd) {y : Int} (hy : linI dd = y) :
    DoR S σ w ls dd ((Heap.read σ m.b m.o m.n 1).bind fun vs => (Heap.append σ none 0 0 1 24 vs m.n).bind fun q12 => (w_law09_lines_line m dd y q12.2).bind fun q13 =>
      bif ((decide (0 ≤ y)) && (decide (y < (q12.1.2.2 : Int)))) then ((q12.1.1).bind fun b14 => (Heap.store q13.2 b14 (q12.1.2.1 + y.toNat * 1) [.slice q13.1.b q13.1.o q13.1.n 6]).bind fun σ15 => some (.tuple [.slice q12.1.1 q12.1.2.1 q12.1.2.2 1, .slice none 0 0 1], σ15)) else none) := by
  subst hy
  obtain ⟨j, hj⟩ := Int.eq_ofNat_of_zero_le (show 0 ≤ linI dd by omega)
  obtain ⟨e1, e2⟩ := mdo_line (w := w) (ls := ls) h2 h3 h6 h
  rw [hj, Int.toNat_natCast] at e1
  rw [hj]
  obtain ⟨vs, q, σ1, v, σ2, b, σ3, a1, a2, a3, a4, a5, a6, a7, a8⟩ := set_line hm hw hS (show j < ls.length by omega) hk
  refine ⟨(⟨q.1, q.2.1, q.2.2⟩, ⟨none, 0, 0⟩), σ3, ?_, a7, ?_, ?_⟩
  · rw [a1, Option.bind_some, a2, Option.bind_some, a3, Option.bind_some, lt_true a4, dec0, Bool.and_self, cond_true, a5, Option.bind_some, Int.toNat_natCast, a6, Option.bind_some]
    rfl
  · rw [e1]; exact a8
  · rw [e2]; exact LsIn.nil
theorem dor_call {k : Int} {r : Option (AVal × Heap)} (h : DoR S σ w ls dd r) (e : callC (R := AVal × Heap) T ((O_law09_lines_do c_law09_lines_do).and 71 (f1 t_law09_Deed (.int .i64 k) (tK k))) 100 2 51 [(tSl 1).av m, t_law09_Deed.av dd] σ (fun v σ => some (v, σ)) = r) :
    ∃ v σ', CallOK Tryd.prog T 51 [(tSl 1).av m, t_law09_Deed.av dd] σ ((tPair (tSl 1) (tSl 1)).av v) σ' ∧ σ <+: σ' ∧ LsIn S σ' v.1 (mdoL w ls dd) ∧ LsIn S σ' v.2 (mdoO ls dd) := by
  obtain ⟨v, σ', h1, h2, h3, h4⟩ := h
  exact ⟨v, σ', call_ok ok do_known (L := 100) (n := 2) (e.trans h1), h2, h3, h4⟩
theorem do_go (hm : LsIn S σ m ls) (hw : WideL ls w) (hS : ∀ c, σ.length ≤ c → S c) :
    ∃ v σ', CallOK Tryd.prog T 51 [(tSl 1).av m, t_law09_Deed.av dd] σ ((tPair (tSl 1) (tSl 1)).av v) σ' ∧ σ <+: σ' ∧ LsIn S σ' v.1 (mdoL w ls dd) ∧ LsIn S σ' v.2 (mdoO ls dd) := by
  have p1 : c_law09_lines_do.law09_tame = w_law09_tame := rfl
  have p2 : c_law09_lines_do.law09_within = w_law09_within := rfl
  have p3 : c_law09_lines_do.cell_Right = w_cell_Right := rfl
  have p4 : c_law09_lines_do.law09_lines_line = w_law09_lines_line := rfl
  obtain ⟨b, x, b1, b2, b3, b4⟩ := hm.is.first hw
  have hn : m.n = ls.length := hm.is.n
  have hh1 := hw.h1
  have hh2 := hw.h2
  have hw1 := hw.w1
  have hw2 := hw.w2
  have hd0 : decide ((0 : Int) < (m.n : Int)) = true := by simp; omega
  rcases kind_cases dd with hk | hk | hk | hk | hk | hk | hk
  · refine dor_call (k := 0) (w := w) ?_ (law09_lines_do_k0_eq c_law09_lines_do (tK 0) 100 m dd σ _)
    rw [hd0, cond_true, b1, Option.bind_some, b2, Option.bind_some, p1, w_law09_tame, Option.bind_some, tK_eq hk, Option.bind_some, Option.bind_some, Option.bind_some]
    simp only [Heap.back_frz, b3, Option.bind_some, p3, w_cell_Right, p4]
    rw [← b1]
    have hcol : colI dd = dd.A := by unfold colI; rw [if_neg (by omega)]
    have hlin : linI dd = dd.B := by unfold linI; rw [if_neg (by omega)]
    have idl := do_idle (w := w) hm (by omega) (by omega) (by omega) (dd := dd)
    rw [hcol, hlin] at idl
    by_cases c1 : dd.A < 0
    · rw [decide_eq_true c1, cond_true]; exact idl (by omega)
    rw [decide_eq_false c1, cond_false]
    by_cases c2 : dd.B < 0
    · rw [decide_eq_true c2, cond_true]; exact idl (by omega)
    rw [decide_eq_false c2, cond_false]
    by_cases c3 : dd.A ≥ (w : Int)
    · rw [decide_eq_true c3, cond_true]; exact idl (by omega)
    rw [decide_eq_false c3, cond_false]
    by_cases c4 : dd.B ≥ (m.n : Int)
    · rw [decide_eq_true c4, cond_true]; exact idl (by omega)
    rw [decide_eq_false c4, cond_false]
    cases c5 : rightC dd.Cell with
    | false => rw [Bool.not_false, cond_true]; exact idl (.inr (.inr (.inr (.inr ⟨hk, c5⟩))))
    | true =>
      rw [Bool.not_true, cond_false]
      exact do_line hm hw hS (by omega) (by omega) (by omega) (by rw [hcol, hlin, c5]; simp; omega) (.inl hk) hlin
  · refine dor_call (k := 1) (w := w) ?_ (law09_lines_do_k1_eq c_law09_lines_do (tK 1) 100 m dd σ _)
    rw [hd0, cond_true, b1, Option.bind_some, b2, Option.bind_some, p1, w_law09_tame, Option.bind_some, tK_eq hk, Option.bind_some, Option.bind_some, Option.bind_some]
    simp only [Heap.back_frz, b3, Option.bind_some, p4]
    rw [← b1]
    have hcol : colI dd = 0 := by unfold colI; rw [if_pos hk]
    have hlin : linI dd = dd.A := by unfold linI; rw [if_pos hk]
    have idl := do_idle (w := w) hm (by omega) (by omega) (by omega) (dd := dd)
    rw [hcol, hlin] at idl
    by_cases c1 : dd.A < 0
    · rw [decide_eq_true c1, cond_true]; exact idl (by omega)
    rw [decide_eq_false c1, cond_false, show decide ((0 : Int) ≥ (w : Int)) = false by simp; omega, cond_false]
    by_cases c4 : dd.A ≥ (m.n : Int)
    · rw [decide_eq_true c4, cond_true]; exact idl (by omega)
    rw [decide_eq_false c4, cond_false]
    exact do_line hm hw hS (by omega) (by omega) (by omega) (by rw [hcol, hlin]; omega) (.inr (.inl hk)) hlin
  · refine dor_call (k := 2) (w := w) ?_ (law09_lines_do_k2_eq c_law09_lines_do (tK 2) 100 m dd σ _)
    rw [hd0, cond_true, b1, Option.bind_some, b2, Option.bind_some, p1, w_law09_tame, Option.bind_some, tK_eq hk, Option.bind_some]
    simp only [Heap.back_frz, Option.bind_some, p2, w_law09_within]
    obtain ⟨es, h1, h2, h3⟩ := someR_eq dd.A dd.B dd.C (h := ls.length) (by omega)
    have es1 := congrArg Prod.fst es
    have es2 := congrArg (fun t => t.2.1) es
    have es3 := congrArg (fun t => t.2.2) es
    simp only [someR] at es1 es2 es3
    rw [hn, es3, es1, es2]
    obtain ⟨els, i1, i2, i3, i4⟩ := hm
    have hIs : LsIs σ m ls := ⟨els, i1, i2, fun i f l hf hl => (i4 i f l hf hl).1⟩
    have hO0 : outAt els (topN ls.length dd.A) (cntN ls.length dd.A dd.B dd.C) 0 = [] := by unfold outAt; simp
    obtain ⟨σ2, next', nels', out', z1, z2, z3⟩ := up_loop' (e := topN ls.length dd.B) (L := 100) (s := tameS dd.Cell.Style) (t := topN ls.length dd.A) (n := cntN ls.length dd.A dd.B dd.C) (x4 := x) (by omega) hIs i1 rfl hh2 hw1 hw2 b3 h1 (by omega) ls.length 0 100 σ ⟨none, 0, 0⟩ [] ⟨none, 0, 0⟩ (by omega) (by omega) LinesP.start (by rw [hO0]; exact Mine.start σ) (fun c hc => by cases hc)
    refine ⟨(next', out'), σ2, z3, z1.pre, ?_, ?_⟩
    · unfold mdoL
      rw [if_pos hk]
      exact z1.lsIn hS (by omega) (by rw [mapL_len]; omega)
    · unfold mdoO
      rw [if_pos hk]
      have hlen2 : ∀ {α : Type} (xs : List α), (outAt xs (topN ls.length dd.A) (cntN ls.length dd.A dd.B dd.C) ls.length).length = min (cntN ls.length dd.A dd.B dd.C) (min ls.length xs.length - topN ls.length dd.A) := fun xs => by unfold outAt; simp
      refine LsIn.some_of i4 z2 (by rw [hlen2, hlen2, i2]) (by rw [hlen2]; omega) hS fun i hi => ⟨topN ls.length dd.A + i, ?_, ?_⟩
      all_goals
        rw [hlen2] at hi
        unfold outAt
        rw [List.getElem?_take, if_pos (by omega), List.getElem?_drop, List.getElem?_take, if_pos (by omega)]
  · refine dor_call (k := 3) (w := w) ?_ (law09_lines_do_k3_eq c_law09_lines_do (tK 3) 100 m dd σ _)
    rw [hd0, cond_true, b1, Option.bind_some, b2, Option.bind_some, p1, w_law09_tame, Option.bind_some, tK_eq hk, Option.bind_some]
    simp only [Heap.back_frz, Option.bind_some, p2, w_law09_within]
    obtain ⟨es, h1, h2, h3⟩ := someR_eq dd.A dd.B dd.C (h := ls.length) (by omega)
    have es1 := congrArg Prod.fst es
    have es2 := congrArg (fun t => t.2.1) es
    have es3 := congrArg (fun t => t.2.2) es
    simp only [someR] at es1 es2 es3
    rw [hn, es3, es1, es2]
    obtain ⟨σ2, next', nels', z1, z3⟩ := down_loop' (e := topN ls.length dd.B) (L := 100) (s := tameS dd.Cell.Style) (t := topN ls.length dd.A) (n := cntN ls.length dd.A dd.B dd.C) (x4 := x) (by omega) hm.is rfl hh2 hw1 hw2 b3 h1 h2 (by omega) ls.length 0 100 σ ⟨none, 0, 0⟩ [] (by omega) (by omega) LinesP.start
    refine ⟨(next', ⟨none, 0, 0⟩), σ2, z3, z1.pre, ?_, ?_⟩
    · unfold mdoL
      rw [if_neg (by omega), if_pos hk]
      exact z1.lsIn hS (by omega) (by rw [mapL_len]; omega)
    · unfold mdoO
      rw [if_neg (by omega), if_neg (by omega)]
      exact LsIn.nil
  · refine dor_call (k := 4) (w := w) ?_ (law09_lines_do_k4_eq c_law09_lines_do (tK 4) 100 m dd σ _)
    rw [hd0, cond_true, b1, Option.bind_some, b2, Option.bind_some, p1, w_law09_tame, Option.bind_some, tK_eq hk, Option.bind_some, Option.bind_some, Option.bind_some]
    simp only [Heap.back_frz, b3, Option.bind_some, p4]
    rw [← b1]
    have hcol : colI dd = dd.A := by unfold colI; rw [if_neg (by omega)]
    have hlin : linI dd = dd.B := by unfold linI; rw [if_neg (by omega)]
    have idl := do_idle (w := w) hm (by omega) (by omega) (by omega) (dd := dd)
    rw [hcol, hlin] at idl
    by_cases c1 : dd.A < 0
    · rw [decide_eq_true c1, cond_true]; exact idl (by omega)
    rw [decide_eq_false c1, cond_false]
    by_cases c2 : dd.B < 0
    · rw [decide_eq_true c2, cond_true]; exact idl (by omega)
    rw [decide_eq_false c2, cond_false]
    by_cases c3 : dd.A ≥ (w : Int)
    · rw [decide_eq_true c3, cond_true]; exact idl (by omega)
    rw [decide_eq_false c3, cond_false]
    by_cases c4 : dd.B ≥ (m.n : Int)
    · rw [decide_eq_true c4, cond_true]; exact idl (by omega)
    rw [decide_eq_false c4, cond_false]
    exact do_line hm hw hS (by omega) (by omega) (by omega) (by rw [hcol, hlin]; omega) (.inr (.inr (.inl ⟨hk, by omega⟩))) hlin
  · refine dor_call (k := 5) (w := w) ?_ (law09_lines_do_k5_eq c_law09_lines_do (tK 5) 100 m dd σ _)
    rw [hd0, cond_true, b1, Option.bind_some, b2, Option.bind_some, p1, w_law09_tame, Option.bind_some, tK_eq hk, Option.bind_some, Option.bind_some, Option.bind_some]
    simp only [Heap.back_frz, b3, Option.bind_some, p4]
    rw [← b1]
    have hcol : colI dd = dd.A := by unfold colI; rw [if_neg (by omega)]
    have hlin : linI dd = dd.B := by unfold linI; rw [if_neg (by omega)]
    have idl := do_idle (w := w) hm (by omega) (by omega) (by omega) (dd := dd)
    rw [hcol, hlin] at idl
    by_cases c1 : dd.A < 0
    · rw [decide_eq_true c1, cond_true]; exact idl (by omega)
    rw [decide_eq_false c1, cond_false]
    by_cases c2 : dd.B < 0
    · rw [decide_eq_true c2, cond_true]; exact idl (by omega)
    rw [decide_eq_false c2, cond_false]
    by_cases c3 : dd.A ≥ (w : Int)
    · rw [decide_eq_true c3, cond_true]; exact idl (by omega)
    rw [decide_eq_false c3, cond_false]
    by_cases c4 : dd.B ≥ (m.n : Int)
    · rw [decide_eq_true c4, cond_true]; exact idl (by omega)
    rw [decide_eq_false c4, cond_false]
    exact do_line hm hw hS (by omega) (by omega) (by omega) (by rw [hcol, hlin]; omega) (.inr (.inr (.inr hk))) hlin
  · refine dor_call (k := 6) (w := w) ?_ (law09_lines_do_k6_eq c_law09_lines_do (tK 6) 100 m dd σ _)
    rw [hd0, cond_true, b1, Option.bind_some, b2, Option.bind_some, p1, w_law09_tame, Option.bind_some, tK_eq hk, Option.bind_some]
    simp only [Heap.back_frz, Option.bind_some, p2, w_law09_within]
    have hA : ∃ W : Nat, 1 ≤ W ∧ W ≤ 60 ∧ within dd.A 1 60 = (W : Int) := bring_nat dd.A
    have hB : ∃ H : Nat, 1 ≤ H ∧ H ≤ 60 ∧ within dd.B 1 60 = (H : Int) := bring_nat dd.B
    obtain ⟨W, hW1, hW2, eW⟩ := hA
    obtain ⟨H, hH1, hH2, eH⟩ := hB
    obtain ⟨a, ha, ea⟩ := within_nat dd.C ls.length
    have eaT : topN ls.length dd.C = a := by unfold topN; rw [ea]; rfl
    rw [hn, ea, eH]
    obtain ⟨σ2, next', nels', z1, z3⟩ := size_loop (L := 100) (W := W) (H := H) (away := a) (dd := dd) (by omega) hm.is hW1 hW2 hH2 ha (by omega) eW H 0 100 σ ⟨none, 0, 0⟩ [] (by omega) (by omega) LinesP.start
    refine ⟨(next', ⟨m.b, m.o, a⟩), σ2, z3, z1.pre, ?_, ?_⟩
    · unfold mdoL
      rw [if_neg (by omega), if_neg (by omega), if_pos hk, eW, eH, eaT]
      exact z1.lsIn hS (by omega) (by rw [mapL_len]; omega)
    · unfold mdoO
      rw [if_neg (by omega), if_pos hk, eaT]
      obtain ⟨els, i1, i2, i3, i4⟩ := hm.pre z1.pre
      refine ⟨els.take a, i1.take (by omega), by simp [i2], i3, fun i f l hf hl => ?_⟩
      rw [List.getElem?_take] at hf hl
      split at hf
      · rw [if_pos (by assumption)] at hl
        exact i4 i f l hf hl
      · cases hf
theorem w_law09_lines_do_ex (hm : LsIn S σ m ls) (hw : WideL ls w) (hS : ∀ c, σ.length ≤ c → S c) : ∃ v σ', w_law09_lines_do m dd σ = some (v, σ') ∧ σ <+: σ' ∧ LsIn S σ' v.1 (mdoL w ls dd) ∧ LsIn S σ' v.2 (mdoO ls dd) := by
  have hm0 := hm
  obtain ⟨els, i1, i2, i3, i4⟩ := hm0
  have h0 : LsIn (fun c => m.b = some c ∨ (∃ f ∈ els, f.b = some c) ∨ σ.length ≤ c) σ m ls := ⟨els, i1, i2, fun c hc => .inl hc, fun i f l hf hl => ⟨(i4 i f l hf hl).1, fun c hc => .inr (.inl ⟨f, List.mem_of_getElem? hf, hc⟩)⟩⟩
  obtain ⟨v, σ', h1, h2, h3, h4⟩ := do_go (dd := dd) h0 hw fun c hc => .inr (.inr hc)
  have hP : DoP σ m dd v σ' := fun S' ls' w' hm' hw' hS' => by
    obtain rfl := hm'.is.uniq hm.is
    have hww : w' = w := by
      have h0 := List.getElem?_eq_getElem (show 0 < ls'.length from hw.h1)
      rw [← hw.at_ h0, ← hw'.at_ h0]
    subst hww
    obtain ⟨els', j1, j2, j3, j4⟩ := hm'
    obtain rfl := j1.uniq (by decide) i1
    have hsub : ∀ c, (m.b = some c ∨ (∃ f ∈ els', f.b = some c) ∨ σ.length ≤ c) → S' c := fun c hc => by
      rcases hc with hc | ⟨f, hf, hc⟩ | hc
      · exact j3 c hc
      · obtain ⟨i, hi⟩ := List.mem_iff_getElem?.1 hf
        have hil := (List.getElem?_eq_some_iff.1 hi).1
        exact (j4 i f _ hi (List.getElem?_eq_getElem (by omega))).2 c hc
      · exact hS' c hc
    exact ⟨h2, h3.mono hsub, h4.mono hsub⟩
  obtain ⟨x, hx, hQ⟩ := wRel_ex (P := fun v σ' => CallOK Tryd.prog T 51 [(tSl 1).av m, t_law09_Deed.av dd] σ ((tPair (tSl 1) (tSl 1)).av v) σ' ∧ DoP σ m dd v σ') ⟨h1, hP⟩
  exact ⟨x.1, x.2, hx, hQ.2 S ls w hm hw hS⟩
end
end Go.Abs.TA
namespace Go.Abs.TA
open Go Go.Abs Go.Proofs

theorem mapN_ext {w : Nat} {f : Nat → api_Cell} {l : List api_Cell} (hl : l.length = w) (h : ∀ x, x < w → l[x]? = some (f x)) : mapN w f = l := by
  apply List.ext_getElem?
  intro j
  by_cases hj : j < w
  · rw [mapN_get hj, h j hj]
  · rw [List.getElem?_eq_none (by rw [mapN_len]; omega), List.getElem?_eq_none (by omega)]
theorem atC_get {l : List api_Cell} {x : Nat} (h : x < l.length) : l[x]? = some (atC l x) := by
  rw [List.getElem?_eq_getElem h]
  congr 1
  exact (atC_of (List.getElem?_eq_getElem h)).symm
theorem line_put {l : List api_Cell} {dd : law09_Deed} {i : Nat} (hA : dd.A = (i : Int)) (hi : i < l.length) : mend (mapN l.length (pc0 dd l)) = putL l i dd.Cell := by
  unfold putL
  congr 1
  cases hw : wide dd.Cell.Rune with
  | false =>
    rw [cond_false]
    refine mapN_ext (by simp) fun x hx => ?_
    rw [List.getElem?_set]
    unfold pc0
    by_cases c : i = x
    · rw [if_pos c, if_pos (by omega), if_pos (by omega)]
    · rw [if_neg c, if_neg (by omega), hw, if_neg (by simp), atC_get hx]
  | true =>
    rw [cond_true]
    by_cases h1 : i + 1 < l.length
    · rw [if_pos h1]
      refine mapN_ext (by simp) fun x hx => ?_
      rw [List.getElem?_set, List.getElem?_set]
      unfold pc0
      by_cases c : i + 1 = x
      · rw [if_pos c, if_pos (by simp; omega), if_neg (by omega), if_pos ⟨by omega, hw⟩]
      · rw [if_neg c]
        by_cases c2 : i = x
        · rw [if_pos c2, if_pos (by omega), if_pos (by omega)]
        · rw [if_neg c2, if_neg (by omega), if_neg (by omega), atC_get hx]
    · rw [if_neg h1]
      refine mapN_ext (by simp) fun x hx => ?_
      rw [List.getElem?_set]
      unfold pc0
      by_cases c2 : i = x
      · rw [if_pos c2, if_pos (by omega), if_pos (by omega)]
      · rw [if_neg c2, if_neg (by omega), if_neg (by omega), atC_get hx]
/-- A part of a line is blank. -/
theorem clear_get {l : List api_Cell} {a b : Int} {s : api_Style} (x : Nat) (hx : x < l.length) : (clearL l a b s)[x]? = if a ≤ (x : Int) ∧ (x : Int) < b then some (blankC s) else l[x]? := by
  unfold clearL
  have hA : ∃ A : Nat, (if (0 : Int) > a then (0 : Int) else a) = (A : Int) ∧ ((A : Int) = a ∨ (A = 0 ∧ a < 0)) := ⟨(if (0 : Int) > a then (0 : Int) else a).toNat, by split <;> omega, by split <;> omega⟩
  obtain ⟨A, eA, hA⟩ := hA
  rw [eA, Int.toNat_natCast]
  have hB : ∃ B : Nat, (if (l.length : Int) < b then (l.length : Int) else b).toNat = B ∧ B ≤ l.length ∧ ((B : Int) = b ∨ (B = l.length ∧ (l.length : Int) < b) ∨ (B = 0 ∧ b < 0)) := ⟨(if (l.length : Int) < b then (l.length : Int) else b).toNat, rfl, by split <;> omega, by split <;> omega⟩
  obtain ⟨B, eB, hB1, hB2⟩ := hB
  rw [eB]
  by_cases h : A ≤ B
  · rw [over_get (by simp; omega)]
    simp only [List.length_replicate]
    by_cases c1 : x < A
    · rw [if_pos c1, if_neg (by omega)]
    · rw [if_neg c1]
      by_cases c2 : x < A + (B - A)
      · rw [if_pos c2, if_pos (by omega), List.getElem?_replicate, if_pos (by omega)]
      · rw [if_neg c2, if_neg (by omega)]
  · rw [show B - A = 0 by omega, List.replicate_zero, over_nil, if_neg (by omega)]
theorem clear_len {l : List api_Cell} {a b : Int} {s : api_Style} : (clearL l a b s).length = l.length := by
  unfold clearL
  by_cases h : (if (0 : Int) > a then (0 : Int) else a).toNat ≤ (if (l.length : Int) < b then (l.length : Int) else b).toNat
  · apply over_len
    simp only [List.length_replicate]
    have : (if (l.length : Int) < b then (l.length : Int) else b).toNat ≤ l.length := by split <;> omega
    omega
  · rw [show (if (l.length : Int) < b then (l.length : Int) else b).toNat - (if (0 : Int) > a then (0 : Int) else a).toNat = 0 by omega, List.replicate_zero, over_nil]
theorem line_clear {l : List api_Cell} {dd : law09_Deed} {s : api_Style} : mapN l.length (pc1 dd s l) = clearL l dd.B dd.C s := by
  refine mapN_ext clear_len fun x hx => ?_
  rw [clear_get x hx]
  unfold pc1
  split
  · rfl
  · exact atC_get hx
theorem cutN_le {w i : Nat} (n : Int) (h : i < w) (hw : w ≤ 60) : ∃ m : Nat, cutN w (i : Int) n = (m : Int) ∧ m = min (within n 0 (w : Int)).toNat (w - i) := by
  refine ⟨(cutN w (i : Int) n).toNat, ?_, ?_⟩
  · unfold cutN
    rw [wrap_i64_of (by omega) (by omega)]
    repeat' split
    all_goals omega
  · unfold cutN within
    rw [wrap_i64_of (by omega) (by omega)]
    repeat' split
    all_goals omega
theorem openL_len {l : List api_Cell} {x m : Nat} (h : x + m ≤ l.length) : (openL l x m).length = l.length := by
  unfold openL
  apply over_len
  simp
  omega
theorem openL_get {l : List api_Cell} {x m : Nat} (h : x + m ≤ l.length) {j : Nat} (hj : j < l.length) : (openL l x m)[j]? = if j < x + m then l[j]? else l[j - m]? := by
  unfold openL
  rw [over_get (by simp; omega)]
  by_cases c : j < x + m
  · rw [if_pos c, if_pos c]
  · rw [if_neg c, if_neg c, if_pos (by simp; omega), List.getElem?_take, if_pos (by omega), List.getElem?_drop]
    congr 1
    omega
theorem shutL_len {l : List api_Cell} {x m : Nat} (h : x + m ≤ l.length) : (shutL l x m).length = l.length := by
  unfold shutL
  apply over_len
  simp
  omega
theorem shutL_get {l : List api_Cell} {x m : Nat} (h : x + m ≤ l.length) {j : Nat} : (shutL l x m)[j]? = if j < x then l[j]? else if j + m < l.length then l[j + m]? else l[j]? := by
  unfold shutL
  rw [over_get (by simp; omega)]
  by_cases c : j < x
  · rw [if_pos c, if_pos c]
  · rw [if_neg c, if_neg c]
    by_cases c2 : j + m < l.length
    · rw [if_pos c2, if_pos (by simp; omega), List.getElem?_drop]
      congr 1
      omega
    · rw [if_neg c2, if_neg (by simp; omega)]
theorem line_open {l : List api_Cell} {dd : law09_Deed} {s : api_Style} {i m : Nat} (hA : dd.A = (i : Int)) (hi : i < l.length) {N : Nat} (hm : m = min N (l.length - i)) :
    mapN l.length (pc4 dd s N l) = clearL (openL l i m) (i : Int) ((i : Int) + m) s := by
  have hl := openL_len (l := l) (x := i) (m := m) (by omega)
  refine mapN_ext (by rw [clear_len, hl]) fun x hx => ?_
  rw [clear_get x (by omega), openL_get (by omega) hx]
  unfold pc4
  rw [hA]
  by_cases c1 : (i : Int) ≤ (x : Int)
  · rw [if_pos c1]
    by_cases c2 : (i : Int) ≤ (x : Int) - (N : Int)
    · rw [if_pos c2, if_neg (by omega), if_neg (by omega), show m = N by omega, atC_get (by omega)]
    · rw [if_neg c2, if_pos (by omega)]
  · rw [if_neg c1, if_neg (by omega), if_pos (by omega), atC_get hx]
theorem line_shut {l : List api_Cell} {dd : law09_Deed} {s : api_Style} {i m : Nat} (hA : dd.A = (i : Int)) (hi : i < l.length) {N : Nat} (hm : m = min N (l.length - i)) :
    mapN l.length (pc5 dd s N l) = clearL (shutL l i m) ((l.length : Int) - m) l.length s := by
  have hl := shutL_len (l := l) (x := i) (m := m) (by omega)
  refine mapN_ext (by rw [clear_len, hl]) fun x hx => ?_
  rw [clear_get x (by omega), shutL_get (by omega)]
  unfold pc5
  rw [hA]
  by_cases c1 : (i : Int) ≤ (x : Int)
  · rw [if_pos c1]
    by_cases c2 : x + N < l.length
    · rw [if_neg (by omega), if_neg (by omega), if_pos (by omega), show m = N by omega, List.getElem?_eq_getElem c2]
    · rw [if_pos (by omega), List.getElem?_eq_none (by omega)]
  · rw [if_neg c1, if_neg (by omega), if_pos (by omega), atC_get hx]
section
variable {ls : List (List api_Cell)} {w : Nat} {dd : law09_Deed}
theorem getD_of {j : Nat} {l : List api_Cell} (h : ls[j]? = some l) : ls.getD j [] = l := by rw [List.getD_eq_getElem?_getD, h]; rfl
theorem rowV_at {s : api_Style} {y : Nat} {l : List api_Cell} (hl : ls[y]? = some l) (hw : l.length = w) : rowV ls w s (y : Int) = l := by
  unfold rowV
  refine mapN_ext hw fun x hx => ?_
  unfold rdC
  rw [if_pos (by omega), Int.toNat_natCast, hl]
  simp only [Int.toNat_natCast]
  rw [List.getElem?_eq_getElem (by omega)]
theorem mapN_const (w : Nat) (c : api_Cell) : mapN w (fun _ => c) = List.replicate w c := by
  refine mapN_ext (by simp) fun x hx => ?_
  rw [List.getElem?_replicate, if_pos hx]
theorem rowV_neg {s : api_Style} : rowV ls w s (-1) = List.replicate w (blankC s) := mapN_const w (blankC s)
theorem rowB_in {y : Nat} {l : List api_Cell} (hl : ls[y]? = some l) : rowB ls w y = gf l w := by
  unfold rowB
  refine mapN_ext (gf_len l w) fun x hx => ?_
  unfold rdC gf
  rw [if_pos (by omega), Int.toNat_natCast, hl]
  simp only [Int.toNat_natCast]
  by_cases c : x < l.length
  · rw [List.getElem?_append_left (by simp; omega), List.getElem?_take, if_pos hx, List.getElem?_eq_getElem c]
  · rw [List.getElem?_append_right (by simp; omega), List.getElem?_eq_none (show l.length ≤ x by omega), List.getElem?_replicate, if_pos (by simp; omega)]
    rfl
theorem rowB_out {y : Nat} (hy : ls.length ≤ y) : rowB ls w y = List.replicate w bl0 := by
  unfold rowB
  have : ∀ x : Nat, rdC ls (x : Int) (y : Int) ⟨false, false, false, 0, 0⟩ = bl0 := fun x => by
    unfold rdC
    rw [if_pos (by omega), Int.toNat_natCast, List.getElem?_eq_none hy]
    rfl
  rw [funext this]
  exact mapN_const w bl0
theorem mapL_ext {h : Nat} {f : Nat → List api_Cell} {ls : List (List api_Cell)} (hl : ls.length = h) (hf : ∀ y, y < h → ls[y]? = some (f y)) : mapL h f = ls := by
  apply List.ext_getElem?
  intro j
  by_cases hj : j < h
  · rw [mapL_get hj, hf j hj]
  · rw [List.getElem?_eq_none (by rw [mapL_len]; omega), List.getElem?_eq_none (by omega)]
theorem up_same (hw : WideL ls w) {t e n : Nat} {s : api_Style} (he : e ≤ ls.length) (hn : n ≤ e - t) : mapL ls.length (fun y => rowV ls w s (fromU t e n y)) = upN ls t e (List.replicate w (blankC s)) n := by
  by_cases hte : t < e
  · refine mapL_ext (upN_len hte n ls he) fun y hy => ?_
    rw [upN_get hte n ls he hn]
    have hly := List.getElem?_eq_getElem hy
    unfold fromU
    by_cases c1 : y < t
    · rw [if_pos c1, if_neg (by omega), hly, rowV_at hly (hw.at_ hly)]
    · rw [if_neg c1]
      by_cases c2 : y + n < e
      · have hl2 := List.getElem?_eq_getElem (show y + n < ls.length by omega)
        rw [if_pos c2, if_pos (by omega), if_neg (by omega), hl2, rowV_at hl2 (hw.at_ hl2)]
      · rw [if_neg c2]
        by_cases c3 : y < e
        · rw [if_pos c3, if_pos (by omega), if_pos (by omega), rowV_neg]
        · rw [if_neg c3, if_neg (by omega), hly, rowV_at hly (hw.at_ hly)]
  · rw [show n = 0 by omega, upN]
    refine mapL_ext rfl fun y hy => ?_
    have hly := List.getElem?_eq_getElem hy
    unfold fromU
    rw [if_neg (by omega), hly, rowV_at hly (hw.at_ hly)]
theorem down_same (hw : WideL ls w) {t e n : Nat} {s : api_Style} (he : e ≤ ls.length) (hn : n ≤ e - t) : mapL ls.length (fun y => rowV ls w s (fromD t e n y)) = downN ls t e (List.replicate w (blankC s)) n := by
  by_cases hte : t < e
  · refine mapL_ext (downN_len hte n ls he) fun y hy => ?_
    rw [downN_get hte n ls he hn]
    have hly := List.getElem?_eq_getElem hy
    unfold fromD
    by_cases c1 : y < t
    · rw [if_pos c1, if_neg (by omega), hly, rowV_at hly (hw.at_ hly)]
    · rw [if_neg c1]
      by_cases c2 : y < t + n
      · rw [if_pos c2, if_pos (by omega), if_pos c2, rowV_neg]
      · rw [if_neg c2]
        by_cases c3 : y < e
        · have hl2 := List.getElem?_eq_getElem (show y - n < ls.length by omega)
          rw [if_pos c3, if_pos (by omega), if_neg c2, hl2, rowV_at hl2 (hw.at_ hl2)]
        · rw [if_neg c3, if_neg (by omega), hly, rowV_at hly (hw.at_ hly)]
  · rw [show n = 0 by omega, downN]
    refine mapL_ext rfl fun y hy => ?_
    have hly := List.getElem?_eq_getElem hy
    unfold fromD
    rw [if_neg (by omega), hly, rowV_at hly (hw.at_ hly)]
theorem size_same (hG : Good ls) {W H a : Nat} : mapL H (fun y => mend (rowB ls W (y + a))) = resizeL ls W H a := by
  refine mapL_ext resizeL_len fun y hy => ?_
  unfold resizeL
  by_cases c : y + a < ls.length
  · have hl := List.getElem?_eq_getElem c
    have hd : (ls.drop a)[y]? = some ls[y + a] := by rw [List.getElem?_drop, Nat.add_comm, hl]
    obtain ⟨g1, g2⟩ := hG _ (List.getElem_mem c)
    rw [List.getElem?_append_left (by simp; omega), List.getElem?_map, List.getElem?_take, if_pos hy, hd, rowB_in hl, Option.map_some, fit_gf g1 g2]
  · rw [List.getElem?_append_right (by simp; omega), List.getElem?_replicate, if_pos (by simp; omega), rowB_out (by omega)]
    congr 1
    exact (mend_blank _ W).symm
/-- A line that is turned and cleared, as the grid does. -/
theorem turn_clear {j : Nat} {l : List api_Cell} {f : List api_Cell → List api_Cell} {a b : Int} {s : api_Style} (hl : ls[j]? = some l) (hw1 : 1 ≤ w) : clearG w (atLine ls (j : Int) f) (j : Int) a b s = ls.set j (mend (clearL (f l) a b s)) := by
  have hj := (List.getElem?_eq_some_iff.1 hl).1
  unfold clearG
  rw [atLine_len, show thereB 0 (j : Int) w ls.length = true from thereB_iff.2 ⟨by omega, by omega, by omega, by omega⟩, cond_true, atLine_nat hl]
  have hl2 : (ls.set j (f l))[j]? = some (f l) := by simp [hj]
  rw [atLine_nat hl2, List.set_set]
theorem kindB (dd : law09_Deed) (k : Int) : (kindI dd == k) = decide (kindI dd = k) := by
  by_cases h : kindI dd = k <;> simp [h]
theorem mdo_same (hw : WideL ls w) (hG : Good ls) : mdoL w ls dd = doL w ls dd ∧ mdoO ls dd = doO w ls dd := by
  have hh2 := hw.h2
  have hw1 := hw.w1
  have hw2 := hw.w2
  obtain ⟨es, h1, h2, h3⟩ := someR_eq dd.A dd.B dd.C (h := ls.length) (by omega)
  unfold doL doO
  simp only [kindB]
  rcases kind_cases dd with hk | hk | hk | hk | hk | hk | hk
  · simp only [hk, decide_true, cond_true]
    have hcol : colI dd = dd.A := by unfold colI; rw [if_neg (by omega)]
    have hlin : linI dd = dd.B := by unfold linI; rw [if_neg (by omega)]
    unfold putG
    by_cases hi : colI dd < 0 ∨ linI dd < 0 ∨ colI dd ≥ w ∨ linI dd ≥ ls.length ∨ (kindI dd = 0 ∧ rightC dd.Cell = false)
    · obtain ⟨e1, e2⟩ := mdo_idle (w := w) (ls := ls) (by omega) (by omega) (by omega) hi
      rw [e1, e2]
      rw [hcol, hlin] at hi
      have : (thereB dd.A dd.B w ls.length && rightC dd.Cell) = false := by
        rw [Bool.and_eq_false_iff]
        rcases hi with hi | hi | hi | hi | hi
        · left; rw [← Bool.not_eq_true, thereB_iff]; omega
        · left; rw [← Bool.not_eq_true, thereB_iff]; omega
        · left; rw [← Bool.not_eq_true, thereB_iff]; omega
        · left; rw [← Bool.not_eq_true, thereB_iff]; omega
        · exact .inr hi.2
      rw [this]
      exact ⟨rfl, rfl⟩
    · obtain ⟨e1, e2⟩ := mdo_line (w := w) (ls := ls) (by omega) (by omega) (by omega) hi
      rw [hcol, hlin] at hi
      obtain ⟨i, hA⟩ := Int.eq_ofNat_of_zero_le (show 0 ≤ dd.A by omega)
      obtain ⟨j, hB⟩ := Int.eq_ofNat_of_zero_le (show 0 ≤ dd.B by omega)
      have hl := List.getElem?_eq_getElem (show j < ls.length by omega)
      have hlw := hw.at_ hl
      have hr : rightC dd.Cell = true := by
        cases h : rightC dd.Cell with
        | true => rfl
        | false => exact absurd (.inr (.inr (.inr (.inr ⟨hk, h⟩)))) hi
      rw [e1, e2, hlin, hB, hA, hr, show thereB (i : Int) (j : Int) w ls.length = true from thereB_iff.2 ⟨by omega, by omega, by omega, by omega⟩, Bool.and_self, cond_true, Int.toNat_natCast, Int.toNat_natCast, atLine_nat hl, getD_of hl]
      have hF : lineF w dd ls[j] = pc0 dd ls[j] := by unfold lineF; rw [if_pos hk]
      have := line_put (l := ls[j]) hA (by omega)
      rw [hlw] at this
      exact ⟨by unfold lineV; rw [hF, this], rfl⟩
  · simp only [hk, decide_true, cond_true, show decide ((1 : Int) = 0) = false from rfl, cond_false]
    have hcol : colI dd = 0 := by unfold colI; rw [if_pos hk]
    have hlin : linI dd = dd.A := by unfold linI; rw [if_pos hk]
    unfold clearG
    by_cases hi : colI dd < 0 ∨ linI dd < 0 ∨ colI dd ≥ w ∨ linI dd ≥ ls.length ∨ (kindI dd = 0 ∧ rightC dd.Cell = false)
    · obtain ⟨e1, e2⟩ := mdo_idle (w := w) (ls := ls) (by omega) (by omega) (by omega) hi
      rw [e1, e2]
      rw [hcol, hlin] at hi
      have : thereB 0 dd.A w ls.length = false := by rw [← Bool.not_eq_true, thereB_iff]; omega
      rw [this]
      exact ⟨rfl, rfl⟩
    · obtain ⟨e1, e2⟩ := mdo_line (w := w) (ls := ls) (by omega) (by omega) (by omega) hi
      rw [hcol, hlin] at hi
      obtain ⟨j, hB⟩ := Int.eq_ofNat_of_zero_le (show 0 ≤ dd.A by omega)
      have hl := List.getElem?_eq_getElem (show j < ls.length by omega)
      have hlw := hw.at_ hl
      rw [e1, e2, hlin, hB, show thereB 0 (j : Int) w ls.length = true from thereB_iff.2 ⟨by omega, by omega, by omega, by omega⟩, cond_true, Int.toNat_natCast, atLine_nat hl, getD_of hl]
      have hF : lineF w dd ls[j] = pc1 dd (tameS dd.Cell.Style) ls[j] := by unfold lineF; rw [if_neg (by omega), if_pos hk]
      have := line_clear (l := ls[j]) (dd := dd) (s := tameS dd.Cell.Style)
      rw [hlw] at this
      exact ⟨by unfold lineV; rw [hF, this], rfl⟩
  · simp only [hk, decide_true, cond_true, show decide ((2 : Int) = 0) = false from rfl, show decide ((2 : Int) = 1) = false from rfl, cond_false]
    unfold mdoL mdoO upG upO
    rw [if_pos hk, if_pos hk, up_same hw h2 h3, outAt_all]
    refine ⟨rfl, ?_⟩
    by_cases hte : topN ls.length dd.A < topN ls.length dd.B
    · rw [upOut_get hte _ _ h2 h3]
    · rw [show cntN ls.length dd.A dd.B dd.C = 0 by omega]
      rfl
  · simp only [hk, decide_true, cond_true, show decide ((3 : Int) = 0) = false from rfl, show decide ((3 : Int) = 1) = false from rfl, show decide ((3 : Int) = 2) = false from rfl, cond_false]
    unfold mdoL mdoO downG
    rw [if_neg (by omega), if_pos hk, if_neg (by omega), if_neg (by omega), down_same hw h2 h3]
    exact ⟨rfl, rfl⟩
  · simp only [hk, decide_true, cond_true, show decide ((4 : Int) = 0) = false from rfl, show decide ((4 : Int) = 1) = false from rfl, show decide ((4 : Int) = 2) = false from rfl, show decide ((4 : Int) = 3) = false from rfl, cond_false]
    have hcol : colI dd = dd.A := by unfold colI; rw [if_neg (by omega)]
    have hlin : linI dd = dd.B := by unfold linI; rw [if_neg (by omega)]
    unfold openG
    by_cases hi : colI dd < 0 ∨ linI dd < 0 ∨ colI dd ≥ w ∨ linI dd ≥ ls.length ∨ (kindI dd = 0 ∧ rightC dd.Cell = false)
    · obtain ⟨e1, e2⟩ := mdo_idle (w := w) (ls := ls) (by omega) (by omega) (by omega) hi
      rw [e1, e2]
      rw [hcol, hlin] at hi
      have : thereB dd.A dd.B w ls.length = false := by rw [← Bool.not_eq_true, thereB_iff]; omega
      rw [this]
      exact ⟨rfl, rfl⟩
    · obtain ⟨e1, e2⟩ := mdo_line (w := w) (ls := ls) (by omega) (by omega) (by omega) hi
      rw [hcol, hlin] at hi
      obtain ⟨i, hA⟩ := Int.eq_ofNat_of_zero_le (show 0 ≤ dd.A by omega)
      obtain ⟨j, hB⟩ := Int.eq_ofNat_of_zero_le (show 0 ≤ dd.B by omega)
      have hl := List.getElem?_eq_getElem (show j < ls.length by omega)
      have hlw := hw.at_ hl
      obtain ⟨m, hm, hm2⟩ := cutN_le (w := w) (i := i) dd.C (by omega) hw2
      have hF : lineF w dd ls[j] = pc4 dd (tameS dd.Cell.Style) (within dd.C 0 w).toNat ls[j] := by unfold lineF; rw [if_neg (by omega), if_neg (by omega), if_pos hk]
      have := line_open (l := ls[j]) (s := tameS dd.Cell.Style) (m := m) hA (by omega) (N := (within dd.C 0 (w : Int)).toNat) (by rw [hlw]; exact hm2)
      rw [hlw] at this
      rw [e1, e2, hlin, hB, hA, show thereB (i : Int) (j : Int) w ls.length = true from thereB_iff.2 ⟨by omega, by omega, by omega, by omega⟩, cond_true, turn_clear hl hw1, Int.toNat_natCast, Int.toNat_natCast, getD_of hl, hm, Int.toNat_natCast]
      exact ⟨by unfold lineV; rw [hF, this], rfl⟩
  · simp only [hk, decide_true, cond_true, show decide ((5 : Int) = 0) = false from rfl, show decide ((5 : Int) = 1) = false from rfl, show decide ((5 : Int) = 2) = false from rfl, show decide ((5 : Int) = 3) = false from rfl, show decide ((5 : Int) = 4) = false from rfl, cond_false]
    have hcol : colI dd = dd.A := by unfold colI; rw [if_neg (by omega)]
    have hlin : linI dd = dd.B := by unfold linI; rw [if_neg (by omega)]
    unfold shutG
    by_cases hi : colI dd < 0 ∨ linI dd < 0 ∨ colI dd ≥ w ∨ linI dd ≥ ls.length ∨ (kindI dd = 0 ∧ rightC dd.Cell = false)
    · obtain ⟨e1, e2⟩ := mdo_idle (w := w) (ls := ls) (by omega) (by omega) (by omega) hi
      rw [e1, e2]
      rw [hcol, hlin] at hi
      have : thereB dd.A dd.B w ls.length = false := by rw [← Bool.not_eq_true, thereB_iff]; omega
      rw [this]
      exact ⟨rfl, rfl⟩
    · obtain ⟨e1, e2⟩ := mdo_line (w := w) (ls := ls) (by omega) (by omega) (by omega) hi
      rw [hcol, hlin] at hi
      obtain ⟨i, hA⟩ := Int.eq_ofNat_of_zero_le (show 0 ≤ dd.A by omega)
      obtain ⟨j, hB⟩ := Int.eq_ofNat_of_zero_le (show 0 ≤ dd.B by omega)
      have hl := List.getElem?_eq_getElem (show j < ls.length by omega)
      have hlw := hw.at_ hl
      obtain ⟨m, hm, hm2⟩ := cutN_le (w := w) (i := i) dd.C (by omega) hw2
      have hF : lineF w dd ls[j] = pc5 dd (tameS dd.Cell.Style) (within dd.C 0 w).toNat ls[j] := by unfold lineF; rw [if_neg (by omega), if_neg (by omega), if_neg (by omega)]
      have := line_shut (l := ls[j]) (s := tameS dd.Cell.Style) (m := m) hA (by omega) (N := (within dd.C 0 (w : Int)).toNat) (by rw [hlw]; exact hm2)
      rw [hlw] at this
      rw [e1, e2, hlin, hB, hA, show thereB (i : Int) (j : Int) w ls.length = true from thereB_iff.2 ⟨by omega, by omega, by omega, by omega⟩, cond_true, turn_clear hl hw1, Int.toNat_natCast, Int.toNat_natCast, getD_of hl, hm, Int.toNat_natCast]
      exact ⟨by unfold lineV; rw [hF, this], rfl⟩
  · simp only [hk, show decide ((6 : Int) = 0) = false from rfl, show decide ((6 : Int) = 1) = false from rfl, show decide ((6 : Int) = 2) = false from rfl, show decide ((6 : Int) = 3) = false from rfl, show decide ((6 : Int) = 4) = false from rfl, show decide ((6 : Int) = 5) = false from rfl, cond_false]
    unfold mdoL mdoO resizeG
    rw [if_neg (by omega), if_neg (by omega), if_pos hk, if_neg (by omega), if_pos hk, size_same hG]
    exact ⟨rfl, rfl⟩
end
end Go.Abs.TA
