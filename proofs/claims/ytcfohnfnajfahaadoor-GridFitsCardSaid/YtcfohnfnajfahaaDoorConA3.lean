/-
The function cell.Mend, and what fit needs.
-/
import Derived.Test.YtcfohnfnajfahaaDoorConA2
namespace Go.Abs.TA
open Go Go.Abs Go.Proofs

theorem store_rune {s : Sl} {σ : Heap} {ys : List api_Cell} (h : s.Own eCell σ ys) {i : Nat} {y : api_Cell} (hi : ys[i]? = some y) (r : Int) :
    ∃ b σ', s.b = some b ∧ σ.store b (s.o + i * 6) [.int .i32 r] = some σ' ∧ s.Own eCell σ' (ys.set i { y with Rune := r }) ∧ σ'.length = σ.length ∧ ∀ b', b' ≠ b → σ'[b']? = σ[b']? := by
  have hlt := (List.getElem?_eq_some_iff.1 hi).1
  have hb : ∃ b, s.b = some b ∧ s.o = 0 := by
    cases h with
    | nil _ _ _ hx => subst hx; simp at hi
    | row b hb ho _ _ => exact ⟨b, hb, ho⟩
  obtain ⟨b, hb, ho⟩ := hb
  have e := eCell.all_set ys hi { y with Rune := r } [] [.int .i32 y.Rune] [.bool y.Style.Bold, .bool y.Style.Under, .bool y.Style.Turned, .int .i64 y.Style.Fore, .int .i64 y.Style.Back] rfl (vs := [.int .i32 r]) rfl rfl (j := 0) rfl
  obtain ⟨σ', h1, h2, h3, h4⟩ := store_own h hb (o := i * 6) (vs := [.int .i32 r]) e (by simp) (by show i * 6 + 1 ≤ ys.length * 6; omega)
  exact ⟨b, σ', hb, by rw [ho, Nat.zero_add]; exact h1, h2, h3, h4⟩

def mendAt (xs : List api_Cell) (i : Nat) (c : api_Cell) : api_Cell := if (c.Rune = 0 ∧ paired xs ((i : Int) - 1) = false) ∨ (wide c.Rune = true ∧ paired xs i = false) then { c with Rune := 32 } else c
def mend (xs : List api_Cell) : List api_Cell := xs.mapIdx (mendAt xs)
def mendTo (xs : List api_Cell) (k : Nat) : List api_Cell := xs.mapIdx fun i c => if i < k then mendAt xs i c else c
theorem mendTo_zero (xs : List api_Cell) : mendTo xs 0 = xs := by
  apply List.ext_getElem?
  intro i
  simp [mendTo]
theorem mendTo_all (xs : List api_Cell) : mendTo xs xs.length = mend xs := by
  apply List.ext_getElem?
  intro i
  simp only [mendTo, mend, List.getElem?_mapIdx]
  cases h : xs[i]? with
  | none => rfl
  | some c => simp [(List.getElem?_eq_some_iff.1 h).1]
theorem mendTo_get (xs : List api_Cell) {i : Nat} {c : api_Cell} (h : xs[i]? = some c) : (mendTo xs i)[i]? = some c := by
  simp [mendTo, List.getElem?_mapIdx, h]
theorem mendTo_len (xs : List api_Cell) (k : Nat) : (mendTo xs k).length = xs.length := by simp [mendTo]
theorem mendTo_succ (xs : List api_Cell) {i : Nat} {c : api_Cell} (h : xs[i]? = some c) : mendTo xs (i + 1) = (mendTo xs i).set i (mendAt xs i c) := by
  apply List.ext_getElem?
  intro j
  simp only [mendTo, List.getElem?_set, List.getElem?_mapIdx, List.length_mapIdx]
  by_cases hj : i = j
  · subst hj
    have h' := (List.getElem?_eq_some_iff.1 h).2
    simp [(List.getElem?_eq_some_iff.1 h).1, h']
  · rw [if_neg hj]
    cases hx : xs[j]? with
    | none => rfl
    | some d =>
      simp only [Option.map_some]
      by_cases h1 : j < i
      · simp [h1, show j < i + 1 by omega]
      · simp [h1, show ¬ j < i + 1 by omega]
theorem mendTo_stay (xs : List api_Cell) {i : Nat} {c : api_Cell} (h : xs[i]? = some c) (hc : mendAt xs i c = c) : mendTo xs (i + 1) = mendTo xs i := by
  rw [mendTo_succ xs h, hc]
  exact List.ext_getElem? fun j => by
    rw [List.getElem?_set]
    split
    · rename_i e; subst e
      split
      · rw [mendTo_get xs h]
      · rename_i hl; rw [List.getElem?_eq_none (by omega)]
    · rfl

noncomputable def c_cell_Mend : C_cell_Mend := ⟨w_slices_Clone, w_cell_paired, w_glyph_Wide⟩
theorem cell_Mend_loop {R : Type} {L : Nat} {l out : Sl} {σ0 : Heap} {K : AVal → Heap → Option R} {xs : List api_Cell} (hl : l.Is eCell σ0 xs) (hw : WideOK σ0) (hnew : ∀ c, out.b = some c → σ0.length ≤ c) :
    ∀ (d i m : Nat) (σ : Heap), i + d = xs.length → d < m → σ0 <+: σ → out.Own eCell σ (mendTo xs i) →
      ∃ σ1, σ0 <+: σ1 ∧ out.Own eCell σ1 (mend xs) ∧ cell_Mend_L3 c_cell_Mend L m l out (i : Int) σ K = K (.slice out.b out.o out.n 6) σ1
  | d, i, 0, σ, _, h, _, _ => by omega
  | 0, i, m + 1, σ, h, _, hp, ho => by
    refine ⟨σ, hp, ?_, ?_⟩
    · rw [show i = xs.length by omega, mendTo_all] at ho; exact ho
    · rw [cell_Mend_L3_eq, hl.n, lt_false (by omega)]
      rfl
  | d + 1, i, m + 1, σ, h, hm, hp, ho => by
    have hi : i < xs.length := by omega
    have hx := List.getElem?_eq_getElem hi
    have hs := hl.small
    have hl' := hl.pre hp
    have hw' := hw.pre hp
    obtain ⟨b, hb, f0, f1, f2, f3, f4, f5⟩ := cell_at hl' hx
    have hon : out.n = xs.length := by rw [ho.len, mendTo_len]
    have stay : mendAt xs i xs[i] = xs[i] → ∃ σ1, σ0 <+: σ1 ∧ out.Own eCell σ1 (mend xs) ∧ cell_Mend_L3 c_cell_Mend L m l out ((i + 1 : Nat) : Int) σ K = K (.slice out.b out.o out.n 6) σ1 := fun hc =>
      cell_Mend_loop hl hw hnew d (i + 1) m σ (by omega) (by omega) hp (by rw [mendTo_stay xs hx hc]; exact ho)
    have turn : mendAt xs i xs[i] = { xs[i] with Rune := 32 } → ∃ b' σ' σ1, out.b = some b' ∧ σ.store b' (out.o + i * 6) [.int .i32 32] = some σ' ∧ σ0 <+: σ1 ∧ out.Own eCell σ1 (mend xs) ∧ cell_Mend_L3 c_cell_Mend L m l out ((i + 1 : Nat) : Int) σ' K = K (.slice out.b out.o out.n 6) σ1 := fun hc => by
      obtain ⟨b', σ', g1, g2, g3, g4, g5⟩ := store_rune ho (mendTo_get xs hx) 32
      have hlen := hp.length_le
      obtain ⟨σ1, k1, k2, k3⟩ := cell_Mend_loop (L := L) (K := K) hl hw hnew d (i + 1) m σ' (by omega) (by omega) (pre_of_get (by omega) fun c hc => by
        have := hnew b' g1
        rw [g5 c (by omega)]
        exact get_pre hp hc) (by rw [mendTo_succ xs hx, hc]; exact g3)
      exact ⟨b', σ', σ1, g1, g2, k1, k2, k3⟩
    have p1 : c_cell_Mend.cell_paired = w_cell_paired := rfl
    have p2 : c_cell_Mend.glyph_Wide = w_glyph_Wide := rfl
    rw [cell_Mend_L3_eq]
    simp only [hl.n, dec0, lt_true hi, lt_true (show i < out.n by omega), Bool.and_self, cond_true, hb, Option.bind_some, Int.toNat_natCast, f0, f1, f2, f3, f4, f5, int?, bool?, if_true, p1, p2, w_glyph_Wide_eq hw', wrap_i64_succ i (by omega),
      wrap_i64_of (show -9223372036854775808 ≤ (i : Int) - 1 by omega) (by omega), w_cell_paired_eq hl' hw' (show (i : Int) - 1 ≤ 1099511627776 by omega), w_cell_paired_eq hl' hw' (show (i : Int) ≤ 1099511627776 by omega)]
    by_cases c1 : xs[i].Rune = 0
    · have hwz : wide xs[i].Rune = false := by rw [c1]; decide
      rw [show (xs[i].Rune == 0) = true by simp [c1]]
      simp only [cond_true, hwz, cond_false]
      cases c2 : paired xs ((i : Int) - 1) with
      | false =>
        obtain ⟨b', σ', σ1, g1, g2, k1, k2, k3⟩ := turn (by simp [mendAt, c1, c2])
        refine ⟨σ1, k1, k2, ?_⟩
        simp only [Bool.not_false, cond_true, g1, Option.bind_some, g2]
        rw [← g1]
        exact k3
      | true =>
        simp only [Bool.not_true, cond_false]
        exact stay (by simp [mendAt, c1, c2]; intro h; rw [show wide 0 = false by decide] at h; cases h)
    · rw [show (xs[i].Rune == 0) = false by simp [c1]]
      simp only [cond_false]
      cases c3 : wide xs[i].Rune with
      | true =>
        simp only [cond_true]
        cases c2 : paired xs i with
        | false =>
          obtain ⟨b', σ', σ1, g1, g2, k1, k2, k3⟩ := turn (by simp [mendAt, c1, c2, c3])
          refine ⟨σ1, k1, k2, ?_⟩
          simp only [Bool.not_false, cond_true, g1, Option.bind_some, g2]
          rw [← g1]
          exact k3
        | true =>
          simp only [Bool.not_true, cond_false]
          exact stay (by simp [mendAt, c1, c2])
      | false =>
        simp only [cond_false]
        exact stay (by simp [mendAt, c1, c3])

noncomputable def w_cell_Mend (s : Sl) (σ : Heap) : Option (Sl × Heap) := wOf (fun xs => s.Is eCell σ xs ∧ xs.length ≤ 1000000 ∧ WideOK σ) fun xs => fresh eCell σ s.b.isNone (mend xs)
theorem w_cell_Mend_eq {s : Sl} {σ : Heap} {xs : List api_Cell} (h : s.Is eCell σ xs) (hl : xs.length ≤ 1000000) (hw : WideOK σ) : w_cell_Mend s σ = some (fresh eCell σ s.b.isNone (mend xs)) :=
  wOf_eq ⟨h, hl, hw⟩ fun y hy => by rw [hy.1.uniq (by decide) h]
theorem fresh_isNone {α : Type} (E : El α) (σ : Heap) (nil : Bool) (ys : List α) : (fresh E σ nil ys).1.b.isNone = nil := by cases nil <;> rfl
theorem Is_nil_of {α : Type} {s : Sl} {E : El α} {σ : Heap} {xs : List α} (h : s.Is E σ xs) (hn : s.b.isNone = true) : xs = [] := by
  rcases h.at_ with ⟨_, _, h⟩ | ⟨b, _, hb, _⟩
  · exact h
  · rw [hb] at hn; cases hn
theorem ok_cell_Mend : Ok_cell_Mend w_cell_Mend := fun s σ v σ' h => by
  obtain ⟨xs, ⟨hs, hl, hw⟩, e⟩ := wOf_some h
  obtain ⟨rfl, rfl⟩ : v = (fresh eCell σ s.b.isNone (mend xs)).1 ∧ σ' = (fresh eCell σ s.b.isNone (mend xs)).2 := by rw [e]; exact ⟨rfl, rfl⟩
  have hn := Is_nil_of hs
  obtain ⟨σ1, k1, k2, k3⟩ := cell_Mend_loop (R := AVal × Heap) (L := xs.length + 1) (K := fun v σ => some (v, σ)) hs hw (fresh_new eCell σ s.b.isNone xs) xs.length 0 (xs.length + 1) _ (by simp) (by omega) (fresh_pre ..)
    (by rw [mendTo_zero]; exact fresh_own eCell σ s.b.isNone xs hn)
  refine call_fresh (call_ok ok (K_cell_Mend c_cell_Mend ok_slices_Clone ok_cell_paired ok_glyph_Wide) (L := xs.length + 1) (n := 2) ((cell_Mend_eq c_cell_Mend (xs.length + 1) s σ _).trans ?_)) k2 (fun b hb => get_pre k1 hb) (fresh_new eCell σ s.b.isNone xs) (fresh_isNone ..).symm
  show ((w_slices_Clone s σ).bind _) = _
  rw [w_slices_Clone_eq hs hl, Option.bind_some]
  exact k3
end Go.Abs.TA
