/-
Contracts of the reference's Mend, and of Whole.
-/
import Derived.Test.YtcfohnfnajfahaaDoorConA5
namespace Go.Abs.TA
open Go Go.Abs Go.Proofs

theorem mine_rune {σ0 σ : Heap} {out : Sl} {ys : List api_Cell} (h : Mine eCell σ0 out σ ys) {i : Nat} {y : api_Cell} (hi : ys[i]? = some y) (r : Int) :
    ∃ b σ', out.b = some b ∧ σ.store b (out.o + i * 6) [.int .i32 r] = some σ' ∧ Mine eCell σ0 out σ' (ys.set i { y with Rune := r }) := by
  obtain ⟨b, σ', h1, h2, h3, h4, h5⟩ := store_rune h.own hi r
  have hl := h.pre.length_le
  exact ⟨b, σ', h1, h2, pre_of_get (by omega) (fun c hc => by
    have := h.new b h1
    rw [h5 c (by omega)]
    exact get_pre h.pre hc), h3, h.new⟩
theorem wide_zero : wide 0 = false := by decide
theorem pairedN_wide {xs : List api_Cell} {k : Nat} {c : api_Cell} (h : xs[k]? = some c) (hw : wide c.Rune = false) : pairedN xs k = false := by
  unfold pairedN
  rw [h]
  cases xs[k + 1]? with
  | none => rfl
  | some d => simp [hw]
theorem paired_nat (xs : List api_Cell) (k : Nat) : paired xs (k : Int) = pairedN xs k := by simp [paired]
theorem paired_pred (xs : List api_Cell) (k : Nat) : paired xs ((k + 1 : Nat) - 1 : Int) = pairedN xs k := by
  rw [show ((k + 1 : Nat) : Int) - 1 = (k : Int) by omega, paired_nat]
theorem paired_neg (xs : List api_Cell) : paired xs ((0 : Nat) - 1 : Int) = false := by simp [paired]

def c_ref08_Mend : C_ref08_Mend := ⟨w_ref07_Wide⟩
theorem ref08_Mend_loop {R : Type} {L : Nat} {out : Sl} {σ0 : Heap} {K : AVal → Heap → Option R} {xs : List api_Cell} (hb : xs.length ≤ 1000000) :
    ∀ (d i m : Nat) (σ : Heap), i + d = xs.length → d < m → paired xs ((i : Int) - 1) = false → Mine eCell σ0 out σ (mendTo xs i) →
      ∃ σ1, Mine eCell σ0 out σ1 (mend xs) ∧ ref08_Mend_L3 c_ref08_Mend L m out (i : Int) σ K = K (.slice out.b out.o out.n 6) σ1
  | d, i, 0, _, _, h, _, _ => by omega
  | 0, i, m + 1, σ, h, _, _, ho => by
    have hon : out.n = xs.length := by rw [ho.own.len, mendTo_len]
    refine ⟨σ, ?_, ?_⟩
    · rw [show i = xs.length by omega, mendTo_all] at ho; exact ho
    · rw [ref08_Mend_L3_eq, lt_false (by omega)]
      rfl
  | d + 1, i, m + 1, σ, h, hm, hp, ho => by
    have hi : i < xs.length := by omega
    have hx := List.getElem?_eq_getElem hi
    have hon : out.n = xs.length := by rw [ho.own.len, mendTo_len]
    have hio : i < out.n := by omega
    have his := ho.own.is (by rw [mendTo_len]; omega)
    obtain ⟨b, hb', f0, f1, f2, f3, f4, f5⟩ := cell_at his (mendTo_get xs hx)
    have p1 : c_ref08_Mend.ref07_Wide = w_ref07_Wide := rfl
    have stay : pairedN xs i = false → mendAt xs i xs[i] = xs[i] → ∃ σ1, Mine eCell σ0 out σ1 (mend xs) ∧ ref08_Mend_L3 c_ref08_Mend L m out ((i + 1 : Nat) : Int) σ K = K (.slice out.b out.o out.n 6) σ1 := fun hn hc =>
      ref08_Mend_loop hb d (i + 1) m σ (by omega) (by omega) (by rw [paired_pred]; exact hn) (by rw [mendTo_stay xs hx hc]; exact ho)
    have turn : pairedN xs i = false → mendAt xs i xs[i] = { xs[i] with Rune := 32 } → ∃ σ' σ1, σ.store b (out.o + i * 6) [.int .i32 32] = some σ' ∧ Mine eCell σ0 out σ1 (mend xs) ∧ ref08_Mend_L3 c_ref08_Mend L m out ((i + 1 : Nat) : Int) σ' K = K (.slice out.b out.o out.n 6) σ1 := fun hn hc => by
      obtain ⟨b', σ', g1, g2, g3⟩ := mine_rune ho (mendTo_get xs hx) 32
      rw [hb'] at g1
      injection g1 with g1
      subst g1
      obtain ⟨σ1, k1, k2⟩ := ref08_Mend_loop (L := L) (K := K) hb d (i + 1) m σ' (by omega) (by omega) (by rw [paired_pred]; exact hn) (by rw [mendTo_succ xs hx, hc]; exact g3)
      exact ⟨σ', σ1, g2, k1, k2⟩
    rw [ref08_Mend_L3_eq]
    simp only [dec0, lt_true hio, Bool.and_self, cond_true, hb', Option.bind_some, Int.toNat_natCast, f0, f1, f2, f3, f4, f5, int?, bool?, if_true, p1, w_ref07_Wide, wrap_i64_succ i (by omega)]
    cases hw : wide xs[i].Rune with
    | false =>
      have hn := pairedN_wide hx hw
      simp only [cond_false]
      by_cases c0 : xs[i].Rune = 0
      · obtain ⟨σ', σ1, k0, k1, k2⟩ := turn hn (by simp [mendAt, c0, hp])
        refine ⟨σ1, k1, ?_⟩
        rw [show (xs[i].Rune == 0) = true by simp [c0], cond_true, k0, Option.bind_some]
        rw [hb'] at k2
        exact k2
      · obtain ⟨σ1, k1, k2⟩ := stay hn (by simp [mendAt, c0, hw])
        refine ⟨σ1, k1, ?_⟩
        rw [show (xs[i].Rune == 0) = false by simp [c0], cond_false]
        rw [hb'] at k2
        exact k2
    | true =>
      simp only [cond_true]
      have blank : pairedN xs i = false → mendAt xs i xs[i] = { xs[i] with Rune := 32 } := fun hn => by simp [mendAt, hw, paired_nat, hn]
      by_cases h1 : i + 1 < xs.length
      · have hx1 := List.getElem?_eq_getElem h1
        have hx1' : (mendTo xs i)[i + 1]? = some xs[i + 1] := by
          simp only [mendTo, List.getElem?_mapIdx, hx1, Option.map_some]
          rw [if_neg (by omega)]
        obtain ⟨b2, hb2, g0, g1, g2, g3, g4, g5⟩ := cell_at his hx1'
        rw [hb'] at hb2
        injection hb2 with hb2
        subst hb2
        simp only [lt_true (show i + 1 < out.n by omega), cond_true, g0, g1, g2, g3, g4, g5, Option.bind_some, if_true, style_beq]
        have hpn : pairedN xs i = decide (xs[i + 1] = ⟨0, xs[i].Style⟩) := by
          unfold pairedN
          rw [hx, hx1]
          show (wide xs[i].Rune && decide _) = _
          rw [hw, Bool.true_and]
        by_cases c0 : xs[i + 1].Rune = 0
        · by_cases c1 : xs[i + 1].Style = xs[i].Style
          · have hcell : xs[i + 1] = ⟨0, xs[i].Style⟩ := by
              rw [← c1, ← c0]
            have e1 : mendAt xs i xs[i] = xs[i] := by
              have : xs[i].Rune ≠ 0 := fun e => by rw [e, wide_zero] at hw; cases hw
              simp [mendAt, this, paired_nat, hpn, hcell]
            have e2 : mendAt xs (i + 1) xs[i + 1] = xs[i + 1] := by
              unfold mendAt
              rw [if_neg]
              rw [paired_pred, hpn, hcell]
              simp [wide_zero]
            obtain ⟨σ1, k1, k2⟩ := ref08_Mend_loop (L := L) (K := K) hb (d - 1) (i + 2) m σ (by omega) (by omega) (by rw [show ((i + 2 : Nat) : Int) = (i + 1 + 1 : Nat) by omega, paired_pred]; exact pairedN_wide hx1 (by rw [c0]; exact wide_zero))
              (by rw [mendTo_stay xs hx1 e2, mendTo_stay xs hx e1]; exact ho)
            refine ⟨σ1, k1, ?_⟩
            rw [show (xs[i + 1].Rune == 0) = true by simp [c0], cond_true, decide_eq_true c1, cond_true, wrap_i64_succ (i + 1) (by omega)]
            rw [hb'] at k2
            exact k2
          · have hn : pairedN xs i = false := by rw [hpn, decide_eq_false]; intro e; exact c1 (by rw [e])
            obtain ⟨σ', σ1, k0, k1, k2⟩ := turn hn (blank hn)
            refine ⟨σ1, k1, ?_⟩
            rw [show (xs[i + 1].Rune == 0) = true by simp [c0], cond_true, decide_eq_false c1, cond_false, k0, Option.bind_some]
            rw [hb'] at k2
            exact k2
        · have hn : pairedN xs i = false := by rw [hpn, decide_eq_false]; intro e; exact c0 (by rw [e])
          obtain ⟨σ', σ1, k0, k1, k2⟩ := turn hn (blank hn)
          refine ⟨σ1, k1, ?_⟩
          rw [show (xs[i + 1].Rune == 0) = false by simp [c0], cond_false, k0, Option.bind_some]
          rw [hb'] at k2
          exact k2
      · have hn : pairedN xs i = false := by
          unfold pairedN
          rw [List.getElem?_eq_none (show xs.length ≤ i + 1 by omega)]
          cases xs[i]? <;> rfl
        obtain ⟨σ', σ1, k0, k1, k2⟩ := turn hn (blank hn)
        refine ⟨σ1, k1, ?_⟩
        rw [lt_false (show ¬ i + 1 < out.n by omega), cond_false, k0, Option.bind_some]
        rw [hb'] at k2
        exact k2

noncomputable def w_ref08_Mend (s : Sl) (σ : Heap) : Option (Sl × Heap) := wOf (fun xs => s.Is eCell σ xs ∧ xs.length ≤ 1000000) fun xs => fresh eCell σ (decide (xs = [])) (mend xs)
theorem w_ref08_Mend_eq {s : Sl} {σ : Heap} {xs : List api_Cell} (h : s.Is eCell σ xs) (hl : xs.length ≤ 1000000) : w_ref08_Mend s σ = some (fresh eCell σ (decide (xs = [])) (mend xs)) :=
  wOf_eq ⟨h, hl⟩ fun y hy => by rw [hy.1.uniq (by decide) h]
theorem mend_len (xs : List api_Cell) : (mend xs).length = xs.length := by simp [mend]
theorem ok_ref08_Mend : Ok_ref08_Mend w_ref08_Mend := fun s σ v σ' h => by
  obtain ⟨xs, ⟨hs, hl⟩, e⟩ := wOf_some h
  obtain ⟨rfl, rfl⟩ : v = (fresh eCell σ (decide (xs = [])) (mend xs)).1 ∧ σ' = (fresh eCell σ (decide (xs = [])) (mend xs)).2 := by rw [e]; exact ⟨rfl, rfl⟩
  obtain ⟨q, σ1, ha, hM⟩ := (Mine.start (E := eCell) σ).append (zs := xs) (bytes := 32) (vs := eCell.all xs) (k := xs.length) rfl rfl (by simp; omega) (by simp; omega)
  obtain ⟨σ2, k1, k2⟩ := ref08_Mend_loop (R := AVal × Heap) (L := xs.length + 1) (K := fun v σ => some (v, σ)) hl xs.length 0 (xs.length + 1) σ1 (by simp) (by omega) (paired_neg xs) (by rw [mendTo_zero]; exact hM)
  refine call_mine (call_ok ok (K_ref08_Mend c_ref08_Mend ok_ref07_Wide) (L := xs.length + 1) (n := 2) ((ref08_Mend_eq c_ref08_Mend (xs.length + 1) s σ _).trans ?_)) k1 ?_
  · have hr := hs.read
    have hr' : σ.read s.b s.o s.n 6 = some (eCell.all xs) := hr
    have ha' : σ.append none 0 0 6 32 (eCell.all xs) xs.length = some (q, σ1) := ha
    rw [hr', Option.bind_some, hs.n, ha', Option.bind_some]
    exact k2
  · by_cases h0 : xs = []
    · subst h0
      simp [Heap.append] at ha
      rw [← ha.1]
      rfl
    · rw [Own.some_of_ne k1.own (by
        intro e
        have := congrArg List.length e
        rw [mend_len] at this
        exact h0 (List.eq_nil_of_length_eq_zero this))]
      simp [h0]
end Go.Abs.TA
