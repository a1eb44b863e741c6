/-
GridTexts answers true.
-/
import Derived.Test.YtcfohnfnajfahaaDoorMConF
namespace Go.Abs.TA
open Go Go.Abs Go.Proofs

theorem i64_and31 (w : Int) : ∃ k : Nat, k ≤ 31 ∧ IntKind.i64.wrap (BitVec.ofInt IntKind.i64.bits w &&& BitVec.ofInt IntKind.i64.bits 31).toNat = (k : Int) := by
  have h : (BitVec.ofInt IntKind.i64.bits w &&& BitVec.ofInt IntKind.i64.bits 31).toNat ≤ 31 := by
    rw [BitVec.toNat_and]
    exact Nat.and_le_right
  exact ⟨_, h, wrap_i64_nat _ (by omega)⟩
theorem lastN_take {rs : List Int} {n : Nat} (h : n < rs.length) : (rs[n] = 32 → lastN (rs.take (n + 1)) = lastN (rs.take n)) ∧ (rs[n] ≠ 32 → lastN (rs.take (n + 1)) = n + 1) := by
  rw [List.take_succ_eq_append_getElem h]
  refine ⟨fun e => by rw [e, lastN_blank], fun e => ?_⟩
  rw [lastN_not _ e]
  simp; omega
theorem i32_cell {s : Sl} {σ : Heap} {l : List Int} (h : s.Is eI32 σ l) {i : Nat} {x : Int} (hi : l[i]? = some x) : ∃ b, s.b = some b ∧ σ.cell? b (s.o + i * 1) = some (.int .i32 x) := by
  obtain ⟨b, hb, hc⟩ := h.cell hi
  exact ⟨b, hb, hc 0 (by decide)⟩
noncomputable def c_GridTexts : C_law09_GridTexts := { law09_fit := w_law09_fit, law09_Fill := w_law09_Fill, grid_Grid_Text := w_grid_Grid_Text }
theorem GridTexts_end {L p j : Nat} {d : GD} {rs : List Int} {l : List api_Cell} (hj : d.ls[j]? = some l) (hrs : rs = runesL l) (hrl : rs.length ≤ 1000) :
    ∀ (n m : Nat) (want : Sl) (σ : Heap), n < m → n ≤ rs.length → GridR σ p d → want.Is eI32 σ (rs.take n) → lastN (rs.take n) = lastN rs →
      ∃ σ1, law09_GridTexts_L15 (R := AVal × Heap) c_GridTexts L m (j : Int) (some (p, 0)) want σ (fun v σ => some (v, σ)) = some (.bool true, σ1)
  | n, 0, _, _, h, _, _, _, _ => by omega
  | n, m + 1, want, σ, hm, hn, hg, hI, hla => by
    have p1 : c_GridTexts.grid_Grid_Text = w_grid_Grid_Text := rfl
    have hwn : want.n = n := by rw [hI.n]; simp; omega
    have e : textG d (j : Int) = encodeAll (rs.take (lastN rs)) := by
      unfold textG
      rw [if_pos (by omega), Int.toNat_natCast, hj, hrs]
      rfl
    have fin : n = lastN rs → ∃ σ1, ((w_grid_Grid_Text (some (p, 0)) (j : Int) σ.frz).bind fun q29 => (Heap.read (Heap.back σ q29.2) want.b want.o want.n 1).bind fun cs30 => (runesIn cs30).bind fun rs31 => some (AVal.bool (q29.1.toList == (encodeAll rs31).toList), Heap.back σ q29.2)) = some (.bool true, σ1) := fun hnl => by
      rw [w_grid_Grid_Text_eq hg.frz, Option.bind_some, Heap.back_frz]
      have hr : σ.read want.b want.o want.n 1 = some (eI32.all (rs.take n)) := hI.read
      rw [hr, Option.bind_some, runes_all, Option.bind_some, e, hnl, beq_self_eq_true]
      exact ⟨_, rfl⟩
    rw [law09_GridTexts_L15_eq, p1]
    cases n with
    | zero =>
      rw [show decide ((want.n : Int) > 0) = false by simp [hwn], cond_false]
      refine fin ?_
      rw [← hla]; rfl
    | succ n =>
      have hx : (rs.take (n + 1))[n]? = some rs[n] := by rw [List.getElem?_take, if_pos (by omega), List.getElem?_eq_getElem (by omega)]
      obtain ⟨b, hb, hc⟩ := i32_cell hI hx
      have e3 : IntKind.i64.wrap ((want.n : Int) - 1) = ((n : Nat) : Int) := by
        rw [hwn, wrap_i64_of (by omega) (by omega)]; omega
      rw [show decide ((want.n : Int) > 0) = true by simp [hwn], cond_true, e3, dec0, show decide ((n : Int) < (want.n : Int)) = true by rw [hwn]; simp; omega, show decide ((n : Int) ≤ (want.n : Int)) = true by rw [hwn]; simp; omega]
      simp only [Bool.and_self, cond_true, hb, Option.bind_some, Int.toNat_natCast, hc, int?, if_true]
      obtain ⟨t1, t2⟩ := lastN_take (rs := rs) (n := n) (by omega)
      by_cases h32 : rs[n] = 32
      · rw [show (rs[n] == 32) = true by simpa using h32, cond_true]
        have hI' : Sl.Is ⟨want.b, want.o, n⟩ eI32 σ (rs.take n) := by
          have := hI.take (k := n) (by simp; omega)
          rw [List.take_take, Nat.min_eq_left (by omega)] at this
          exact this
        have := GridTexts_end (L := L) hj hrs hrl n m ⟨want.b, want.o, n⟩ σ (by omega) (by omega) hg hI' (by rw [← t1 h32]; exact hla)
        rw [hb] at this
        exact this
      · rw [show (rs[n] == 32) = false by simpa using h32, cond_false]
        have := fin (by rw [← hla, t2 h32])
        rw [hb] at this
        exact this
theorem GridTexts_loop {L p j : Nat} {d : GD} {l : List api_Cell} {s : Sl} {σ0 : Heap} (hL : 1001 ≤ L) (hj : d.ls[j]? = some l) (hg : GridR σ0 p d) (hs : s.Is eCell σ0 l) (hl : l.length ≤ 1000) :
    ∀ (k i m : Nat) (want : Sl) (σ : Heap), i + k = l.length → k < m → Mine eI32 σ0 want σ (runesL (l.take i)) →
      ∃ σ1, law09_GridTexts_L10 (R := AVal × Heap) c_GridTexts L m (j : Int) (some (p, 0)) want (s.b, s.o, s.n) (i : Int) σ (fun v σ => some (v, σ)) = some (.bool true, σ1)
  | k, i, 0, _, _, _, h, _ => by omega
  | 0, i, m + 1, want, σ, h, _, ho => by
    have e : i = l.length := by omega
    subst e
    rw [List.take_length] at ho
    have hrl := runesL_len l
    have hI := ho.own.is (by omega)
    obtain ⟨σ1, k1⟩ := GridTexts_end (L := L) (p := p) hj rfl (by omega) (runesL l).length L want σ (by omega) (Nat.le_refl _) (hg.pre ho.pre) (by rw [List.take_length]; exact hI) (by rw [List.take_length])
    refine ⟨σ1, ?_⟩
    rw [law09_GridTexts_L10_eq, hs.n, lt_false (Nat.lt_irrefl _), cond_false]
    exact k1
  | k + 1, i, m + 1, want, σ, h, hm, ho => by
    have hi : i < l.length := by omega
    have hx := List.getElem?_eq_getElem hi
    obtain ⟨b, hb, f0, f1, f2, f3, f4, f5⟩ := cell_at (hs.pre ho.pre) hx
    have hrl := runesL_len (l.take i)
    have htl : (l.take i).length ≤ i := by simp; omega
    rw [law09_GridTexts_L10_eq, hs.n, lt_true hi, dec0, Bool.and_self]
    simp only [cond_true, hb, Option.bind_some, Int.toNat_natCast, f0, f1, f2, f3, f4, f5, int?, bool?, if_true, wrap_i64_succ i (show i < 9223372036854775807 by omega)]
    have hri := runesL_in hx
    cases h0 : l[i].Rune == 0 with
    | true =>
      rw [h0, cond_true] at hri
      rw [show (l[i].Rune != 0) = false by simp only [bne, h0]; rfl, cond_false]
      rw [← hri] at ho
      have := GridTexts_loop (L := L) hL hj hg hs hl k (i + 1) m want σ (by omega) (by omega) ho
      rw [hb, hs.n] at this
      exact this
    | false =>
      rw [h0, cond_false] at hri
      rw [show (l[i].Rune != 0) = true by simp only [bne, h0]; rfl, cond_true]
      obtain ⟨q, σ', ha, hM⟩ := ho.append (zs := [l[i].Rune]) (bytes := 4) (vs := [.int .i32 l[i].Rune]) (k := 1) (by simp [eI32, El.all]) rfl (by simp; omega) (by simp; omega)
      rw [← hri] at hM
      have ha' : σ.append want.b want.o want.n 1 4 [.int .i32 l[i].Rune] 1 = some (q, σ') := ha
      rw [ha', Option.bind_some]
      have := GridTexts_loop (L := L) hL hj hg hs hl k (i + 1) m ⟨q.1, q.2.1, q.2.2⟩ σ' (by omega) (by omega) hM
      rw [hb, hs.n] at this
      exact this
theorem textG_out {d : GD} {y : Int} (h : y < 0 ∨ (d.ls.length : Int) ≤ y) : textG d y = ⟨#[]⟩ := by
  unfold textG
  split
  · rw [List.getElem?_eq_none (by omega)]
  · rfl
theorem law_GridTexts (size : Arr_2_Int) (l : Sl) (y : Int) {σ : Heap} {xs : List api_Cell} (hn : l.n = xs.length) (hI : xs.length ≤ 1099511627776 → l.Is eCell σ xs) (hw : WideOK σ) :
    ∃ σ1, CallOK Tryd.prog T 8 [t_Arr_2_Int.av size, (tSl eCell.z).av l, (tInt .i64).av y] σ (tBool.av true) σ1 := by
  have hK := K_law09_GridTexts c_GridTexts ok_law09_fit ok_law09_Fill ok_grid_Grid_Text
  have p1 : c_GridTexts.law09_fit = w_law09_fit := rfl
  have p2 : c_GridTexts.law09_Fill = w_law09_Fill := rfl
  have p3 : c_GridTexts.grid_Grid_Text = w_grid_Grid_Text := rfl
  have go : ∃ σ1, callC (R := AVal × Heap) T (O_law09_GridTexts c_GridTexts) 1001 2 8 [.agg [.int .i64 size.i0, .int .i64 size.i1], .slice l.b l.o l.n 6, .int .i64 y] σ (fun v σ => some (v, σ)) = some (.bool true, σ1) := by
    rw [law09_GridTexts_eq, p1, w_law09_fit_eq hw, Option.bind_some, hn]
    dsimp only
    rw [Bool.not_true, cond_false]
    by_cases h1 : xs.length ≤ 2000
    · rw [show decide ((xs.length : Int) > 2000) = false by simp; omega, cond_false, p2]
      generalize IntKind.i64.wrap ((IntKind.i64.wrap (BitVec.ofInt IntKind.i64.bits size.i0 &&& BitVec.ofInt IntKind.i64.bits 31).toNat) + 1) = w
      generalize IntKind.i64.wrap ((IntKind.i64.wrap (BitVec.ofInt IntKind.i64.bits size.i1 &&& BitVec.ofInt IntKind.i64.bits 31).toNat) + 1) = h
      obtain ⟨p, σ', d, e1, m1, e2, e3, e4⟩ := w_law09_Fill_ex (w := w) (h := h) (hI (by omega)) (by omega) hw
      have g := m1.grid
      have r := g.r
      have hw2 := g.w2
      rw [e1, Option.bind_some, p3]
      by_cases hy0 : y < 0
      · rw [decide_eq_true hy0, cond_true, w_grid_Grid_Text_eq r, Option.bind_some, textG_out (.inl hy0)]
        dsimp only
        rw [beq_self_eq_true]
        exact ⟨_, rfl⟩
      · rw [decide_eq_false hy0, cond_false]
        simp only [Option.bind_some, g.head.c1]
        by_cases hyh : y ≥ (d.ls.length : Int)
        · rw [decide_eq_true hyh, cond_true, w_grid_Grid_Text_eq r, Option.bind_some, textG_out (.inr hyh)]
          dsimp only
          rw [beq_self_eq_true]
          exact ⟨_, rfl⟩
        · rw [decide_eq_false hyh, cond_false]
          obtain ⟨j, rfl⟩ := Int.eq_ofNat_of_zero_le (show 0 ≤ y by omega)
          have hj : j < d.ls.length := by omega
          have hlj := List.getElem?_eq_getElem hj
          simp only [alloc]
          have o7 : Mine eI32 σ' ⟨some σ'.length, 0, 0⟩ (σ' ++ [.row [] .rw]) [] := ⟨pre_push .., Sl.Own.new (E := eI32) (xs := []), fun c hc => by simp at hc; omega⟩
          have r7 := r.pre (pre_push σ' (.row [] .rw))
          generalize (σ' ++ [.row [] .rw] : Heap) = σ11 at o7 r7 ⊢
          obtain ⟨b, e, k1, k2, k3, k4, k5, k6, k7⟩ := r7.line_at hlj
          simp only [r7.head.c2, Option.bind_some, dec0, lt_true k6, Bool.and_self, Int.toNat_natCast, k1, k3]
          rw [cond_true]
          have hL : d.ls[j].length ≤ 1000 := by omega
          exact GridTexts_loop (L := 1001) (Nat.le_refl _) hlj r (r.line j e _ k2 hlj) hL d.ls[j].length 0 1001 ⟨some σ'.length, 0, 0⟩ σ11 (by omega) (by omega) o7
    · rw [show decide ((xs.length : Int) > 2000) = true by simp; omega, cond_true]
      exact ⟨_, rfl⟩
  obtain ⟨σ1, h⟩ := go
  exact ⟨σ1, call_ok ok hK h⟩
end Go.Abs.TA
