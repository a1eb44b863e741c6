/-
GridSizes answers true.
-/
import Derived.Test.YtcfohnfnajfahaaDoorMConH
namespace Go.Abs.TA
open Go Go.Abs Go.Proofs

theorem and_small (w : Int) (c : Nat) (hc : c ≤ 1000) : ∃ k : Nat, k ≤ c ∧ IntKind.i64.wrap (BitVec.ofInt IntKind.i64.bits w &&& BitVec.ofInt IntKind.i64.bits (c : Int)).toNat = (k : Int) := by
  have h : (BitVec.ofInt IntKind.i64.bits w &&& BitVec.ofInt IntKind.i64.bits (c : Int)).toNat ≤ c := by
    rw [BitVec.toNat_and]
    have : (BitVec.ofInt IntKind.i64.bits (c : Int)).toNat = c := by
      show (BitVec.ofInt 64 (c : Int)).toNat = _
      rw [BitVec.toNat_ofInt]
      omega
    rw [this]
    exact Nat.and_le_right
  exact ⟨_, h, wrap_i64_nat _ (by omega)⟩
theorem bring_id {k : Nat} (h1 : 1 ≤ k) (h2 : k ≤ 60) : (bringI (k : Int)).toNat = k := by
  unfold bringI within
  split <;> split <;> omega
theorem top_zero (h : Nat) : topN h 0 = 0 := by
  unfold topN within
  split <;> split <;> omega
theorem top_neg (h : Nat) : topN h (-1) = 0 := by
  unfold topN within
  split <;> split <;> omega
theorem fit_get {l : List api_Cell} {w : Nat} (ht : Tamed l) (hw : whole l = true) (hl : l.length ≤ w) {x : Nat} (hx : x < w) : (fitL l w)[x]? = if x < l.length then l[x]? else some bl0 := by
  unfold fitL
  split
  · rename_i h
    rw [List.take_of_length_le (by omega), (whole_iff_mend ht).1 hw, if_pos (by omega)]
  · rename_i h
    by_cases hc : x < l.length
    · rw [if_pos hc, List.getElem?_append_left hc]
    · rw [if_neg hc, List.getElem?_append_right (by omega), List.getElem?_replicate, if_pos (by omega)]
      rfl
theorem fit_back {l : List api_Cell} {w : Nat} (ht : Tamed l) (hw : whole l = true) (hl : l.length ≤ w) : fitL (fitL l w) l.length = l := by
  have h1 : (fitL l w).take l.length = l := by
    apply List.ext_getElem?
    intro j
    rw [List.getElem?_take]
    split
    · rename_i hj
      rw [fit_get ht hw hl (by omega), if_pos hj]
    · rename_i hj
      rw [List.getElem?_eq_none (by omega)]
  conv => lhs; unfold fitL
  rw [if_pos (by rw [show (if w ≤ l.length then mend (l.take w) else l ++ List.replicate (w - l.length) (blankC ⟨false, false, false, 0, 0⟩)) = fitL l w from rfl, fitL_len]; exact hl)]
  rw [show (if w ≤ l.length then mend (l.take w) else l ++ List.replicate (w - l.length) (blankC ⟨false, false, false, 0, 0⟩)) = fitL l w from rfl, h1, (whole_iff_mend ht).1 hw]
theorem resize_get {ls : List (List api_Cell)} {w h y : Nat} (hy : y < h) (hh : ls.length ≤ h) : (resizeL ls w h 0)[y]? = if y < ls.length then (ls[y]?).map (fun l => fitL l w) else some (List.replicate w bl0) := by
  unfold resizeL
  rw [List.drop_zero, List.take_of_length_le hh]
  by_cases hc : y < ls.length
  · rw [if_pos hc, List.getElem?_append_left (by simp; exact hc), List.getElem?_map]
  · rw [if_neg hc, List.getElem?_append_right (by simp; omega), List.getElem?_replicate, if_pos (by simp; omega)]
theorem resize_back {ls : List (List api_Cell)} {W w h : Nat} (hG : Good ls) (hW : ∀ l ∈ ls, l.length = W) (hw : W ≤ w) (hh : ls.length ≤ h) : resizeL (resizeL ls w h 0) W ls.length 0 = ls := by
  conv => lhs; unfold resizeL
  have e1 : (resizeL ls w h 0).length = h := resizeL_len
  have e2 : (resizeL ls w h 0).take ls.length = ls.map (fun l => fitL l w) := by
    apply List.ext_getElem?
    intro j
    rw [List.getElem?_take, List.getElem?_map]
    split
    · rename_i hj
      rw [resize_get (by omega) hh, if_pos hj]
    · rename_i hj
      rw [List.getElem?_eq_none (by omega)]
      rfl
  have e0 : (((ls.drop 0).take h).map (fun l => fitL l w) ++ List.replicate (h - (ls.drop 0).length) (List.replicate w bl0)) = resizeL ls w h 0 := rfl
  rw [e0, List.drop_zero, e2, e1, show ls.length - h = 0 by omega, List.replicate_zero, List.append_nil, List.map_map]
  conv => rhs; rw [← List.map_id ls]
  refine List.map_congr_left fun l hl => ?_
  have h1 := hG l hl
  have h2 := hW l hl
  show fitL (fitL l w) W = l
  rw [← h2]
  exact fit_back h1.1 h1.2 (by omega)
theorem at_nat {d : GD} {x y : Nat} : atG d (x : Int) (y : Int) = ((d.ls[y]?).bind fun l => l[x]?).getD zeroC := by
  unfold atG
  rw [if_pos ⟨by omega, by omega⟩, Int.toNat_natCast, Int.toNat_natCast]
theorem at_resize {d d' : GD} {w h x y : Nat} (hG : Good d.ls) (hW : ∀ l ∈ d.ls, l.length = d.w) (hd : d'.ls = resizeL d.ls w h 0) (hw : d.w ≤ w) (hh : d.ls.length ≤ h) (hx : x < w) (hy : y < h) :
    atG d' (x : Int) (y : Int) = if x < d.w ∧ y < d.ls.length then atG d (x : Int) (y : Int) else bl0 := by
  rw [at_nat, at_nat, hd, resize_get hy hh]
  by_cases hc : y < d.ls.length
  · have h1 := List.getElem_mem hc
    have h2 := hG _ h1
    have h3 := hW _ h1
    rw [if_pos hc, List.getElem?_eq_getElem hc, Option.map_some, Option.bind_some, Option.bind_some, fit_get h2.1 h2.2 (by omega) hx, h3]
    by_cases hx' : x < d.w
    · rw [if_pos hx', if_pos ⟨hx', hc⟩]
    · rw [if_neg hx', if_neg (fun e => hx' e.1)]
      rfl
  · rw [if_neg hc, if_neg (fun e => hc e.2), Option.bind_some, List.getElem?_replicate, if_pos hx]
    rfl
noncomputable def c_GridSizes : C_law09_GridSizes := { law09_fit := w_law09_fit, law09_Fill := w_law09_Fill, grid_Grid_Copy := w_grid_Grid_Copy, grid_Grid_Resize := w_grid_Grid_Resize, law09_whole := w_law09_whole, grid_Grid_At := w_grid_Grid_At, grid_Same := w_grid_Same }
section
variable {L p pc w h : Nat} {σ : Heap} {d d' dc : GD} {more : Arr_2_Int} {x8 x10 : Int}
theorem GS_L14 {R : Type} {K : AVal → Heap → Option R} {fu y : Nat} (r' : GridR σ p d') (rc : GridR σ pc dc) (hp : ∀ x y, x < w → y < h → atG d' (x : Int) (y : Int) = if x < dc.w ∧ y < dc.ls.length then atG dc (x : Int) (y : Int) else bl0)
    (hw : w ≤ 60) (hy : y < h) (ew : IntKind.i64.wrap (x8 + (IntKind.i64.wrap (BitVec.ofInt IntKind.i64.bits more.i0 &&& BitVec.ofInt IntKind.i64.bits 15).toNat)) = (w : Int)) :
    ∀ (k x m : Nat), x + k = w → k < m → law09_GridSizes_L14 c_GridSizes L fu m (some (p, 0)) (some (pc, 0)) x8 more (y : Int) x10 (x : Int) σ K = law09_GridSizes_L11 c_GridSizes L fu (some (p, 0)) (some (pc, 0)) x8 more x10 (IntKind.i64.wrap ((y : Int) + 1)) σ K
  | k, x, 0, _, h => by omega
  | 0, x, m + 1, h, _ => by
    rw [law09_GridSizes_L14_eq, ew, lt_false (by omega), cond_false]
  | k + 1, x, m + 1, h, hm => by
    have hx : x < w := by omega
    have p1 : c_GridSizes.grid_Grid_At = w_grid_Grid_At := rfl
    have ih := GS_L14 (K := K) (fu := fu) r' rc hp hw hy ew k (x + 1) m (by omega) (by omega)
    have hv := hp x y hx hy
    rw [law09_GridSizes_L14_eq, ew, lt_true hx, cond_true, p1, wrap_i64_succ x (by omega)]
    simp only [Option.bind_some, rc.head.c0]
    have blank : ¬ (x < dc.w ∧ y < dc.ls.length) → ((w_grid_Grid_At (some (p, 0)) (x : Int) (y : Int) σ.frz).bind fun q33 =>
        bif (!(((q33.1.Rune : Int) == 32) && ((q33.1.Style.Bold == false) && ((q33.1.Style.Under == false) && ((q33.1.Style.Turned == false) && (((q33.1.Style.Fore : Int) == 0) && (((q33.1.Style.Back : Int) == 0) && true))))))) then (
          K (.bool false) (Heap.back σ q33.2))
        else
        law09_GridSizes_L14 c_GridSizes L fu m (some (p, 0)) (some (pc, 0)) x8 more (y : Int) x10 ((x + 1 : Nat) : Int) (Heap.back σ q33.2) K) = law09_GridSizes_L11 c_GridSizes L fu (some (p, 0)) (some (pc, 0)) x8 more x10 (IntKind.i64.wrap ((y : Int) + 1)) σ K := fun hn => by
      rw [w_grid_Grid_At_eq r'.frz, Option.bind_some, hv, if_neg hn]
      dsimp only
      rw [Heap.back_frz, show (((bl0.Rune : Int) == 32) && ((bl0.Style.Bold == false) && ((bl0.Style.Under == false) && ((bl0.Style.Turned == false) && (((bl0.Style.Fore : Int) == 0) && (((bl0.Style.Back : Int) == 0) && true)))))) = true from rfl, Bool.not_true, cond_false]
      exact ih
    by_cases c1 : x < dc.w
    · rw [lt_true c1, cond_true]
      simp only [rc.head.c1, Option.bind_some]
      by_cases c2 : y < dc.ls.length
      · rw [lt_true c2, cond_true, w_grid_Grid_At_eq rc, Option.bind_some]
        dsimp only
        rw [w_grid_Grid_At_eq r'.frz, Option.bind_some, hv, if_pos ⟨c1, c2⟩]
        dsimp only
        rw [Heap.back_frz, cell_beq, decide_eq_true rfl, Bool.not_true, cond_false]
        exact ih
      · rw [lt_false c2, cond_false]
        exact blank (fun e => c2 e.2)
    · rw [lt_false c1, cond_false]
      exact blank (fun e => c1 e.1)
theorem GS_L11 (hL : 100 ≤ L) (g' : Grid σ p d') (hwide : WideOK σ) (gc : Grid σ pc dc) (hap : ∀ b, some b ∈ dc.foot pc → some b ∉ d'.foot p) (hp : ∀ x y, x < w → y < h → atG d' (x : Int) (y : Int) = if x < dc.w ∧ y < dc.ls.length then atG dc (x : Int) (y : Int) else bl0)
    (hw : w ≤ 60) (hh : h ≤ 60) (ew : IntKind.i64.wrap (x8 + (IntKind.i64.wrap (BitVec.ofInt IntKind.i64.bits more.i0 &&& BitVec.ofInt IntKind.i64.bits 15).toNat)) = (w : Int))
    (eh : IntKind.i64.wrap (x10 + (IntKind.i64.wrap (BitVec.ofInt IntKind.i64.bits more.i1 &&& BitVec.ofInt IntKind.i64.bits 15).toNat)) = (h : Int)) (hb : resizeL d'.ls dc.w dc.ls.length 0 = dc.ls) :
    ∀ (k y m : Nat), y + k = h → k < m → ∃ σ1, law09_GridSizes_L11 (R := AVal × Heap) c_GridSizes L m (some (p, 0)) (some (pc, 0)) x8 more x10 (y : Int) σ (fun v σ => some (v, σ)) = some (.bool true, σ1)
  | k, y, 0, _, h => by omega
  | 0, y, m + 1, hk, _ => by
    have p1 : c_GridSizes.grid_Grid_At = w_grid_Grid_At := rfl
    have p2 : c_GridSizes.grid_Grid_Resize = w_grid_Grid_Resize := rfl
    have p3 : c_GridSizes.grid_Same = w_grid_Same := rfl
    rw [law09_GridSizes_L11_eq, eh, lt_false (by omega), cond_false, p1, p2, p3]
    simp only [Option.bind_some, gc.head.c0, gc.head.c1]
    obtain ⟨v, σ2, e1, d2, g2, t2, e2, e3, _⟩ := w_grid_Grid_Resize_ex g' hwide (dc.w : Int) (dc.ls.length : Int) (-1)
    have gc2 : Grid σ2 pc dc := gc.same fun b hm => t2.at_ b (gc.foot_lt hm) (hap b hm)
    rw [bring_id gc.w1 gc.w2] at e2
    unfold resizeG at e3
    rw [bring_id gc.w1 gc.w2, bring_id gc.h1 gc.h2, top_neg, hb] at e3
    rw [e1, Option.bind_some]
    dsimp only
    rw [w_grid_Same_eq g2.r gc2.r, Option.bind_some, decide_eq_true ⟨e2, e3⟩]
    dsimp only
    rw [cond_true, w_grid_Grid_At_eq g2.r, Option.bind_some]
    have z1 : atG d2 (-1) 0 = zeroC := by
      unfold atG
      rw [if_neg (by omega)]
    rw [z1]
    dsimp only
    rw [show (((zeroC.Rune : Int) == 0) && ((zeroC.Style.Bold == false) && ((zeroC.Style.Under == false) && ((zeroC.Style.Turned == false) && (((zeroC.Style.Fore : Int) == 0) && (((zeroC.Style.Back : Int) == 0) && true)))))) = true from rfl, cond_true]
    simp only [Option.bind_some, gc2.head.c1]
    rw [w_grid_Grid_At_eq g2.r, Option.bind_some]
    have z2 : atG d2 0 (dc.ls.length : Int) = zeroC := by
      have := at_nat (d := d2) (x := 0) (y := dc.ls.length)
      rw [List.getElem?_eq_none (by rw [e3]; exact Nat.le_refl _)] at this
      exact this
    rw [z2]
    exact ⟨_, rfl⟩
  | k + 1, y, m + 1, hk, hm => by
    have hy : y < h := by omega
    obtain ⟨σ1, ih⟩ := GS_L11 hL g' hwide gc hap hp hw hh ew eh hb k (y + 1) m (by omega) (by omega)
    refine ⟨σ1, ?_⟩
    rw [law09_GridSizes_L11_eq, eh, lt_true hy, cond_true]
    have := GS_L14 (L := L) (x10 := x10) (K := fun v σ => some (v, σ)) (R := AVal × Heap) (fu := m) g'.r gc.r hp hw hy ew w 0 L (by omega) (by omega)
    refine Eq.trans this ?_
    rw [wrap_i64_succ y (by omega)]
    exact ih
end
theorem law_GridSizes (size : Arr_2_Int) (l : Sl) (more : Arr_2_Int) {σ : Heap} {xs : List api_Cell} (hn : l.n = xs.length) (hI : xs.length ≤ 1099511627776 → l.Is eCell σ xs) (hw : WideOK σ) :
    ∃ σ1, CallOK Tryd.prog T 13 [t_Arr_2_Int.av size, (tSl eCell.z).av l, t_Arr_2_Int.av more] σ (tBool.av true) σ1 := by
  have p1 : c_GridSizes.law09_fit = w_law09_fit := rfl
  have p2 : c_GridSizes.law09_Fill = w_law09_Fill := rfl
  have p3 : c_GridSizes.grid_Grid_Copy = w_grid_Grid_Copy := rfl
  have p4 : c_GridSizes.grid_Grid_Resize = w_grid_Grid_Resize := rfl
  have p5 : c_GridSizes.law09_whole = w_law09_whole := rfl
  have go : ∃ σ1, callC (R := AVal × Heap) T (O_law09_GridSizes c_GridSizes) 100 2 13 [.agg [.int .i64 size.i0, .int .i64 size.i1], .slice l.b l.o l.n 6, .agg [.int .i64 more.i0, .int .i64 more.i1]] σ (fun v σ => some (v, σ)) = some (.bool true, σ1) := by
    rw [law09_GridSizes_eq, p1, w_law09_fit_eq hw, Option.bind_some, hn]
    dsimp only
    rw [Bool.not_true, cond_false]
    by_cases h1 : xs.length ≤ 2000
    · rw [show decide ((xs.length : Int) > 2000) = false by simp; omega, cond_false, p2]
      obtain ⟨k0, hk0, ek0⟩ := and_small size.i0 31 (by decide)
      obtain ⟨k1, hk1, ek1⟩ := and_small size.i1 31 (by decide)
      obtain ⟨m0, hm0, em0⟩ := and_small more.i0 15 (by decide)
      obtain ⟨m1', hm1, em1⟩ := and_small more.i1 15 (by decide)
      have ek0' : IntKind.i64.wrap (BitVec.ofInt IntKind.i64.bits size.i0 &&& BitVec.ofInt IntKind.i64.bits 31).toNat = (k0 : Int) := ek0
      have ek1' : IntKind.i64.wrap (BitVec.ofInt IntKind.i64.bits size.i1 &&& BitVec.ofInt IntKind.i64.bits 31).toNat = (k1 : Int) := ek1
      have em0' : IntKind.i64.wrap (BitVec.ofInt IntKind.i64.bits more.i0 &&& BitVec.ofInt IntKind.i64.bits 15).toNat = (m0 : Int) := em0
      have em1' : IntKind.i64.wrap (BitVec.ofInt IntKind.i64.bits more.i1 &&& BitVec.ofInt IntKind.i64.bits 15).toNat = (m1' : Int) := em1
      rw [ek0', ek1', wrap_i64_succ k0 (by omega), wrap_i64_succ k1 (by omega)]
      obtain ⟨p, σ2, d, e1, m1, e2, e3, e4⟩ := w_law09_Fill_ex (w := ((k0 + 1 : Nat) : Int)) (h := ((k1 + 1 : Nat) : Int)) (hI (by omega)) (by omega) hw
      rw [bring_id (by omega) (by omega)] at e2 e3
      have g1 := m1.grid
      rw [e1, Option.bind_some, p3]
      dsimp only
      obtain ⟨pc, σ3, dc, f1, m2, f2, f3⟩ := w_grid_Grid_Copy_ex g1
      rw [f1, Option.bind_some, p4, p5]
      dsimp only
      have g2 := g1.pre m2.pre
      simp only [Option.bind_some, g2.head.c0, g2.head.c1]
      have ew : IntKind.i64.wrap ((d.w : Int) + IntKind.i64.wrap (BitVec.ofInt IntKind.i64.bits more.i0 &&& BitVec.ofInt IntKind.i64.bits 15).toNat) = ((d.w + m0 : Nat) : Int) := by
        rw [em0', show (d.w : Int) + (m0 : Int) = ((d.w + m0 : Nat) : Int) by omega, wrap_i64_nat _ (by omega)]
      have eh : IntKind.i64.wrap ((d.ls.length : Int) + IntKind.i64.wrap (BitVec.ofInt IntKind.i64.bits more.i1 &&& BitVec.ofInt IntKind.i64.bits 15).toNat) = ((d.ls.length + m1' : Nat) : Int) := by
        rw [em1', show (d.ls.length : Int) + (m1' : Int) = ((d.ls.length + m1' : Nat) : Int) by omega, wrap_i64_nat _ (by omega)]
      rw [ew, eh]
      have hw3 := (hw.pre m1.pre).pre m2.pre
      obtain ⟨v, σ4, u1, d4, g4, t4, w4, l4, oels, o1, o2, _, _⟩ := w_grid_Grid_Resize_ex g2 hw3 ((d.w + m0 : Nat) : Int) ((d.ls.length + m1' : Nat) : Int) 0
      unfold resizeG at l4
      rw [bring_id (by omega) (by omega), bring_id (by omega) (by omega), top_zero] at l4
      rw [bring_id (by omega) (by omega)] at w4
      rw [top_zero, List.take_zero] at o2
      have hvn : v.n = 0 := by rw [o1.n, o2]; rfl
      have hl4 : d4.ls.length = d.ls.length + m1' := by rw [l4, resizeL_len]
      have hw4 := t4.wide g2.toGridP hw3
      have hG4 : Good d4.ls := by rw [l4]; exact good_resize e4
      rw [u1, Option.bind_some]
      dsimp only
      rw [hvn, show (((0 : Nat) : Int) != 0) = false from rfl, cond_false, g4.head.c0, Option.bind_some, w4, show ((((d.w + m0 : Nat) : Int)) != ((d.w + m0 : Nat) : Int)) = false by simp, cond_false, g4.head.c1, Option.bind_some, hl4,
        show ((((d.ls.length + m1' : Nat) : Int)) != ((d.ls.length + m1' : Nat) : Int)) = false by simp, cond_false, w_law09_whole_eq g4.r hw4, Option.bind_some, good_all hG4]
      dsimp only
      rw [Bool.not_true, cond_false]
      refine GS_L11 (L := 100) (w := d.w + m0) (h := d.ls.length + m1') (dc := dc) (Nat.le_refl _) g4 hw4 (m2.grid.same fun b hm => ?_) (fun b hm hm' => ?_) (fun x y hx hy => ?_) (by omega) (by omega) ew eh ?_ (d.ls.length + m1') 0 100 (by omega) (by omega)
      · refine t4.at_ b (m2.grid.foot_lt hm) fun hm' => ?_
        have a1 := g1.foot_lt hm'
        have a2 := m2.new b hm
        omega
      · have a2 := m2.new b hm
        have a3 := m2.grid.foot_lt hm
        rcases t4.foot b hm' with h3 | h3
        · have a1 := g1.foot_lt h3
          omega
        · omega
      · rw [f2, f3]
        have := at_resize (d := d) (d' := d4) (w := d.w + m0) (h := d.ls.length + m1') (x := x) (y := y) e4 g1.wide l4 (by omega) (by omega) hx hy
        rw [this]
        have : atG dc (x : Int) (y : Int) = atG d (x : Int) (y : Int) := by rw [at_nat, at_nat, f3]
        rw [this]
      · rw [f2, f3, l4]
        exact resize_back e4 g1.wide (by omega) (by omega)
    · rw [show decide ((xs.length : Int) > 2000) = true by simp; omega, cond_true]
      exact ⟨_, rfl⟩
  obtain ⟨σ1, h⟩ := go
  exact ⟨σ1, call_ok ok (K_law09_GridSizes c_GridSizes ok_law09_fit ok_law09_Fill ok_grid_Grid_Copy ok_grid_Grid_Resize ok_law09_whole ok_grid_Grid_At ok_grid_Same) h⟩
end Go.Abs.TA
