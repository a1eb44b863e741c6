/-
GridLines answers true.
-/
import Derived.Test.YtcfohnfnajfahaaDoorMConG
namespace Go.Abs.TA
open Go Go.Abs Go.Proofs

theorem upN_get {α : Type} {t e : Nat} {b : α} (h : t < e) : ∀ (n : Nat) (xs : List α), e ≤ xs.length → n ≤ e - t → ∀ j, (upN xs t e b n)[j]? = if j < t then xs[j]? else if j + n < e then xs[j + n]? else if j < e then some b else xs[j]?
  | 0, xs, h', _, j => by
    rw [upN]
    by_cases c1 : j < t
    · rw [if_pos c1]
    · rw [if_neg c1]
      by_cases c2 : j < e
      · rw [if_pos (by omega)]; rfl
      · rw [if_neg (by omega), if_neg c2]
  | n + 1, xs, h', hn, j => by
    rw [upN, upN_get h n _ (by rw [upOne_len h h']; exact h') (by omega) j, upOne_get h h', upOne_get h h']
    by_cases c1 : j < t
    · rw [if_pos c1, if_pos c1, if_pos c1]
    · rw [if_neg c1, if_neg c1, if_neg c1]
      by_cases c2 : j + n < e
      · rw [if_pos c2, if_neg (by omega)]
        by_cases c3 : j + (n + 1) < e
        · rw [if_pos (by omega), if_pos c3]; rfl
        · rw [if_neg (by omega), if_pos (by omega), if_neg c3, if_pos (by omega)]
      · rw [if_neg c2, if_neg (show ¬ j + (n + 1) < e by omega)]
        by_cases c3 : j < e
        · rw [if_pos c3, if_pos c3]
        · rw [if_neg c3, if_neg c3, if_neg (by omega), if_neg (by omega)]
theorem downN_get {α : Type} {t e : Nat} {b : α} (h : t < e) : ∀ (n : Nat) (xs : List α), e ≤ xs.length → n ≤ e - t → ∀ j, (downN xs t e b n)[j]? = if j < t then xs[j]? else if j < t + n then some b else if j < e then xs[j - n]? else xs[j]?
  | 0, xs, h', _, j => by
    rw [downN]
    by_cases c1 : j < t
    · rw [if_pos c1]
    · rw [if_neg c1, if_neg (by omega)]
      by_cases c2 : j < e
      · rw [if_pos c2]; rfl
      · rw [if_neg c2]
  | n + 1, xs, h', hn, j => by
    rw [downN, downN_get h n _ (by rw [downOne_len h h']; exact h') (by omega) j, downOne_get h h', downOne_get h h']
    by_cases c1 : j < t
    · rw [if_pos c1, if_pos c1, if_pos c1]
    · rw [if_neg c1, if_neg c1, if_neg c1]
      by_cases c2 : j < t + n
      · rw [if_pos c2, if_pos (by omega)]
      · rw [if_neg c2]
        by_cases c3 : j < e
        · rw [if_pos c3, if_neg (by omega)]
          by_cases c4 : j - n = t
          · rw [if_pos c4, if_pos (by omega)]
          · rw [if_neg c4, if_pos (by omega), if_neg (by omega), if_pos c3]
            congr 1
        · rw [if_neg c3, if_neg (by omega), if_neg c3, if_neg (by omega), if_neg c3]
theorem upOut_get {α : Type} {t e : Nat} {b : α} (h : t < e) : ∀ (n : Nat) (xs : List α), e ≤ xs.length → n ≤ e - t → upOut xs t e b n = (xs.drop t).take n
  | 0, xs, _, _ => by simp [upOut]
  | n + 1, xs, h', hn => by
    rw [upOut, upOut_get h n _ (by rw [upOne_len h h']; exact h') (by omega)]
    have ht : t < xs.length := by omega
    rw [List.drop_eq_getElem_cons ht, List.take_succ_cons, List.take_zero, List.take_succ_cons, List.singleton_append]
    congr 1
    apply List.ext_getElem?
    intro j
    rw [List.getElem?_take, List.getElem?_take]
    by_cases c : j < n
    · rw [if_pos c, if_pos c, List.getElem?_drop, List.getElem?_drop, upOne_get h h', if_neg (by omega), if_pos (by omega)]
      congr 1
      omega
    · rw [if_neg c, if_neg c]
theorem lastN_rep : ∀ n, lastN (List.replicate n 32) = 0
  | 0 => rfl
  | n + 1 => by rw [List.replicate_succ', lastN_blank, lastN_rep n]
theorem text_blank (n : Nat) : textL (List.replicate n bl0) = ⟨#[]⟩ := by
  have h : runesL (List.replicate n bl0) = List.replicate n 32 := by
    unfold runesL
    rw [List.map_replicate, List.filter_eq_self.2 (fun a ha => by rw [(List.mem_replicate.1 ha).2]; rfl)]
    rfl
  unfold textL
  rw [h, lastN_rep]
  rfl
theorem sl_cell {s : Sl} {σ : Heap} {els : List Sl} (h : s.Is eSl σ els) {i : Nat} {f : Sl} (hi : els[i]? = some f) : ∃ b, s.b = some b ∧ slice? (σ.cell? b (s.o + i * 1)) 6 = some (f.b, f.o, f.n) := by
  obtain ⟨b, hb, hc⟩ := h.cell hi
  have hc0 : σ.cell? b (s.o + i * 1) = some (.slice f.b f.o f.n 6) := hc 0 (by decide)
  refine ⟨b, hb, ?_⟩
  rw [hc0]
  unfold slice?
  cases f with
  | mk eb eo en => cases eb <;> rfl
theorem updown {α : Type} {t e m : Nat} {ls : List α} {b : α} (_h1 : t ≤ ls.length) (h2 : e ≤ ls.length) (h3 : m ≤ e - t) :
    (upN ls t e b m).length = ls.length ∧ upOut ls t e b m = (ls.drop t).take m ∧ (∀ y, ¬ (t ≤ y ∧ y < t + m) → (downN (upN ls t e b m) t e b m)[y]? = ls[y]?) ∧ (∀ y, t ≤ y → y < t + m → (downN (upN ls t e b m) t e b m)[y]? = some b) ∧ (downN (upN ls t e b m) t e b m).length = ls.length := by
  rcases Nat.eq_zero_or_pos m with rfl | hm
  · exact ⟨rfl, by simp [upOut], fun _ _ => rfl, fun y a1 a2 => by omega, rfl⟩
  · have hte : t < e := by omega
    have hl := upN_len (b := b) hte m ls h2
    refine ⟨hl, upOut_get hte m ls h2 h3, fun y hy => ?_, fun y a1 a2 => ?_, (downN_len hte m _ (by rw [hl]; exact h2)).trans hl⟩
    · rw [downN_get hte m _ (by rw [hl]; exact h2) h3, upN_get hte m ls h2 h3, upN_get hte m ls h2 h3]
      by_cases c1 : y < t
      · rw [if_pos c1, if_pos c1]
      · rw [if_neg c1, if_neg c1, if_neg (by omega)]
        by_cases c2 : y < e
        · rw [if_pos c2, if_neg (by omega), if_pos (by omega), show y - m + m = y by omega]
        · rw [if_neg c2, if_neg (by omega), if_neg c2]
    · rw [downN_get hte m _ (by rw [hl]; exact h2) h3, if_neg (by omega), if_pos a2]
noncomputable def c_GridLines : C_law09_GridLines := { law09_fit := w_law09_fit, law09_Fill := w_law09_Fill, grid_Grid_Text := w_grid_Grid_Text, grid_Grid_Copy := w_grid_Grid_Copy, law09_within := w_law09_within, grid_Grid_Up := w_grid_Grid_Up, grid_Grid_Down := w_grid_Grid_Down, law08_Same := w_law08_Same }
theorem GridLines_loop {L p pw t m H w : Nat} {σ : Heap} {d dw : GD} {v : Sl} {oels : List Sl} (hH : H ≤ 60) (hw60 : t + m ≤ 60) (r : GridR σ p d) (rw' : GridR σ pw dw) (hl : d.ls.length = H) (hlw : dw.ls.length = H)
    (hv : v.Is eSl σ oels) (ho : ∀ y, t ≤ y → y < t + m → ∃ f l, oels[y - t]? = some f ∧ dw.ls[y]? = some l ∧ f.Is eCell σ l)
    (hb : ∀ y, t ≤ y → y < t + m → d.ls[y]? = some (List.replicate w bl0)) (hr : ∀ y, ¬ (t ≤ y ∧ y < t + m) → d.ls[y]? = dw.ls[y]?) :
    ∀ (k y n : Nat), y + k = H → k < n →
      ∃ σ1, law09_GridLines_L14 (R := AVal × Heap) c_GridLines L n (some (p, 0)) (some (pw, 0)) (t : Int) (m : Int) v (H : Int) (y : Int) σ (fun v σ => some (v, σ)) = some (.bool true, σ1)
  | k, y, 0, _, h => by omega
  | 0, y, n + 1, h, _ => by
    rw [law09_GridLines_L14_eq, lt_false (by omega)]
    exact ⟨_, rfl⟩
  | k + 1, y, n + 1, h, hn => by
    have hy : y < H := by omega
    have p1 : c_GridLines.grid_Grid_Text = w_grid_Grid_Text := rfl
    have p2 : c_GridLines.law08_Same = w_law08_Same := rfl
    have rec' := GridLines_loop (L := L) hH hw60 r rw' hl hlw hv ho hb hr k (y + 1) n (by omega) (by omega)
    have same : ¬ (t ≤ y ∧ y < t + m) → ∃ (l : List api_Cell) (b : Nat) (e : Sl) (b' : Nat) (e' : Sl), d.q.b = some b ∧ slice? (σ.cell? b (d.q.o + y * 1)) 6 = some (e.b, e.o, e.n) ∧ dw.q.b = some b' ∧ slice? (σ.cell? b' (dw.q.o + y * 1)) 6 = some (e'.b, e'.o, e'.n) ∧ e.Is eCell σ l ∧ e'.Is eCell σ l ∧ y < d.q.n ∧ y < dw.q.n := fun hc => by
      have h1 := hr y hc
      have hyl : y < d.ls.length := by omega
      have h2 := List.getElem?_eq_getElem hyl
      obtain ⟨b, e, k1, k2, k3, k4, k5, k6, k7⟩ := r.line_at h2
      rw [h1] at h2
      obtain ⟨b', e', j1, j2, j3, j4, j5, j6, j7⟩ := rw'.line_at h2
      exact ⟨_, b, e, b', e', k1, k3, j1, j3, k4, j4, k6, j6⟩
    have ewr : IntKind.i64.wrap ((t : Int) + (m : Int)) = ((t + m : Nat) : Int) := by rw [show (t : Int) + (m : Int) = ((t + m : Nat) : Int) by omega, wrap_i64_nat _ (by omega)]
    rw [law09_GridLines_L14_eq, lt_true hy, cond_true, ewr, p1, p2, wrap_i64_succ y (by omega)]
    by_cases c1 : t ≤ y
    · rw [show decide ((y : Int) ≥ (t : Int)) = true by simpa using c1, cond_true]
      by_cases c2 : y < t + m
      · rw [lt_true c2, cond_true, w_grid_Grid_Text_eq r, Option.bind_some]
        have e1 : textG d (y : Int) = ⟨#[]⟩ := by
          unfold textG
          rw [if_pos (by omega), Int.toNat_natCast, hb y c1 c2]
          exact text_blank w
        obtain ⟨f, l, o1, o2, o3⟩ := ho y c1 c2
        obtain ⟨bv, hbv, hcv⟩ := sl_cell hv o1
        obtain ⟨b', e', j1, j2, j3, j4, j5, j6, j7⟩ := rw'.line_at o2
        have ey : IntKind.i64.wrap ((y : Int) - (t : Int)) = ((y - t : Nat) : Int) := by rw [wrap_i64_of (by omega) (by omega)]; omega
        have hvn : y - t < v.n := by rw [hv.n]; exact (List.getElem?_eq_some_iff.1 o1).1
        rw [e1]
        dsimp only
        rw [beq_self_eq_true, Bool.not_true, cond_false, ey, dec0, lt_true hvn, Bool.and_self, cond_true, Int.toNat_natCast, hbv, Option.bind_some, hcv, Option.bind_some]
        simp only [Option.bind_some, rw'.head.c2, dec0, lt_true j6, Bool.and_self, Int.toNat_natCast, j1, j3]
        rw [cond_true, w_law08_Same_eq o3 j4, Option.bind_some, decide_eq_true rfl]
        dsimp only
        rw [Bool.not_true, cond_false]
        exact rec'
      · rw [lt_false c2, cond_false]
        obtain ⟨l, b, e, b', e', k1, k3, j1, j3, i1, i2, k6, j6⟩ := same (fun hc => c2 hc.2)
        simp only [Option.bind_some, r.head.c2, dec0, lt_true k6, Bool.and_self, Int.toNat_natCast, k1, k3]
        rw [cond_true]
        simp only [Option.bind_some, rw'.head.c2, lt_true j6, Bool.and_self, j1, j3]
        rw [cond_true, w_law08_Same_eq i1 i2, Option.bind_some, decide_eq_true rfl]
        dsimp only
        rw [Bool.not_true, cond_false]
        exact rec'
    · rw [show decide ((y : Int) ≥ (t : Int)) = false by simp; omega, cond_false]
      obtain ⟨l, b, e, b', e', k1, k3, j1, j3, i1, i2, k6, j6⟩ := same (fun hc => c1 hc.1)
      simp only [Option.bind_some, r.head.c2, dec0, lt_true k6, Bool.and_self, Int.toNat_natCast, k1, k3]
      rw [cond_true]
      simp only [Option.bind_some, rw'.head.c2, lt_true j6, Bool.and_self, j1, j3]
      rw [cond_true, w_law08_Same_eq i1 i2, Option.bind_some, decide_eq_true rfl]
      dsimp only
      rw [Bool.not_true, cond_false]
      exact rec'
theorem Made.apart {σ σ1 σ2 : Heap} {p pc : Nat} {d dc d' : GD} {v : Pt} (g : Grid σ p d) (m : Made σ σ1 v pc dc) (t : Turn σ1 p d σ2 d') : Grid σ2 pc dc := by
  refine m.grid.same fun b hb => t.at_ b (m.grid.foot_lt hb) fun hm => ?_
  have h1 := g.foot_lt hm
  have h2 := m.new b hb
  omega
theorem law_GridLines (size : Arr_2_Int) (l : Sl) (n : Arr_3_Int) {σ : Heap} {xs : List api_Cell} (hn : l.n = xs.length) (hI : xs.length ≤ 1099511627776 → l.Is eCell σ xs) (hw : WideOK σ) :
    ∃ σ1, CallOK Tryd.prog T 9 [t_Arr_2_Int.av size, (tSl eCell.z).av l, t_Arr_3_Int.av n] σ (tBool.av true) σ1 := by
  have p1 : c_GridLines.law09_fit = w_law09_fit := rfl
  have p2 : c_GridLines.law09_Fill = w_law09_Fill := rfl
  have p3 : c_GridLines.grid_Grid_Copy = w_grid_Grid_Copy := rfl
  have p4 : c_GridLines.law09_within = w_law09_within := rfl
  have p5 : c_GridLines.grid_Grid_Up = w_grid_Grid_Up := rfl
  have p6 : c_GridLines.grid_Grid_Down = w_grid_Grid_Down := rfl
  have go : ∃ σ1, callC (R := AVal × Heap) T (O_law09_GridLines c_GridLines) 100 2 9 [.agg [.int .i64 size.i0, .int .i64 size.i1], .slice l.b l.o l.n 6, .agg [.int .i64 n.i0, .int .i64 n.i1, .int .i64 n.i2]] σ (fun v σ => some (v, σ)) = some (.bool true, σ1) := by
    rw [law09_GridLines_eq, p1, w_law09_fit_eq hw, Option.bind_some, hn]
    dsimp only
    rw [Bool.not_true, cond_false]
    by_cases h1 : xs.length ≤ 2000
    · rw [show decide ((xs.length : Int) > 2000) = false by simp; omega, cond_false, p2]
      generalize IntKind.i64.wrap ((IntKind.i64.wrap (BitVec.ofInt IntKind.i64.bits size.i0 &&& BitVec.ofInt IntKind.i64.bits 31).toNat) + 1) = w
      generalize IntKind.i64.wrap ((IntKind.i64.wrap (BitVec.ofInt IntKind.i64.bits size.i1 &&& BitVec.ofInt IntKind.i64.bits 31).toNat) + 1) = h
      obtain ⟨p, σ2, d, e1, m1, e2, e3, e4⟩ := w_law09_Fill_ex (w := w) (h := h) (hI (by omega)) (by omega) hw
      have g1 := m1.grid
      rw [e1, Option.bind_some, p3]
      dsimp only
      obtain ⟨pc, σ3, dc, f1, m2, f2, f3⟩ := w_grid_Grid_Copy_ex g1
      rw [f1, Option.bind_some, p4, p5, p6]
      dsimp only
      have g2 := g1.pre m2.pre
      have hh2 := g1.h2
      obtain ⟨es, t1, t2, t3⟩ := someR_eq n.i0 n.i1 n.i2 (h := d.ls.length) (by omega)
      have ew : IntKind.i64.wrap ((topN d.ls.length n.i1 : Int) - (topN d.ls.length n.i0 : Int)) = (topN d.ls.length n.i1 : Int) - (topN d.ls.length n.i0 : Int) := wrap_i64_of (by omega) (by omega)
      unfold someR at es
      rw [Prod.mk.injEq, Prod.mk.injEq] at es
      obtain ⟨es1, es2, es3⟩ := es
      rw [es1, es2] at es3
      simp only [Option.bind_some, g2.head.c1, w_law09_within, Heap.back_frz]
      rw [es1, es2, es3]
      obtain ⟨v, σ4, u1, d4, g4, t4, w4, l4, o4⟩ := w_grid_Grid_Up_ex g2 n.i0 n.i1 n.i2 ⟨false, false, false, 0, 0⟩
      rw [u1, Option.bind_some]
      dsimp only
      obtain ⟨σ5, v1, d5, g5, t5, w5, l5⟩ := w_grid_Grid_Down_ex g4 n.i0 n.i1 n.i2 ⟨false, false, false, 0, 0⟩
      rw [v1, Option.bind_some]
      dsimp only
      have o5 := o4.turn t5
      have gc := m2.apart g1 (t4.trans t5)
      obtain ⟨q1, q2, q3, q4, q5⟩ := updown (m := cntN d.ls.length n.i0 n.i1 n.i2) (ls := d.ls) (b := List.replicate d.w bl0) t1 t2 t3
      have l4' : d4.ls = upN d.ls (topN d.ls.length n.i0) (topN d.ls.length n.i1) (List.replicate d.w bl0) (cntN d.ls.length n.i0 n.i1 n.i2) := l4
      have hl4 : d4.ls.length = d.ls.length := by rw [l4', q1]
      have l5' : d5.ls = downN (upN d.ls (topN d.ls.length n.i0) (topN d.ls.length n.i1) (List.replicate d.w bl0) (cntN d.ls.length n.i0 n.i1 n.i2)) (topN d.ls.length n.i0) (topN d.ls.length n.i1) (List.replicate d.w bl0) (cntN d.ls.length n.i0 n.i1 n.i2) := by
        rw [l5]
        unfold downG
        rw [hl4, w4, l4']
        rfl
      have o5' : Outs σ5 p d5 v ((d.ls.drop (topN d.ls.length n.i0)).take (cntN d.ls.length n.i0 n.i1 n.i2)) := by
        rw [← q2]
        exact o5
      generalize topN d.ls.length n.i0 = t at *
      generalize topN d.ls.length n.i1 = e at *
      generalize cntN d.ls.length n.i0 n.i1 n.i2 = m at *
      have hl5 : d5.ls.length = d.ls.length := by rw [l5', q5]
      obtain ⟨oels, i1, i2, i3, i4⟩ := o5'
      have hvn : v.n = m := by rw [i1.n, i2]; simp; omega
      rw [hvn, show (((m : Nat) : Int) != (m : Int)) = false by simp, cond_false, g5.head.c1, Option.bind_some, hl5]
      refine GridLines_loop (L := 100) (w := d.w) hh2 (by omega) g5.r gc.r hl5 (by rw [f3]) i1 (fun y h1 h2 => ?_) (fun y h1 h2 => ?_) (fun y h1 => ?_) d.ls.length 0 100 (by omega) (by omega)
      · have hy : y < d.ls.length := by omega
        have ho : y - t < oels.length := by rw [i2]; simp; omega
        refine ⟨oels[y - t], d.ls[y], List.getElem?_eq_getElem ho, by rw [f3]; exact List.getElem?_eq_getElem hy, (i4 (y - t) _ _ (List.getElem?_eq_getElem ho) ?_).1⟩
        rw [List.getElem?_take, if_pos (by omega), List.getElem?_drop, show t + (y - t) = y by omega]
        exact List.getElem?_eq_getElem hy
      · rw [l5']; exact q4 y h1 h2
      · rw [l5', f3]; exact q3 y h1
    · rw [show decide ((xs.length : Int) > 2000) = true by simp; omega, cond_true]
      exact ⟨_, rfl⟩
  obtain ⟨σ1, h⟩ := go
  exact ⟨σ1, call_ok ok (K_law09_GridLines c_GridLines ok_law08_Same ok_law09_fit ok_law09_Fill ok_grid_Grid_Text ok_grid_Grid_Copy ok_law09_within ok_grid_Grid_Up ok_grid_Grid_Down) h⟩
end Go.Abs.TA
