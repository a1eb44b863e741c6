/-
CellRights answers true.
-/
import Derived.Test.YtcfohnfnajfahaaDoorConB4
namespace Go.Abs.TA
open Go Go.Abs Go.Proofs

noncomputable def c_CellRights : C_law08_CellRights := { law08_fit := w_law08_fit, ref08_Style := w_ref08_Style, cell_Style := w_cell_Style, ref07_Right := w_ref07_Right, cell_Right := w_cell_Right, vary_Of := w_vary_Of, cell_PutStyle := w_cell_PutStyle, cell_TakeStyle := w_cell_TakeStyle, cell_Blank := w_cell_Blank }
theorem setR_pre {σ0 σ : Heap} {p : Nat} {s : Sl} {bad : Bool} (h : σ0 <+: σ) (hp : σ0.length ≤ p) : σ0 <+: setR σ p s bad := by
  refine pre_of_get (by rw [setR_len]; exact h.length_le) fun b hb => ?_
  rw [setR_ne (by omega)]
  exact get_pre h hb
theorem numRes_pre {σ0 σ : Heap} {limit : Int} {p : Nat} {s : Sl} {bad : Bool} {xs : List UInt8} (h : σ0 <+: σ) (hp : σ0.length ≤ p) : σ0 <+: (numRes limit σ p s bad xs).2 := by
  unfold numRes
  cases numOK bad xs limit
  · exact setR_pre h hp
  · exact setR_pre h hp
theorem takeS_heap {σ : Heap} {p : Nat} {s : Sl} {bad : Bool} {xs : List UInt8} : (takeS σ p s bad xs).2 = (numRes 2048 σ p s bad xs).2 := by
  unfold takeS
  cases numOK bad xs 2048 && okS (styleOf (vtake xs).1) <;> rfl
theorem Of_rdr (σ : Heap) (b : Sl) : Rdr (σ ++ [.row [.slice b.b b.o b.n 1, .bool false] .rw]) σ.length b false := get_push ..
theorem takeS_cases {σ : Heap} {p : Nat} {s : Sl} {bad : Bool} {xs : List UInt8} : (∃ t, (takeS σ p s bad xs).1 = (t, true) ∧ okS t = true) ∨ (takeS σ p s bad xs).1 = (zeroS, false) := by
  unfold takeS
  cases h : numOK bad xs 2048 && okS (styleOf (vtake xs).1) with
  | true =>
    simp only [Bool.and_eq_true] at h
    exact .inl ⟨_, rfl, h.2⟩
  | false => exact .inr rfl
theorem takeS_put {σ : Heap} {p : Nat} {s : Sl} {st : api_Style} {rest : List UInt8} (h : okS st = true) : (takeS σ p s false (vput (bitsN st) ++ rest)).1 = (st, true) := by
  have hlt := bitsN_lt h
  have hv := vtake_vput (n := bitsN st) (by omega) rest
  have hne : (vput (bitsN st)).length ≠ 0 := fun e => vput_ne _ (List.eq_nil_of_length_eq_zero e)
  unfold takeS numOK
  rw [hv]
  simp only
  rw [style_back h, h, decide_eq_true ⟨hne, by omega⟩]
  rfl
theorem law_CellRights (c : api_Cell) (l : Sl) {σ : Heap} {xs : List UInt8} (hn : l.n = xs.length) (hI : xs.length ≤ 1099511627776 → l.Is eU8 σ xs) (hw : WideOK σ) :
    ∃ σ1, CallOK Tryd.prog T 7 [t_api_Cell.av c, (tSl eU8.z).av l] σ (tBool.av true) σ1 := by
  have hK := K_law08_CellRights c_CellRights ok_law08_fit ok_ref08_Style ok_cell_Style ok_ref07_Right ok_cell_Right ok_vary_Of ok_cell_PutStyle ok_cell_TakeStyle ok_cell_Blank
  have p1 : c_CellRights.law08_fit = w_law08_fit := rfl
  have p2 : c_CellRights.ref08_Style = w_ref08_Style := rfl
  have p3 : c_CellRights.cell_Style = w_cell_Style := rfl
  have p4 : c_CellRights.ref07_Right = w_ref07_Right := rfl
  have p5 : c_CellRights.cell_Right = w_cell_Right := rfl
  have p6 : c_CellRights.vary_Of = w_vary_Of := rfl
  have p7 : c_CellRights.cell_PutStyle = w_cell_PutStyle := rfl
  have p8 : c_CellRights.cell_TakeStyle = w_cell_TakeStyle := rfl
  have p9 : c_CellRights.cell_Blank = w_cell_Blank := rfl
  have go : ∃ σ1, callC (R := AVal × Heap) T (O_law08_CellRights c_CellRights) 0 2 7 [.agg [.int .i32 c.Rune, .bool c.Style.Bold, .bool c.Style.Under, .bool c.Style.Turned, .int .i64 c.Style.Fore, .int .i64 c.Style.Back], .slice l.b l.o l.n 1] σ (fun v σ => some (v, σ)) = some (.bool true, σ1) := by
    rw [law08_CellRights_eq, p1, w_law08_fit_eq hw, Option.bind_some, hn]
    simp only [Bool.not_true, cond_false]
    by_cases h1 : xs.length ≤ 100
    · rw [show decide ((xs.length : Int) > 100) = false by simp; omega, cond_false]
      have hl := hI (by omega)
      simp only [p2, p3, p4, p5, p9, w_ref08_Style, w_cell_Style, w_ref07_Right, w_cell_Right, w_cell_Blank, Option.bind_some, Heap.back_frz, beq_self_eq_true, Bool.not_true, cond_false]
      cases hs : okS c.Style with
      | false =>
        rw [show rightC c = false by unfold rightC; rw [hs, Bool.and_false]]
        exact ⟨_, rfl⟩
      | true =>
        rw [show rightC c = rightR c.Rune by unfold rightC; rw [hs, Bool.and_true]]
        simp only [cond_true, beq_self_eq_true, Bool.not_true, cond_false]
        have hP := w_cell_PutStyle_eq (b := ⟨none, 0, 0⟩) (s := c.Style) (σ := σ) (ys := []) (.nil rfl rfl rfl rfl) hs (by simp)
        rw [p7, hP, Option.bind_some]
        have hM0 : Mine eU8 σ (grow eU8 σ ⟨none, 0, 0⟩ ([] ++ vput (bitsN c.Style))).1 (grow eU8 σ ⟨none, 0, 0⟩ ([] ++ vput (bitsN c.Style))).2 ([] ++ vput (bitsN c.Style)) :=
          ⟨pre_push .., grow_own, fun d hd => by rw [grow_fst] at hd; simp at hd; omega⟩
        generalize grow eU8 σ ⟨none, 0, 0⟩ ([] ++ vput (bitsN c.Style)) = q10 at hM0 ⊢
        rw [List.nil_append] at hM0
        have hvl := vput_len10 (n := bitsN c.Style) (by have := bitsN_lt hs; omega)
        obtain ⟨q, σ2, ha, hM1⟩ := hM0.append (zs := xs) (bytes := 1) (vs := eU8.all xs) (k := xs.length) rfl rfl (by omega) (by omega)
        have hr : q10.2.read l.b l.o xs.length 1 = some (eU8.all xs) := by
          have := (hl.pre hM0.pre).read
          rw [hn] at this
          exact this
        have ha' : q10.2.append q10.1.b q10.1.o q10.1.n 1 1 (eU8.all xs) xs.length = some (q, σ2) := ha
        rw [hr, Option.bind_some, ha', Option.bind_some]
        simp only [p6, w_vary_Of, Option.bind_some, p8]
        -- the first reader
        have hlen2 := hM1.pre.length_le
        have r1 := Of_rdr σ2 ⟨q.1, q.2.1, q.2.2⟩
        have i1 := (hM1.own.is (by simp; omega)).pre (pre_push σ2 (.row [.slice q.1 q.2.1 q.2.2 1, .bool false] .rw))
        have pre3 := hM1.pre.trans (pre_push σ2 (.row [.slice q.1 q.2.1 q.2.2 1, .bool false] .rw))
        simp only at r1
        generalize (σ2 ++ [.row [.slice q.1 q.2.1 q.2.2 1, .bool false] .rw] : Heap) = σ3 at r1 i1 pre3 ⊢
        rw [w_cell_TakeStyle_eq ⟨rfl, r1, i1, by decide, by decide⟩, Option.bind_some]
        have pre4 : σ <+: (takeS σ3 σ2.length ⟨q.1, q.2.1, q.2.2⟩ false (vput (bitsN c.Style) ++ xs)).2 := by
          rw [takeS_heap]
          exact numRes_pre pre3 (by omega)
        have e1 := takeS_put (σ := σ3) (p := σ2.length) (s := ⟨q.1, q.2.1, q.2.2⟩) (rest := xs) hs
        generalize takeS σ3 σ2.length ⟨q.1, q.2.1, q.2.2⟩ false (vput (bitsN c.Style) ++ xs) = q14 at pre4 e1 ⊢
        rw [e1]
        -- the second one
        have r2 := Of_rdr q14.2 l
        have i2 := (hl.pre pre4).pre (pre_push q14.2 (.row [.slice l.b l.o l.n 1, .bool false] .rw))
        generalize (q14.2 ++ [.row [.slice l.b l.o l.n 1, .bool false] .rw] : Heap) = σ5 at r2 i2 ⊢
        rw [w_cell_TakeStyle_eq ⟨rfl, r2, i2, by decide, by decide⟩, Option.bind_some]
        have hc := takeS_cases (σ := σ5) (p := q14.2.length) (s := l) (bad := false) (xs := xs)
        generalize takeS σ5 q14.2.length l false xs = q17 at hc ⊢
        simp only [beq_self_eq_true, Bool.and_self, cond_true]
        rcases hc with ⟨t, e2, ht⟩ | e2
        · rw [e2]
          simp only [cond_true, ht]
          exact ⟨_, rfl⟩
        · rw [e2]
          simp only [cond_false, Bool.not_false, cond_true, zeroS]
          exact ⟨_, rfl⟩
    · rw [show decide ((xs.length : Int) > 100) = true by simp; omega, cond_true]
      exact ⟨_, rfl⟩
  obtain ⟨σ1, h⟩ := go
  exact ⟨σ1, call_ok ok hK h⟩
theorem conv_u8 (r : List AVal) (h : ShOKs [.int .u8] r) : ∃ a, eU8.en a = r ∧ True := by
  obtain ⟨_, _, rfl, ⟨n, rfl, hw⟩, rfl⟩ := h
  simp only [Lit.wf, Bool.and_eq_true, decide_eq_true_eq] at hw
  have h1 : IntKind.u8.min = 0 := by decide
  have h2 : IntKind.u8.max = 255 := by decide
  refine ⟨UInt8.ofNat n.toNat, ?_, trivial⟩
  show [AVal.int .u8 ((UInt8.ofNat n.toNat).toNat : Int)] = _
  rw [ofNat_toNat (by omega)]
  congr 2
  omega
end Go.Abs.TA
