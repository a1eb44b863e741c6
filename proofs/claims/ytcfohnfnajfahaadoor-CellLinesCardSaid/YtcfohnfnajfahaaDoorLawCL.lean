/-
CellLines answers true.
-/
import Derived.Test.YtcfohnfnajfahaaDoorMConD
import Derived.Test.YtcfohnfnajfahaaDoorMConA
import Derived.Test.YtcfohnfnajfahaaDoorEqA4
namespace Go.Abs.TA
open Go Go.Abs Go.Proofs

theorem of_rdr (σ : Heap) (b : Sl) : Rdr (σ ++ [.row [.slice b.b b.o b.n 1, .bool false] .rw]) σ.length b false := get_push ..
theorem But.pre {σ0 σ σ' : Heap} {p : Nat} (h : But p σ σ') (hp : σ0 <+: σ) (hl : σ0.length ≤ p) : σ0 <+: σ' := by
  have := hp.length_le
  refine pre_of_get (Nat.le_trans this h.1) fun b hb => ?_
  rw [h.2 b (by omega) (by omega)]
  exact get_pre hp hb
theorem tell_of {xs : List api_Cell} (h : Tamed xs) : ∀ c ∈ xs, Tell c := by
  intro c hc
  obtain ⟨h1, h2⟩ := h c hc
  rcases h2 with h2 | h2
  · exact ⟨by omega, by omega, h1⟩
  · unfold rightR at h2
    simp only [decide_eq_true_eq] at h2
    exact ⟨by omega, by omega, h1⟩
/-- A line is taken of a new reader. -/
def Took (σ σ' : Heap) (v : Sl × Bool) : Option (List api_Cell × List UInt8) → Prop
  | some (o, rest) => v.2 = true ∧ v.1.Own eCell σ' o ∧ ∃ s', Rdr σ' σ.length s' false ∧ s'.n = rest.length
  | none => v = (⟨none, 0, 0⟩, false)
theorem TakeLine_step {σ : Heap} {s : Sl} {xs : List UInt8} {W : Nat} (hs : s.Is eU8 σ xs) (hw : WideOK σ) (hW : W ≤ 1000000) :
    ∃ x, w_cell_TakeLine (some (σ.length, 0)) (W : Int) (σ ++ [.row [.slice s.b s.o s.n 1, .bool false] .rw]) = some x ∧ σ <+: x.2 ∧ Took σ x.2 x.1 (takeGo W W [] xs) := by
  have pre1 : σ <+: (σ ++ [.row [.slice s.b s.o s.n 1, .bool false] .rw] : Heap) := pre_push ..
  have r1 := of_rdr σ s
  generalize (σ ++ [.row [.slice s.b s.o s.n 1, .bool false] .rw] : Heap) = σ1 at r1 pre1 ⊢
  obtain ⟨x, hx, hP⟩ := w_cell_TakeLine_ex (r := some (σ.length, 0)) (W := (W : Int)) ⟨rfl, r1, hs.pre pre1, by omega, by omega, hw.pre pre1, fun e => by have := hs.lt e; omega⟩
  rw [Int.toNat_natCast] at hP
  refine ⟨x, hx, ?_⟩
  cases hg : takeGo W W [] xs with
  | none =>
    rw [hg] at hP
    exact ⟨hP.2.pre pre1 (Nat.le_refl _), hP.1⟩
  | some y =>
    obtain ⟨o, rest⟩ := y
    rw [hg] at hP
    obtain ⟨e, s', ht⟩ := hP
    exact ⟨ht.but.pre pre1 (Nat.le_refl _), e, ht.own, s', ht.rdr, ht.is.n⟩
theorem i64_and16 (w : Int) : ∃ k : Nat, k ≤ 65535 ∧ IntKind.i64.wrap (BitVec.ofInt IntKind.i64.bits w &&& BitVec.ofInt IntKind.i64.bits 65535).toNat = (k : Int) := by
  have h : (BitVec.ofInt IntKind.i64.bits w &&& BitVec.ofInt IntKind.i64.bits 65535).toNat ≤ 65535 := by
    rw [BitVec.toNat_and]
    exact Nat.and_le_right
  exact ⟨_, h, wrap_i64_nat _ (by omega)⟩
theorem tmod_nat (a b : Nat) : Int.tmod (a : Int) (b : Int) = ((a % b : Nat) : Int) := rfl
theorem lineB_small : ∀ (n : Nat) {ls : List api_Cell}, (∀ c ∈ ls, Tell c) → ls.length ≤ n → n ≤ 1000000 → (lineB ls).length ≤ 30 * n := by
  intro n
  induction n with
  | zero =>
    intro ls _ h _
    obtain rfl : ls = [] := List.eq_nil_of_length_eq_zero (by omega)
    rw [lineB_nil]; simp
  | succ n ih =>
    intro ls ht h hn
    cases ls with
    | nil => rw [lineB_nil]; simp
    | cons c cs =>
      have hr := runLen_le c cs
      obtain ⟨t1, t2, t3⟩ := ht c List.mem_cons_self
      have hb := bitsN_lt t3
      have h' : cs.length ≤ n := by simpa using h
      have := ih (ls := cs.drop (runLen c cs)) (fun x hx => ht x (List.mem_cons_of_mem _ (List.mem_of_mem_drop hx))) (by simp; omega) (by omega)
      have b1 := vput_len10 (n := runLen c cs + 1) (by omega)
      have b2 := vput_len10 (n := c.Rune.toNat) (by omega)
      have b3 := vput_len10 (n := bitsN c.Style) (by omega)
      rw [lineB_cons]
      simp only [List.length_append]
      omega
noncomputable def c_CellLines : C_law08_CellLines := { law08_fit := w_law08_fit, law08_Tame := w_law08_Tame, ref08_Mend := w_ref08_Mend, law08_Same := w_law08_Same, vary_Of := w_vary_Of, cell_TakeLine := w_cell_TakeLine, cell_PutLine := w_cell_PutLine, vary_Reader_Done := w_vary_Reader_Done }
theorem law_CellLines (l : Sl) (cut : Int) {σ : Heap} {xs : List api_Cell} (hn : l.n = xs.length) (hI : xs.length ≤ 1099511627776 → l.Is eCell σ xs) (hw : WideOK σ) :
    ∃ σ1, CallOK Tryd.prog T 12 [(tSl eCell.z).av l, (tInt .i64).av cut] σ (tBool.av true) σ1 := by
  have hK := K_law08_CellLines c_CellLines ok_law08_fit ok_law08_Tame ok_ref08_Mend ok_law08_Same ok_vary_Of ok_cell_TakeLine ok_cell_PutLine ok_vary_Reader_Done
  have p1 : c_CellLines.law08_fit = w_law08_fit := rfl
  have p2 : c_CellLines.law08_Tame = w_law08_Tame := rfl
  have p3 : c_CellLines.ref08_Mend = w_ref08_Mend := rfl
  have p4 : c_CellLines.law08_Same = w_law08_Same := rfl
  have p5 : c_CellLines.vary_Of = w_vary_Of := rfl
  have p6 : c_CellLines.cell_TakeLine = w_cell_TakeLine := rfl
  have p7 : c_CellLines.cell_PutLine = w_cell_PutLine := rfl
  have p8 : c_CellLines.vary_Reader_Done = w_vary_Reader_Done := rfl
  have go : ∃ σ1, callC (R := AVal × Heap) T (O_law08_CellLines c_CellLines) 0 2 12 [.slice l.b l.o l.n 6, .int .i64 cut] σ (fun v σ => some (v, σ)) = some (.bool true, σ1) := by
    rw [law08_CellLines_eq, p1, w_law08_fit_eq hw, Option.bind_some, hn]
    simp only [Bool.not_true, cond_false]
    by_cases h0 : xs = []
    · subst h0
      exact ⟨_, rfl⟩
    have hpos : 0 < xs.length := List.length_pos_iff.2 h0
    rw [show ((xs.length : Int) == 0) = false by rw [beq_eq_false_iff_ne]; omega, cond_false]
    by_cases h1 : xs.length ≤ 100
    · rw [show decide ((xs.length : Int) > 100) = false by simp; omega, cond_false]
      have hl := hI (by omega)
      rw [p2, w_law08_Tame_eq hl (by omega), Option.bind_some]
      have ht := tamed_map xs
      generalize hys : xs.map tameC = ys at ht ⊢
      have hyl : ys.length = xs.length := by rw [← hys, List.length_map]
      have hnil : decide (xs = []) = true → ys = [] := by
        intro h
        simp at h
        exact absurd h h0
      have A := fresh_own eCell σ (decide (xs = [])) ys hnil
      have AP := fresh_pre eCell σ (decide (xs = [])) ys
      generalize fresh eCell σ (decide (xs = [])) ys = q3 at A AP ⊢
      have I3 := A.is (by omega)
      have w3 := hw.pre AP
      rw [p3, w_ref08_Mend_eq I3 (by omega), Option.bind_some]
      have B := fresh_own eCell q3.2 (decide (ys = [])) (mend ys) (fun h => by simp at h; rw [h]; rfl)
      have BP := fresh_pre eCell q3.2 (decide (ys = [])) (mend ys)
      generalize fresh eCell q3.2 (decide (ys = [])) (mend ys) = q4 at B BP ⊢
      have hWl := whole_mend ht
      have hTl := tell_of (tamed_mend ht)
      have hLl : (mend ys).length = xs.length := by rw [mend_len, hyl]
      generalize mend ys = ls at B hWl hTl hLl ⊢
      have I4 := B.is (by omega)
      have w4 := w3.pre BP
      simp only [alloc]
      have o7 : Sl.Own ⟨some q4.2.length, 0, 1⟩ eU8 (q4.2 ++ [.row [.int .u8 7] .rw]) [7] := Sl.Own.new (E := eU8) (xs := [7])
      have pre7 : q4.2 <+: (q4.2 ++ [.row [.int .u8 7] .rw] : Heap) := pre_push ..
      have new7 : ∀ b, q4.1.b = some b → b ≠ q4.2.length := fun b hb e => by have := I4.lt hb; omega
      generalize hb7 : q4.2.length = b7 at o7 new7 ⊢
      have hb7' : b7 < (q4.2 ++ [.row [.int .u8 7] .rw] : Heap).length := by rw [← hb7]; simp
      generalize (q4.2 ++ [.row [.int .u8 7] .rw] : Heap) = σ7 at o7 pre7 hb7' ⊢
      have I7 := I4.pre pre7
      have hne : ls ≠ [] := fun e => by rw [e] at hLl; simp at hLl; omega
      rw [p7, w_cell_PutLine_eq (ys := [7]) (xs := ls) ⟨o7, I7, hTl, by omega, by simp; omega, fun d hd e => by
        injection hd with hd
        exact new7 d e hd.symm⟩, Option.bind_some, if_neg hne]
      have G := grow_own (E := eU8) (σ := σ7) (s := ⟨some b7, 0, 1⟩) (zs := [7] ++ lineB ls)
      have GK := grow_kept (E := eU8) (σ := σ7) (s := ⟨some b7, 0, 1⟩) (zs := [7] ++ lineB ls)
      generalize grow eU8 σ7 ⟨some b7, 0, 1⟩ ([7] ++ lineB ls) = q8 at G GK ⊢
      have I8 := I7.kept GK (fun b hb e => new7 b e (by injection hb with hb; exact hb.symm))
      have w8 : WideOK q8.2 := by
        have w7 := w4.pre pre7
        have h4 : 0 < b7 := by rw [← hb7]; exact (List.getElem?_eq_some_iff.1 w4).1
        unfold WideOK at w7 ⊢
        rw [GK.at_ 0 (by omega) (fun e => by injection e with e; omega)]
        exact w7
      have hbs : 0 < (lineB ls).length := by
        cases ls with
        | nil => exact absurd rfl hne
        | cons c cs => exact List.length_pos_iff.2 lineB_ne
      have hbl : (lineB ls).length ≤ 1000000 := Nat.le_trans (lineB_small 100 hTl (by omega) (by omega)) (by omega)
      have n8 : q8.1.n = (lineB ls).length + 1 := by rw [G.len]; simp
      have IG := G.is (by simp; omega)
      have IT : Sl.Is ⟨q8.1.b, q8.1.o + 1 * 1, q8.1.n - 1⟩ eU8 q8.2 (lineB ls) := IG.drop (k := 1) (by simp)
      obtain ⟨b9, hb9, hc9⟩ := u8_cell IG (i := 0) (x := 7) rfl
      have hc9' : q8.2.cell? b9 q8.1.o = some (.int .u8 7) := by simpa using hc9
      rw [show decide ((q8.1.n : Int) < 2) = false by simp; omega, show decide ((0 : Int) < (q8.1.n : Int)) = true by simp; omega, hb9]
      simp only [cond_false, cond_true, Option.bind_some, hc9', int?, if_true]
      rw [show ((7 : Int) != 7) = false by decide, cond_false, show decide ((1 : Int) ≤ (q8.1.n : Int)) = true by simp; omega, show decide ((q8.1.n : Int) ≤ (q8.1.n : Int)) = true from decide_eq_true (Int.le_refl _)]
      simp only [Bool.and_self, cond_true, p5, w_vary_Of, Option.bind_some, p6]
      rw [hb9] at IT
      have hq5 : q4.1.n = ls.length := B.len
      rw [hq5]
      rw [show q8.1.n - 1 = (lineB ls).length by omega] at IT ⊢
      rw [Nat.one_mul] at IT
      -- the whole one
      obtain ⟨x1, e1, pr1, k1⟩ := TakeLine_step IT w8 (W := ls.length) (by omega)
      have gb := takeGo_back (l := ls) (rest := []) hWl hTl (by omega) (Nat.le_refl _)
      rw [List.append_nil] at gb
      rw [gb] at k1
      obtain ⟨k11, k12, s', k13, k14⟩ := k1
      rw [e1, Option.bind_some, k11]
      simp only [Bool.not_true, cond_false, p8]
      rw [w_vary_Reader_Done_eq k13, Option.bind_some, k14]
      simp only [List.length_nil, Bool.not_false, Bool.true_and, decide_true, Bool.not_true, cond_false, Int.cast_ofNat_Int]
      rw [p4, w_law08_Same_eq (k12.is (by omega)) (I8.pre pr1), Option.bind_some, decide_eq_true rfl]
      simp only [Bool.not_true, cond_false]
      rw [if_neg (by omega)]
      obtain ⟨k, hk, ek⟩ := i64_and16 cut
      have hm : k % (lineB ls).length < (lineB ls).length := Nat.mod_lt _ hbs
      rw [ek, tmod_nat, dec0, show decide (((k % (lineB ls).length : Nat) : Int) ≤ ((lineB ls).length : Int)) = true by simp; omega, Bool.and_self, cond_true, Int.toNat_natCast]
      generalize k % (lineB ls).length = j at hm ⊢
      -- cut off
      obtain ⟨x2, e2, pr2, k2⟩ := TakeLine_step ((IT.pre pr1).take (k := j) (by omega)) (w8.pre pr1) (W := ls.length) (by omega)
      rw [takeGo_cut hWl hTl (by omega) (Nat.le_refl _) hm] at k2
      obtain ⟨⟨v2, b2⟩, σ2⟩ := x2
      obtain ⟨rfl, rfl⟩ : v2 = ⟨none, 0, 0⟩ ∧ b2 = false := by injection k2 with h1 h2; exact ⟨h1, h2⟩
      rw [e2, Option.bind_some]
      simp only
      -- one more
      have IT2 := (IT.pre pr1).pre pr2
      obtain ⟨x3, e3, pr3, k3⟩ := TakeLine_step IT2 ((w8.pre pr1).pre pr2) (W := ls.length + 1) (by omega)
      rw [takeGo_more hTl (by omega) (by omega)] at k3
      obtain ⟨⟨v3, b3⟩, σ3⟩ := x3
      obtain ⟨rfl, rfl⟩ : v3 = ⟨none, 0, 0⟩ ∧ b3 = false := by injection k3 with h1 h2; exact ⟨h1, h2⟩
      rw [wrap_i64_succ _ (by omega), e3, Option.bind_some]
      simp only
      -- none
      have IT3 := IT2.pre pr3
      obtain ⟨x4, e4, pr4, k4⟩ := TakeLine_step IT3 (((w8.pre pr1).pre pr2).pre pr3) (W := 0) (by omega)
      rw [takeGo_zero] at k4
      obtain ⟨k41, k42, _⟩ := k4
      have e4' : w_cell_TakeLine _ 0 _ = some x4 := e4
      rw [e4', Option.bind_some, k41, k42.len]
      exact ⟨_, rfl⟩
    · rw [show decide ((xs.length : Int) > 100) = true by simp; omega, cond_true]
      exact ⟨_, rfl⟩
  obtain ⟨σ1, h⟩ := go
  exact ⟨σ1, call_ok ok hK h⟩
end Go.Abs.TA
