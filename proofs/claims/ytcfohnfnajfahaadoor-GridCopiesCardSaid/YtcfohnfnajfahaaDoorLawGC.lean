/-
GridCopies answers true.
-/
import Derived.Test.YtcfohnfnajfahaaDoorMConH
namespace Go.Abs.TA
open Go Go.Abs Go.Proofs

theorem and31 (w : Int) : ∃ k : Nat, k ≤ 31 ∧ IntKind.i64.wrap (BitVec.ofInt IntKind.i64.bits w &&& BitVec.ofInt IntKind.i64.bits 31).toNat = (k : Int) := by
  have h : (BitVec.ofInt IntKind.i64.bits w &&& BitVec.ofInt IntKind.i64.bits 31).toNat ≤ 31 := by
    rw [BitVec.toNat_and]
    exact Nat.and_le_right
  exact ⟨_, h, wrap_i64_nat _ (by omega)⟩
theorem bring_id {k : Nat} (h1 : 1 ≤ k) (h2 : k ≤ 60) : (bringI (k : Int)).toNat = k := by
  unfold bringI within
  split <;> split <;> omega
theorem keep_grid {σ σ' : Heap} {p pc : Nat} {d dc dc' : GD} (g : Grid σ p d) (t : Turn σ pc dc σ' dc') (ha : ∀ b, some b ∈ d.foot p → some b ∉ dc.foot pc) : Grid σ' p d :=
  g.same fun b hm => t.at_ b (g.foot_lt hm) (ha b hm)
noncomputable def c_GridCopies : C_law09_GridCopies := { law09_fit := w_law09_fit, law09_Fill := w_law09_Fill, grid_Grid_Copy := w_grid_Grid_Copy, grid_Same := w_grid_Same, law09_do := w_law09_do, law09_equal := w_law09_equal, grid_New := w_grid_New }
theorem law_GridCopies (size : Arr_2_Int) (l : Sl) (dd : law09_Deed) {σ : Heap} {xs : List api_Cell} (hn : l.n = xs.length) (hI : xs.length ≤ 1099511627776 → l.Is eCell σ xs) (hw : WideOK σ) :
    ∃ σ1, CallOK Tryd.prog T 16 [t_Arr_2_Int.av size, (tSl eCell.z).av l, t_law09_Deed.av dd] σ (tBool.av true) σ1 := by
  have p1 : c_GridCopies.law09_fit = w_law09_fit := rfl
  have p2 : c_GridCopies.law09_Fill = w_law09_Fill := rfl
  have p3 : c_GridCopies.grid_Grid_Copy = w_grid_Grid_Copy := rfl
  have p4 : c_GridCopies.grid_Same = w_grid_Same := rfl
  have p5 : c_GridCopies.law09_do = w_law09_do := rfl
  have p6 : c_GridCopies.law09_equal = w_law09_equal := rfl
  have p7 : c_GridCopies.grid_New = w_grid_New := rfl
  have go : ∃ σ1, callC (R := AVal × Heap) T (O_law09_GridCopies c_GridCopies) 100 2 16 [.agg [.int .i64 size.i0, .int .i64 size.i1], .slice l.b l.o l.n 6, .agg [.int .i64 dd.Kind, .int .i64 dd.A, .int .i64 dd.B, .int .i64 dd.C, .int .i32 dd.Cell.Rune, .bool dd.Cell.Style.Bold, .bool dd.Cell.Style.Under, .bool dd.Cell.Style.Turned, .int .i64 dd.Cell.Style.Fore, .int .i64 dd.Cell.Style.Back]] σ (fun v σ => some (v, σ)) = some (.bool true, σ1) := by
    rw [law09_GridCopies_eq, p1, w_law09_fit_eq hw, Option.bind_some, hn]
    dsimp only
    rw [Bool.not_true, cond_false]
    by_cases h1 : xs.length ≤ 2000
    · rw [show decide ((xs.length : Int) > 2000) = false by simp; omega, cond_false, p2]
      obtain ⟨k0, hk0, ek0⟩ := and31 size.i0
      obtain ⟨k1, hk1, ek1⟩ := and31 size.i1
      rw [ek0, ek1, wrap_i64_succ k0 (by omega), wrap_i64_succ k1 (by omega)]
      obtain ⟨p, σ2, d, e1, m1, e2, e3, e4⟩ := w_law09_Fill_ex (w := ((k0 + 1 : Nat) : Int)) (h := ((k1 + 1 : Nat) : Int)) (hI (by omega)) (by omega) hw
      rw [bring_id (by omega) (by omega)] at e2 e3
      have g1 := m1.grid
      rw [e1, Option.bind_some, p3]
      dsimp only
      obtain ⟨pc, σ3, dc, f1, m2, f2, f3⟩ := w_grid_Grid_Copy_ex g1
      rw [f1, Option.bind_some]
      dsimp only
      obtain ⟨pw, σ4, dw, j1, m3, j2, j3⟩ := w_grid_Grid_Copy_ex (g1.pre m2.pre)
      rw [j1, Option.bind_some]
      dsimp only
      have gd4 := (g1.pre m2.pre).pre m3.pre
      have gc4 := m2.grid.pre m3.pre
      have gw4 := m3.grid
      have hw4 := ((hw.pre m1.pre).pre m2.pre).pre m3.pre
      rw [p4, w_grid_Same_eq gd4.r gc4.r, Option.bind_some, decide_eq_true ⟨f2.symm, f3.symm⟩]
      dsimp only
      rw [Bool.not_true, cond_false, p5]
      obtain ⟨v, σ5, u1, d5, g5, t5, w5, l5, _⟩ := w_law09_do_ex gc4 hw4 dd
      rw [u1, Option.bind_some]
      dsimp only
      have a2 := m2.pre.length_le
      have a3 := m3.pre.length_le
      have gd5 := keep_grid gd4 t5 fun b hm hm' => by
        have := g1.foot_lt hm
        have := m2.new b hm'
        omega
      have gw5 := keep_grid gw4 t5 fun b hm hm' => by
        have := m3.new b hm
        have := m2.grid.foot_lt hm'
        omega
      have hh2 := d.ls.length
      have hd2 := g1.h2
      have hd1 := g1.h1
      have new : ∀ τ : Heap, Grid τ p d → ∃ σ1, (((int? (τ.cell? p 0) .i64).bind fun x27 => (int? (τ.cell? p (0 + 1)) .i64).bind fun x29 => (w_grid_New (IntKind.i64.wrap (x27 + 1)) x29 τ.frz).bind fun q30 => (w_grid_Same (some (p, 0)) q30.1 (Heap.back τ q30.2)).bind fun q31 => some (AVal.bool (!q31.1), q31.2)) : Option (AVal × Heap)) = some (.bool true, σ1) := fun τ g => by
        obtain ⟨pn, σn, dn, n1, n2, n3, n4⟩ := w_grid_New_ex ((d.w + 1 : Nat) : Int) (d.ls.length : Int) τ.frz
        rw [bring_id (by omega) (by omega)] at n3
        rw [g.head.c0, Option.bind_some, g.head.c1, Option.bind_some, wrap_i64_succ d.w (by omega), n1, Option.bind_some]
        dsimp only
        obtain ⟨ext, x1, x2⟩ := back_pre n2.pre
        have gn : Grid (τ.back σn) pn dn := n2.grid.same fun b hm => by
          rw [x2, x1]
          have hb := n2.new b hm
          rw [len_frz] at hb
          rw [List.getElem?_append_right hb, List.getElem?_append_right (by rw [len_frz]; exact hb), len_frz]
        have gt : Grid (τ.back σn) p d := g.pre (by rw [x2]; exact List.prefix_append ..)
        rw [w_grid_Same_eq gt.r gn.r, Option.bind_some, show decide (d.w = dn.w ∧ d.ls = dn.ls) = false by simp; intro e; omega]
        exact ⟨_, rfl⟩
      simp only [Option.bind_some, g5.head.c0, gw5.head.c0, p6, p7]
      by_cases hc : d5.w = dw.w
      · rw [show (((d5.w : Nat) : Int) == (dw.w : Int)) = true by simp [hc], cond_true]
        simp only [Option.bind_some, g5.head.c2, gw5.head.c2]
        rw [w_law09_equal_eq (xs := d5.ls) (ys := dw.ls) g5.r.ls gw5.r.ls (by have := g5.h2; omega), Option.bind_some]
        dsimp only
        rw [w_grid_Same_eq gd5.r gw5.r, Option.bind_some, decide_eq_true ⟨j2.symm, j3.symm⟩]
        dsimp only
        rw [cond_true]
        simp only [Option.bind_some, gd5.head.c2, gw5.head.c2]
        rw [w_law09_equal_eq (xs := d.ls) (ys := dw.ls) gd5.r.ls gw5.r.ls (by omega), Option.bind_some, decide_eq_true j3.symm]
        dsimp only
        rw [cond_true, w_grid_Same_eq gd5.r.frz g5.r.frz, Option.bind_some]
        dsimp only
        rw [show (decide (d.w = d5.w ∧ d.ls = d5.ls) == decide (d5.ls = dw.ls)) = true by
          rw [beq_iff_eq, Bool.eq_iff_iff, decide_eq_true_eq, decide_eq_true_eq, j3]
          exact ⟨fun h => h.2.symm, fun h => ⟨by rw [hc, j2], h.symm⟩⟩, cond_true, Heap.back_frz]
        exact new σ5 gd5
      · rw [show (((d5.w : Nat) : Int) == (dw.w : Int)) = false by rw [beq_eq_false_iff_ne]; omega, cond_false, w_grid_Same_eq gd5.r gw5.r, Option.bind_some, decide_eq_true ⟨j2.symm, j3.symm⟩]
        dsimp only
        rw [cond_true]
        simp only [Option.bind_some, gd5.head.c2, gw5.head.c2]
        rw [w_law09_equal_eq (xs := d.ls) (ys := dw.ls) gd5.r.ls gw5.r.ls (by omega), Option.bind_some, decide_eq_true j3.symm]
        dsimp only
        rw [cond_true, w_grid_Same_eq gd5.r.frz g5.r.frz, Option.bind_some]
        dsimp only
        rw [show decide (d.w = d5.w ∧ d.ls = d5.ls) = false by simp; intro e; exact absurd (by rw [← e, j2]) hc, show (false == false) = true from rfl, cond_true, Heap.back_frz]
        exact new σ5 gd5
    · rw [show decide ((xs.length : Int) > 2000) = true by simp; omega, cond_true]
      exact ⟨_, rfl⟩
  obtain ⟨σ1, h⟩ := go
  exact ⟨σ1, call_ok ok (K_law09_GridCopies c_GridCopies ok_law09_fit ok_law09_Fill ok_grid_Grid_Copy ok_grid_Same ok_law09_do ok_law09_equal ok_grid_New) h⟩
end Go.Abs.TA
