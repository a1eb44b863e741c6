/-
Lifted functions: what the machine does, one equation for each entry and each loop (printed by lift.py).
-/
import Derived.Test.YtcfohnfnajfahaaDoorSigA
namespace Go.Abs.TA
open Go Go.Abs Go.Proofs
/-! grid_Grid_Resize -/
noncomputable def grid_Grid_Resize_L6 {R : Type} (w : C_grid_Grid_Resize) (L fu0 : Nat) (g1 : Pt) (w_1 : Int) (h_2 : Int) (x10 : Option Nat × Nat × Nat) (x8 : Int) (away4 : Int) (lines_3 : Sl) (x12 : Option Nat × Nat × Nat) (x_4 : Int) (σ : Heap) (K : AVal → Heap → Option R) : Option R :=
  loopAt T (O_grid_Grid_Resize w) L 1 46 Tryd.f46 [1, 1, 1, 1, 1, 0, 1, 0] [] fu0
    ([.ptr g1, .int .i64 w_1, .int .i64 h_2] ++ List.replicate 6 .undef ++ [.slice x10.1 x10.2.1 ((if x8 < (if 0 > away4 then 0 else away4) then x8 else (if 0 > away4 then 0 else away4)).toNat) 1, .slice lines_3.b lines_3.o lines_3.n 1] ++ List.replicate 25 .undef ++ [.slice x12.1 (x12.2.1 + ((if x8 < (if 0 > away4 then 0 else away4) then x8 else (if 0 > away4 then 0 else away4)).toNat) * 1) (x12.2.2 - (if x8 < (if 0 > away4 then 0 else away4) then x8 else (if 0 > away4 then 0 else away4)).toNat) 1, .int .i64 (((x12.2.2 - (if x8 < (if 0 > away4 then 0 else away4) then x8 else (if 0 > away4 then 0 else away4)).toNat) : Nat) : Int), .int .i64 x_4] ++ List.replicate 37 .undef)
    (List.replicate 76 .none) σ K
noncomputable def grid_Grid_Resize_L11 {R : Type} (w : C_grid_Grid_Resize) (L fu0 : Nat) (g1 : Pt) (w_1 : Int) (h_2 : Int) (x10 : Option Nat × Nat × Nat) (x8 : Int) (away4 : Int) (lines_5 : Sl) (σ : Heap) (K : AVal → Heap → Option R) : Option R :=
  loopAt T (O_grid_Grid_Resize w) L 1 46 Tryd.f46 [1, 1, 1, 1, 1, 1, 0, 0] [] fu0
    ([.ptr g1, .int .i64 w_1, .int .i64 h_2] ++ List.replicate 6 .undef ++ [.slice x10.1 x10.2.1 ((if x8 < (if 0 > away4 then 0 else away4) then x8 else (if 0 > away4 then 0 else away4)).toNat) 1, .slice lines_5.b lines_5.o lines_5.n 1] ++ List.replicate 65 .undef)
    (List.replicate 76 .none) σ K
set_option maxRecDepth 100000 in
theorem grid_Grid_Resize_L6_eq {R : Type} (w : C_grid_Grid_Resize) (L fu0 : Nat) (g1 : Pt) (w_1 : Int) (h_2 : Int) (x10 : Option Nat × Nat × Nat) (x8 : Int) (away4 : Int) (lines_3 : Sl) (x12 : Option Nat × Nat × Nat) (x_4 : Int) (σ : Heap) (K : AVal → Heap → Option R) :
    grid_Grid_Resize_L6 w L (fu0 + 1) g1 w_1 h_2 x10 x8 away4 lines_3 x12 x_4 σ K =
    bif (decide (x_4 < (((x12.2.2 - (if x8 < (if 0 > away4 then 0 else away4) then x8 else (if 0 > away4 then 0 else away4)).toNat) : Nat) : Int))) then (
      bif ((decide (0 ≤ x_4)) && (decide (x_4 < (((x12.2.2 - (if x8 < (if 0 > away4 then 0 else away4) then x8 else (if 0 > away4 then 0 else away4)).toNat) : Nat) : Int)))) then (
        (x12.1).bind fun b13 =>
        (slice? (Heap.cell? σ b13 ((x12.2.1 + ((if x8 < (if 0 > away4 then 0 else away4) then x8 else (if 0 > away4 then 0 else away4)).toNat) * 1) + x_4.toNat * 1)) 6).bind fun x14 =>
        bif (decide ((lines_3.n : Int) < h_2)) then (
          (w.grid_Fit ⟨x14.1, x14.2.1, x14.2.2⟩ w_1 σ).bind fun q15 =>
          (Heap.append q15.2 lines_3.b lines_3.o lines_3.n 1 24 [.slice q15.1.b q15.1.o q15.1.n 6] 1).bind fun q16 =>
          grid_Grid_Resize_L6 w L fu0 g1 w_1 h_2 x10 x8 away4 ⟨q16.1.1, q16.1.2.1, q16.1.2.2⟩ x12 (IntKind.i64.wrap (x_4 + 1)) q16.2 K)
        else grid_Grid_Resize_L6 w L fu0 g1 w_1 h_2 x10 x8 away4 lines_3 x12 (IntKind.i64.wrap (x_4 + 1)) σ K)
      else none)
    else grid_Grid_Resize_L11 w L L g1 w_1 h_2 x10 x8 away4 lines_3 σ K := by kernel_rfl
set_option maxRecDepth 100000 in
theorem grid_Grid_Resize_L11_eq {R : Type} (w : C_grid_Grid_Resize) (L fu0 : Nat) (g1 : Pt) (w_1 : Int) (h_2 : Int) (x10 : Option Nat × Nat × Nat) (x8 : Int) (away4 : Int) (lines_5 : Sl) (σ : Heap) (K : AVal → Heap → Option R) :
    grid_Grid_Resize_L11 w L (fu0 + 1) g1 w_1 h_2 x10 x8 away4 lines_5 σ K =
    bif (decide ((lines_5.n : Int) < h_2)) then (
      (w.grid_blank w_1 ⟨false, false, false, 0, 0⟩ σ).bind fun q17 =>
      (Heap.append q17.2 lines_5.b lines_5.o lines_5.n 1 24 [.slice q17.1.b q17.1.o q17.1.n 6] 1).bind fun q18 =>
      grid_Grid_Resize_L11 w L fu0 g1 w_1 h_2 x10 x8 away4 ⟨q18.1.1, q18.1.2.1, q18.1.2.2⟩ q18.2 K)
    else
    (g1).bind fun q19 =>
    (Heap.store σ q19.1 q19.2 [.int .i64 w_1]).bind fun σ20 =>
    (g1).bind fun q21 =>
    (Heap.store σ20 q21.1 (q21.2 + 1) [.int .i64 h_2]).bind fun σ22 =>
    (g1).bind fun q23 =>
    (Heap.store σ22 q23.1 (q23.2 + 2) [.slice lines_5.b lines_5.o lines_5.n 1]).bind fun σ24 =>
    K (.slice x10.1 x10.2.1 ((if x8 < (if 0 > away4 then 0 else away4) then x8 else (if 0 > away4 then 0 else away4)).toNat) 1) σ24 := by kernel_rfl
set_option maxRecDepth 100000 in
theorem grid_Grid_Resize_eq {R : Type} (w : C_grid_Grid_Resize) (L : Nat) (g1 : Pt) (w2 : Int) (h3 : Int) (away4 : Int) (σ : Heap) (K : AVal → Heap → Option R) :
    callC T (O_grid_Grid_Resize w) L 2 46 [.ptr g1, .int .i64 w2, .int .i64 h3, .int .i64 away4] σ K =
    (w.grid_bring w2 σ).bind fun q5 =>
    (w.grid_bring h3 q5.2).bind fun q6 =>
    (g1).bind fun q7 =>
    (int? (Heap.cell? q6.2 q7.1 (q7.2 + 1)) .i64).bind fun x8 =>
    (g1).bind fun q9 =>
    (slice? (Heap.cell? q6.2 q9.1 (q9.2 + 2)) 1).bind fun x10 =>
    bif (((decide (0 ≤ (if x8 < (if 0 > away4 then 0 else away4) then x8 else (if 0 > away4 then 0 else away4)))) && (decide ((if x8 < (if 0 > away4 then 0 else away4) then x8 else (if 0 > away4 then 0 else away4)) ≤ (if x8 < (if 0 > away4 then 0 else away4) then x8 else (if 0 > away4 then 0 else away4))))) && (decide ((if x8 < (if 0 > away4 then 0 else away4) then x8 else (if 0 > away4 then 0 else away4)) ≤ (x10.2.2 : Int)))) then (
      (g1).bind fun q11 =>
      (slice? (Heap.cell? q6.2 q11.1 (q11.2 + 2)) 1).bind fun x12 =>
      bif (((decide (0 ≤ (if x8 < (if 0 > away4 then 0 else away4) then x8 else (if 0 > away4 then 0 else away4)))) && (decide ((if x8 < (if 0 > away4 then 0 else away4) then x8 else (if 0 > away4 then 0 else away4)) ≤ (x12.2.2 : Int)))) && (decide ((x12.2.2 : Int) ≤ (x12.2.2 : Int)))) then (
        grid_Grid_Resize_L6 w L L g1 q5.1 q6.1 x10 x8 away4 ⟨none, 0, 0⟩ x12 0 q6.2 K)
      else
      none)
    else none := by kernel_rfl
/-! law09_whole -/
noncomputable def law09_whole_L2 {R : Type} (w : C_law09_whole) (L fu0 : Nat) (g1 : Pt) (x3 : Option Nat × Nat × Nat) (x_1 : Int) (σ : Heap) (K : AVal → Heap → Option R) : Option R :=
  loopAt T (O_law09_whole w) L 1 47 Tryd.f47 [1, 0, 1, 0] [] fu0
    ([.ptr g1] ++ List.replicate 7 .undef ++ [.slice x3.1 x3.2.1 x3.2.2 1, .int .i64 (x3.2.2 : Int), .int .i64 x_1] ++ List.replicate 54 .undef)
    (List.replicate 65 .none) σ K
set_option maxRecDepth 100000 in
theorem law09_whole_L2_eq {R : Type} (w : C_law09_whole) (L fu0 : Nat) (g1 : Pt) (x3 : Option Nat × Nat × Nat) (x_1 : Int) (σ : Heap) (K : AVal → Heap → Option R) :
    law09_whole_L2 w L (fu0 + 1) g1 x3 x_1 σ K =
    bif (decide (x_1 < (x3.2.2 : Int))) then (
      bif ((decide (0 ≤ x_1)) && (decide (x_1 < (x3.2.2 : Int)))) then (
        (x3.1).bind fun b4 =>
        (slice? (Heap.cell? σ b4 (x3.2.1 + x_1.toNat * 1)) 6).bind fun x5 =>
        (g1).bind fun q6 =>
        (int? (Heap.cell? σ q6.1 q6.2) .i64).bind fun x7 =>
        bif ((x5.2.2 : Int) != x7) then (
          K (.bool false) σ)
        else
        (w.cell_Whole ⟨x5.1, x5.2.1, x5.2.2⟩ σ).bind fun q8 =>
        bif (!q8.1) then (
          K (.bool false) q8.2)
        else
        law09_whole_L2 w L fu0 g1 x3 (IntKind.i64.wrap (x_1 + 1)) q8.2 K)
      else none)
    else
    (g1).bind fun q9 =>
    (slice? (Heap.cell? σ q9.1 (q9.2 + 2)) 1).bind fun x10 =>
    (g1).bind fun q11 =>
    (int? (Heap.cell? σ q11.1 (q11.2 + 1)) .i64).bind fun x12 =>
    bif ((x10.2.2 : Int) == x12) then (
      (g1).bind fun q13 =>
      (int? (Heap.cell? σ q13.1 q13.2) .i64).bind fun x14 =>
      bif (decide (x14 ≥ 1)) then (
        (g1).bind fun q15 =>
        (int? (Heap.cell? σ q15.1 (q15.2 + 1)) .i64).bind fun x16 =>
        bif (decide (x16 ≥ 1)) then (
          (g1).bind fun q17 =>
          (int? (Heap.cell? σ q17.1 q17.2) .i64).bind fun x18 =>
          bif (decide (x18 ≤ 60)) then (
            (g1).bind fun q19 =>
            (int? (Heap.cell? σ q19.1 (q19.2 + 1)) .i64).bind fun x20 =>
            K (.bool (decide (x20 ≤ 60))) σ)
          else K (.bool false) σ)
        else K (.bool false) σ)
      else K (.bool false) σ)
    else K (.bool false) σ := by kernel_rfl
set_option maxRecDepth 100000 in
theorem law09_whole_eq {R : Type} (w : C_law09_whole) (L : Nat) (g1 : Pt) (σ : Heap) (K : AVal → Heap → Option R) :
    callC T (O_law09_whole w) L 2 47 [.ptr g1] σ K =
    (g1).bind fun q2 =>
    (slice? (Heap.cell? σ q2.1 (q2.2 + 2)) 1).bind fun x3 =>
    law09_whole_L2 w L L g1 x3 0 σ K := by kernel_rfl
/-! slices_Equal -/
noncomputable def slices_Equal_L4 {R : Type} (L fu0 : Nat) (s11 : Sl) (s22 : Sl) (x_1 : Int) (σ : Heap) (K : AVal → Heap → Option R) : Option R :=
  loopAt T known0 L 1 69 Tryd.f69 [1, 1, 0, 1, 0] [] fu0
    ([.slice s11.b s11.o s11.n 6, .slice s22.b s22.o s22.n 6] ++ List.replicate 10 .undef ++ [.int .i64 (s11.n : Int), .int .i64 x_1] ++ List.replicate 12 .undef)
    (List.replicate 26 .none) σ K
set_option maxRecDepth 100000 in
theorem slices_Equal_L4_eq {R : Type} (L fu0 : Nat) (s11 : Sl) (s22 : Sl) (x_1 : Int) (σ : Heap) (K : AVal → Heap → Option R) :
    slices_Equal_L4 L (fu0 + 1) s11 s22 x_1 σ K =
    bif (decide (x_1 < (s11.n : Int))) then (
      bif ((decide (0 ≤ x_1)) && (decide (x_1 < (s11.n : Int)))) then (
        (s11.b).bind fun b3 =>
        (int? (Heap.cell? σ b3 (s11.o + x_1.toNat * 6)) .i32).bind fun x4 =>
        (bool? (Heap.cell? σ b3 ((s11.o + x_1.toNat * 6) + 1))).bind fun x5 =>
        (bool? (Heap.cell? σ b3 ((s11.o + x_1.toNat * 6) + 2))).bind fun x6 =>
        (bool? (Heap.cell? σ b3 ((s11.o + x_1.toNat * 6) + 3))).bind fun x7 =>
        (int? (Heap.cell? σ b3 ((s11.o + x_1.toNat * 6) + 4)) .i64).bind fun x8 =>
        (int? (Heap.cell? σ b3 ((s11.o + x_1.toNat * 6) + 5)) .i64).bind fun x9 =>
        bif ((decide (0 ≤ x_1)) && (decide (x_1 < (s22.n : Int)))) then (
          (s22.b).bind fun b10 =>
          (int? (Heap.cell? σ b10 (s22.o + x_1.toNat * 6)) .i32).bind fun x11 =>
          (bool? (Heap.cell? σ b10 ((s22.o + x_1.toNat * 6) + 1))).bind fun x12 =>
          (bool? (Heap.cell? σ b10 ((s22.o + x_1.toNat * 6) + 2))).bind fun x13 =>
          (bool? (Heap.cell? σ b10 ((s22.o + x_1.toNat * 6) + 3))).bind fun x14 =>
          (int? (Heap.cell? σ b10 ((s22.o + x_1.toNat * 6) + 4)) .i64).bind fun x15 =>
          (int? (Heap.cell? σ b10 ((s22.o + x_1.toNat * 6) + 5)) .i64).bind fun x16 =>
          bif (!(((x4 : Int) == x11) && ((x5 == x12) && ((x6 == x13) && ((x7 == x14) && (((x8 : Int) == x15) && (((x9 : Int) == x16) && true))))))) then (
            K (.bool false) σ)
          else
          slices_Equal_L4 L fu0 s11 s22 (IntKind.i64.wrap (x_1 + 1)) σ K)
        else none)
      else none)
    else K (.bool true) σ := by kernel_rfl
set_option maxRecDepth 100000 in
theorem slices_Equal_eq {R : Type} (L : Nat) (s11 : Sl) (s22 : Sl) (σ : Heap) (K : AVal → Heap → Option R) :
    callC T known0 L 2 69 [.slice s11.b s11.o s11.n 6, .slice s22.b s22.o s22.n 6] σ K =
    bif ((s11.n : Int) != (s22.n : Int)) then (
      K (.bool false) σ)
    else
    slices_Equal_L4 L L s11 s22 0 σ K := by kernel_rfl
/-! grid_Same -/
noncomputable def grid_Same_L4 {R : Type} (w : C_grid_Same) (L fu0 : Nat) (a1 : Pt) (b2 : Pt) (x12 : Int) (x_1 : Int) (σ : Heap) (K : AVal → Heap → Option R) : Option R :=
  loopAt T (O_grid_Same w) L 1 49 Tryd.f49 [1, 1, 0, 1, 0] [] fu0
    ([.ptr a1, .ptr b2] ++ List.replicate 27 .undef ++ [.int .i64 x12, .int .i64 x_1] ++ List.replicate 19 .undef)
    (List.replicate 50 .none) σ K
set_option maxRecDepth 100000 in
theorem grid_Same_L4_eq {R : Type} (w : C_grid_Same) (L fu0 : Nat) (a1 : Pt) (b2 : Pt) (x12 : Int) (x_1 : Int) (σ : Heap) (K : AVal → Heap → Option R) :
    grid_Same_L4 w L (fu0 + 1) a1 b2 x12 x_1 σ K =
    bif (decide (x_1 < x12)) then (
      (a1).bind fun q13 =>
      (slice? (Heap.cell? σ q13.1 (q13.2 + 2)) 1).bind fun x14 =>
      bif ((decide (0 ≤ x_1)) && (decide (x_1 < (x14.2.2 : Int)))) then (
        (x14.1).bind fun b15 =>
        (slice? (Heap.cell? σ b15 (x14.2.1 + x_1.toNat * 1)) 6).bind fun x16 =>
        (b2).bind fun q17 =>
        (slice? (Heap.cell? σ q17.1 (q17.2 + 2)) 1).bind fun x18 =>
        bif ((decide (0 ≤ x_1)) && (decide (x_1 < (x18.2.2 : Int)))) then (
          (x18.1).bind fun b19 =>
          (slice? (Heap.cell? σ b19 (x18.2.1 + x_1.toNat * 1)) 6).bind fun x20 =>
          (w.slices_Equal ⟨x16.1, x16.2.1, x16.2.2⟩ ⟨x20.1, x20.2.1, x20.2.2⟩ σ).bind fun q21 =>
          bif (!q21.1) then (
            K (.bool false) q21.2)
          else
          grid_Same_L4 w L fu0 a1 b2 x12 (IntKind.i64.wrap (x_1 + 1)) q21.2 K)
        else none)
      else none)
    else K (.bool true) σ := by kernel_rfl
set_option maxRecDepth 100000 in
theorem grid_Same_eq {R : Type} (w : C_grid_Same) (L : Nat) (a1 : Pt) (b2 : Pt) (σ : Heap) (K : AVal → Heap → Option R) :
    callC T (O_grid_Same w) L 2 49 [.ptr a1, .ptr b2] σ K =
    (a1).bind fun q3 =>
    (int? (Heap.cell? σ q3.1 q3.2) .i64).bind fun x4 =>
    (b2).bind fun q5 =>
    (int? (Heap.cell? σ q5.1 q5.2) .i64).bind fun x6 =>
    bif (x4 != x6) then (
      K (.bool false) σ)
    else
    (a1).bind fun q7 =>
    (int? (Heap.cell? σ q7.1 (q7.2 + 1)) .i64).bind fun x8 =>
    (b2).bind fun q9 =>
    (int? (Heap.cell? σ q9.1 (q9.2 + 1)) .i64).bind fun x10 =>
    bif (x8 != x10) then (
      K (.bool false) σ)
    else
    (a1).bind fun q11 =>
    (int? (Heap.cell? σ q11.1 (q11.2 + 1)) .i64).bind fun x12 =>
    grid_Same_L4 w L L a1 b2 x12 0 σ K := by kernel_rfl
/-! law09_tame -/
set_option maxRecDepth 100000 in
theorem law09_tame_eq {R : Type} (w : C_law09_tame) (L : Nat) (s1 : api_Style) (σ : Heap) (K : AVal → Heap → Option R) :
    callC T (O_law09_tame w) L 2 70 [.agg [.bool s1.Bold, .bool s1.Under, .bool s1.Turned, .int .i64 s1.Fore, .int .i64 s1.Back]] σ K =
    (w.cell_Style s1 σ).bind fun q2 =>
    bif (!q2.1) then (
      K (.agg [.bool false, .bool false, .bool false, .int .i64 0, .int .i64 0]) q2.2)
    else
    K (.agg [.bool s1.Bold, .bool s1.Under, .bool s1.Turned, .int .i64 s1.Fore, .int .i64 s1.Back]) q2.2 := by kernel_rfl
/-! law09_Deed_kind -/
set_option maxRecDepth 100000 in
theorem law09_Deed_kind_eq {R : Type} (L : Nat) (d1 : law09_Deed) (σ : Heap) (K : AVal → Heap → Option R) :
    callC T known0 L 2 71 [.agg [.int .i64 d1.Kind, .int .i64 d1.A, .int .i64 d1.B, .int .i64 d1.C, .int .i32 d1.Cell.Rune, .bool d1.Cell.Style.Bold, .bool d1.Cell.Style.Under, .bool d1.Cell.Style.Turned, .int .i64 d1.Cell.Style.Fore, .int .i64 d1.Cell.Style.Back]] σ K =
    K (.int .i64 (Int.tmod (IntKind.i64.wrap (BitVec.ofInt IntKind.i64.bits d1.Kind &&& BitVec.ofInt IntKind.i64.bits 65535).toNat) 7)) σ := by kernel_rfl
/-! grid_Grid_Clear -/
noncomputable def grid_Grid_Clear_L3 {R : Type} (w : C_grid_Grid_Clear) (L fu0 : Nat) (g1 : Pt) (y2 : Int) (to4 : Int) (x_1 : Int) (s5 : api_Style) (σ : Heap) (K : AVal → Heap → Option R) : Option R :=
  loopAt T (O_grid_Grid_Clear w) L 1 72 Tryd.f72 [1, 1, 0, 1, 0] [] fu0
    ([.ptr g1, .int .i64 y2, .undef, .int .i64 to4] ++ List.replicate 5 .undef ++ [.lptr 9 0, .int .i64 x_1] ++ List.replicate 41 .undef)
    (List.replicate 9 .none ++ [.cells [.bool s5.Bold, .bool s5.Under, .bool s5.Turned, .int .i64 s5.Fore, .int .i64 s5.Back]] ++ List.replicate 42 .none) σ K
set_option maxRecDepth 100000 in
theorem grid_Grid_Clear_L3_eq {R : Type} (w : C_grid_Grid_Clear) (L fu0 : Nat) (g1 : Pt) (y2 : Int) (to4 : Int) (x_1 : Int) (s5 : api_Style) (σ : Heap) (K : AVal → Heap → Option R) :
    grid_Grid_Clear_L3 w L (fu0 + 1) g1 y2 to4 x_1 s5 σ K =
    (g1).bind fun q7 =>
    (int? (Heap.cell? σ q7.1 q7.2) .i64).bind fun x8 =>
    bif (decide (x_1 < (if x8 < to4 then x8 else to4))) then (
      (g1).bind fun q9 =>
      (slice? (Heap.cell? σ q9.1 (q9.2 + 2)) 1).bind fun x10 =>
      bif ((decide (0 ≤ y2)) && (decide (y2 < (x10.2.2 : Int)))) then (
        (x10.1).bind fun b11 =>
        (slice? (Heap.cell? σ b11 (x10.2.1 + y2.toNat * 1)) 6).bind fun x12 =>
        (w.cell_Blank s5 (Heap.frz σ)).bind fun q13 =>
        bif ((decide (0 ≤ x_1)) && (decide (x_1 < (x12.2.2 : Int)))) then (
          (x12.1).bind fun b14 =>
          (Heap.store (Heap.back σ q13.2) b14 (x12.2.1 + x_1.toNat * 6) [.int .i32 q13.1.Rune, .bool q13.1.Style.Bold, .bool q13.1.Style.Under, .bool q13.1.Style.Turned, .int .i64 q13.1.Style.Fore, .int .i64 q13.1.Style.Back]).bind fun σ15 =>
          grid_Grid_Clear_L3 w L fu0 g1 y2 to4 (IntKind.i64.wrap (x_1 + 1)) s5 σ15 K)
        else none)
      else none)
    else
    (g1).bind fun q16 =>
    (slice? (Heap.cell? σ q16.1 (q16.2 + 2)) 1).bind fun x17 =>
    (g1).bind fun q18 =>
    (slice? (Heap.cell? σ q18.1 (q18.2 + 2)) 1).bind fun x19 =>
    bif ((decide (0 ≤ y2)) && (decide (y2 < (x19.2.2 : Int)))) then (
      (x19.1).bind fun b20 =>
      (slice? (Heap.cell? σ b20 (x19.2.1 + y2.toNat * 1)) 6).bind fun x21 =>
      (w.cell_Mend ⟨x21.1, x21.2.1, x21.2.2⟩ (Heap.frz σ)).bind fun q22 =>
      bif ((decide (0 ≤ y2)) && (decide (y2 < (x17.2.2 : Int)))) then (
        (x17.1).bind fun b23 =>
        (Heap.store (Heap.back σ q22.2) b23 (x17.2.1 + y2.toNat * 1) [.slice q22.1.b q22.1.o q22.1.n 6]).bind fun σ24 =>
        K (.tuple []) σ24)
      else none)
    else none := by kernel_rfl
set_option maxRecDepth 100000 in
theorem grid_Grid_Clear_eq {R : Type} (w : C_grid_Grid_Clear) (L : Nat) (g1 : Pt) (y2 : Int) (from3 : Int) (to4 : Int) (s5 : api_Style) (σ : Heap) (K : AVal → Heap → Option R) :
    callC T (O_grid_Grid_Clear w) L 2 72 [.ptr g1, .int .i64 y2, .int .i64 from3, .int .i64 to4, .agg [.bool s5.Bold, .bool s5.Under, .bool s5.Turned, .int .i64 s5.Fore, .int .i64 s5.Back]] σ K =
    (w.grid_Grid_there g1 0 y2 σ).bind fun q6 =>
    bif (!q6.1) then (
      K (.tuple []) q6.2)
    else
    grid_Grid_Clear_L3 w L L g1 y2 to4 (if 0 > from3 then 0 else from3) s5 q6.2 K := by kernel_rfl
/-! grid_Grid_Open -/
set_option maxRecDepth 100000 in
theorem grid_Grid_Open_eq {R : Type} (w : C_grid_Grid_Open) (L : Nat) (g1 : Pt) (x2 : Int) (y3 : Int) (n4 : Int) (s5 : api_Style) (σ : Heap) (K : AVal → Heap → Option R) :
    callC T (O_grid_Grid_Open w) L 2 73 [.ptr g1, .int .i64 x2, .int .i64 y3, .int .i64 n4, .agg [.bool s5.Bold, .bool s5.Under, .bool s5.Turned, .int .i64 s5.Fore, .int .i64 s5.Back]] σ K =
    (w.grid_Grid_there g1 x2 y3 σ).bind fun q6 =>
    bif (!q6.1) then (
      K (.tuple []) q6.2)
    else
    (g1).bind fun q7 =>
    (int? (Heap.cell? q6.2 q7.1 q7.2) .i64).bind fun x8 =>
    (g1).bind fun q9 =>
    (slice? (Heap.cell? q6.2 q9.1 (q9.2 + 2)) 1).bind fun x10 =>
    bif ((decide (0 ≤ y3)) && (decide (y3 < (x10.2.2 : Int)))) then (
      (x10.1).bind fun b11 =>
      (slice? (Heap.cell? q6.2 b11 (x10.2.1 + y3.toNat * 1)) 6).bind fun x12 =>
      bif (((decide (0 ≤ (IntKind.i64.wrap (x2 + (if (IntKind.i64.wrap (x8 - x2)) < (if 0 > n4 then 0 else n4) then (IntKind.i64.wrap (x8 - x2)) else (if 0 > n4 then 0 else n4)))))) && (decide ((IntKind.i64.wrap (x2 + (if (IntKind.i64.wrap (x8 - x2)) < (if 0 > n4 then 0 else n4) then (IntKind.i64.wrap (x8 - x2)) else (if 0 > n4 then 0 else n4)))) ≤ (x12.2.2 : Int)))) && (decide ((x12.2.2 : Int) ≤ (x12.2.2 : Int)))) then (
        (g1).bind fun q13 =>
        (slice? (Heap.cell? q6.2 q13.1 (q13.2 + 2)) 1).bind fun x14 =>
        bif ((decide (0 ≤ y3)) && (decide (y3 < (x14.2.2 : Int)))) then (
          (x14.1).bind fun b15 =>
          (slice? (Heap.cell? q6.2 b15 (x14.2.1 + y3.toNat * 1)) 6).bind fun x16 =>
          bif (((decide (0 ≤ x2)) && (decide (x2 ≤ (x16.2.2 : Int)))) && (decide ((x16.2.2 : Int) ≤ (x16.2.2 : Int)))) then (
            (Heap.read q6.2 x16.1 (x16.2.1 + x2.toNat * 6) (min (x16.2.2 - x2.toNat) (x12.2.2 - (IntKind.i64.wrap (x2 + (if (IntKind.i64.wrap (x8 - x2)) < (if 0 > n4 then 0 else n4) then (IntKind.i64.wrap (x8 - x2)) else (if 0 > n4 then 0 else n4)))).toNat)) 6).bind fun vs17 =>
            (match x12.1 with
            | none =>
              (w.grid_Grid_Clear g1 y3 x2 (IntKind.i64.wrap (x2 + (if (IntKind.i64.wrap (x8 - x2)) < (if 0 > n4 then 0 else n4) then (IntKind.i64.wrap (x8 - x2)) else (if 0 > n4 then 0 else n4)))) s5 q6.2).bind fun q19 =>
              K (.tuple []) q19.2
            | some b18 =>
              (Heap.store q6.2 b18 (x12.2.1 + ((IntKind.i64.wrap (x2 + (if (IntKind.i64.wrap (x8 - x2)) < (if 0 > n4 then 0 else n4) then (IntKind.i64.wrap (x8 - x2)) else (if 0 > n4 then 0 else n4)))).toNat) * 6) vs17).bind fun σ20 =>
              (w.grid_Grid_Clear g1 y3 x2 (IntKind.i64.wrap (x2 + (if (IntKind.i64.wrap (x8 - x2)) < (if 0 > n4 then 0 else n4) then (IntKind.i64.wrap (x8 - x2)) else (if 0 > n4 then 0 else n4)))) s5 σ20).bind fun q21 =>
              K (.tuple []) q21.2))
          else none)
        else none)
      else none)
    else none := by kernel_rfl
/-! grid_Grid_Shut -/
set_option maxRecDepth 100000 in
theorem grid_Grid_Shut_eq {R : Type} (w : C_grid_Grid_Shut) (L : Nat) (g1 : Pt) (x2 : Int) (y3 : Int) (n4 : Int) (s5 : api_Style) (σ : Heap) (K : AVal → Heap → Option R) :
    callC T (O_grid_Grid_Shut w) L 2 74 [.ptr g1, .int .i64 x2, .int .i64 y3, .int .i64 n4, .agg [.bool s5.Bold, .bool s5.Under, .bool s5.Turned, .int .i64 s5.Fore, .int .i64 s5.Back]] σ K =
    (w.grid_Grid_there g1 x2 y3 σ).bind fun q6 =>
    bif (!q6.1) then (
      K (.tuple []) q6.2)
    else
    (g1).bind fun q7 =>
    (int? (Heap.cell? q6.2 q7.1 q7.2) .i64).bind fun x8 =>
    (g1).bind fun q9 =>
    (slice? (Heap.cell? q6.2 q9.1 (q9.2 + 2)) 1).bind fun x10 =>
    bif ((decide (0 ≤ y3)) && (decide (y3 < (x10.2.2 : Int)))) then (
      (x10.1).bind fun b11 =>
      (slice? (Heap.cell? q6.2 b11 (x10.2.1 + y3.toNat * 1)) 6).bind fun x12 =>
      bif (((decide (0 ≤ x2)) && (decide (x2 ≤ (x12.2.2 : Int)))) && (decide ((x12.2.2 : Int) ≤ (x12.2.2 : Int)))) then (
        (g1).bind fun q13 =>
        (slice? (Heap.cell? q6.2 q13.1 (q13.2 + 2)) 1).bind fun x14 =>
        bif ((decide (0 ≤ y3)) && (decide (y3 < (x14.2.2 : Int)))) then (
          (x14.1).bind fun b15 =>
          (slice? (Heap.cell? q6.2 b15 (x14.2.1 + y3.toNat * 1)) 6).bind fun x16 =>
          bif (((decide (0 ≤ (IntKind.i64.wrap (x2 + (if (IntKind.i64.wrap (x8 - x2)) < (if 0 > n4 then 0 else n4) then (IntKind.i64.wrap (x8 - x2)) else (if 0 > n4 then 0 else n4)))))) && (decide ((IntKind.i64.wrap (x2 + (if (IntKind.i64.wrap (x8 - x2)) < (if 0 > n4 then 0 else n4) then (IntKind.i64.wrap (x8 - x2)) else (if 0 > n4 then 0 else n4)))) ≤ (x16.2.2 : Int)))) && (decide ((x16.2.2 : Int) ≤ (x16.2.2 : Int)))) then (
            (Heap.read q6.2 x16.1 (x16.2.1 + ((IntKind.i64.wrap (x2 + (if (IntKind.i64.wrap (x8 - x2)) < (if 0 > n4 then 0 else n4) then (IntKind.i64.wrap (x8 - x2)) else (if 0 > n4 then 0 else n4)))).toNat) * 6) (min (x16.2.2 - (IntKind.i64.wrap (x2 + (if (IntKind.i64.wrap (x8 - x2)) < (if 0 > n4 then 0 else n4) then (IntKind.i64.wrap (x8 - x2)) else (if 0 > n4 then 0 else n4)))).toNat) (x12.2.2 - x2.toNat)) 6).bind fun vs17 =>
            (match x12.1 with
            | none =>
              (g1).bind fun q19 =>
              (int? (Heap.cell? q6.2 q19.1 q19.2) .i64).bind fun x20 =>
              (g1).bind fun q21 =>
              (int? (Heap.cell? q6.2 q21.1 q21.2) .i64).bind fun x22 =>
              (w.grid_Grid_Clear g1 y3 (IntKind.i64.wrap (x20 - (if (IntKind.i64.wrap (x8 - x2)) < (if 0 > n4 then 0 else n4) then (IntKind.i64.wrap (x8 - x2)) else (if 0 > n4 then 0 else n4)))) x22 s5 q6.2).bind fun q23 =>
              K (.tuple []) q23.2
            | some b18 =>
              (Heap.store q6.2 b18 (x12.2.1 + x2.toNat * 6) vs17).bind fun σ24 =>
              (g1).bind fun q25 =>
              (int? (Heap.cell? σ24 q25.1 q25.2) .i64).bind fun x26 =>
              (g1).bind fun q27 =>
              (int? (Heap.cell? σ24 q27.1 q27.2) .i64).bind fun x28 =>
              (w.grid_Grid_Clear g1 y3 (IntKind.i64.wrap (x26 - (if (IntKind.i64.wrap (x8 - x2)) < (if 0 > n4 then 0 else n4) then (IntKind.i64.wrap (x8 - x2)) else (if 0 > n4 then 0 else n4)))) x28 s5 σ24).bind fun q29 =>
              K (.tuple []) q29.2))
          else none)
        else none)
      else none)
    else none := by kernel_rfl
/-! law09_do -/
set_option maxRecDepth 100000 in
theorem law09_do_eq {R : Type} (w : C_law09_do) (L : Nat) (g1 : Pt) (d2 : law09_Deed) (σ : Heap) (K : AVal → Heap → Option R) :
    callC T (O_law09_do w) L 2 50 [.ptr g1, .agg [.int .i64 d2.Kind, .int .i64 d2.A, .int .i64 d2.B, .int .i64 d2.C, .int .i32 d2.Cell.Rune, .bool d2.Cell.Style.Bold, .bool d2.Cell.Style.Under, .bool d2.Cell.Style.Turned, .int .i64 d2.Cell.Style.Fore, .int .i64 d2.Cell.Style.Back]] σ K =
    (w.law09_tame d2.Cell.Style σ).bind fun q3 =>
    (w.law09_Deed_kind d2 q3.2).bind fun q4 =>
    bif (q4.1 == 0) then (
      (w.grid_Grid_Put g1 d2.A d2.B d2.Cell q4.2).bind fun q5 =>
      K (.slice none 0 0 1) q5.2)
    else
    bif (q4.1 == 1) then (
      (w.grid_Grid_Clear g1 d2.A d2.B d2.C q3.1 q4.2).bind fun q6 =>
      K (.slice none 0 0 1) q6.2)
    else
    bif (q4.1 == 2) then (
      (w.grid_Grid_Up g1 d2.A d2.B d2.C q3.1 q4.2).bind fun q7 =>
      K (.slice q7.1.b q7.1.o q7.1.n 1) q7.2)
    else
    bif (q4.1 == 3) then (
      (w.grid_Grid_Down g1 d2.A d2.B d2.C q3.1 q4.2).bind fun q8 =>
      K (.slice none 0 0 1) q8.2)
    else
    bif (q4.1 == 4) then (
      (w.grid_Grid_Open g1 d2.A d2.B d2.C q3.1 q4.2).bind fun q9 =>
      K (.slice none 0 0 1) q9.2)
    else
    bif (q4.1 == 5) then (
      (w.grid_Grid_Shut g1 d2.A d2.B d2.C q3.1 q4.2).bind fun q10 =>
      K (.slice none 0 0 1) q10.2)
    else
    (w.grid_Grid_Resize g1 d2.A d2.B d2.C q4.2).bind fun q11 =>
    K (.slice q11.1.b q11.1.o q11.1.n 1) q11.2 := by kernel_rfl
end Go.Abs.TA
