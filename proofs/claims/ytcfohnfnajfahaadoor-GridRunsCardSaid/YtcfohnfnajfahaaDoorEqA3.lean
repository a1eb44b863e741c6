/-
Lifted functions: what the machine does, one equation for each entry and each loop (printed by lift.py).
-/
import Derived.Test.YtcfohnfnajfahaaDoorSigA
namespace Go.Abs.TA
open Go Go.Abs Go.Proofs
/-! law09_Fill -/
noncomputable def law09_Fill_L4 {R : Type} (w : C_law09_Fill) (L fu0 : Nat) (g_1 : Pt) (i_4 : Int) (x_2 : Sl) (x_3 : Int) (x_5 : Int) (σ : Heap) (K : AVal → Heap → Option R) : Option R :=
  loopAt T (O_law09_Fill w) L 1 36 Tryd.f36 [1, 1, 1, 0, 1, 0] [] fu0
    (List.replicate 7 .undef ++ [.ptr g_1, .int .i64 i_4] ++ List.replicate 6 .undef ++ [.slice x_2.b x_2.o x_2.n 6, .int .i64 x_3, .int .i64 x_5] ++ List.replicate 38 .undef)
    (List.replicate 56 .none) σ K
set_option maxRecDepth 100000 in
theorem law09_Fill_L4_eq {R : Type} (w : C_law09_Fill) (L fu0 : Nat) (g_1 : Pt) (i_4 : Int) (x_2 : Sl) (x_3 : Int) (x_5 : Int) (σ : Heap) (K : AVal → Heap → Option R) :
    law09_Fill_L4 w L (fu0 + 1) g_1 i_4 x_2 x_3 x_5 σ K =
    bif (decide (x_5 < x_3)) then (
      bif ((decide (0 ≤ x_5)) && (decide (x_5 < (x_2.n : Int)))) then (
        (x_2.b).bind fun b6 =>
        (int? (Heap.cell? σ b6 (x_2.o + x_5.toNat * 6)) .i32).bind fun x7 =>
        (bool? (Heap.cell? σ b6 ((x_2.o + x_5.toNat * 6) + 1))).bind fun x8 =>
        (bool? (Heap.cell? σ b6 ((x_2.o + x_5.toNat * 6) + 2))).bind fun x9 =>
        (bool? (Heap.cell? σ b6 ((x_2.o + x_5.toNat * 6) + 3))).bind fun x10 =>
        (int? (Heap.cell? σ b6 ((x_2.o + x_5.toNat * 6) + 4)) .i64).bind fun x11 =>
        (int? (Heap.cell? σ b6 ((x_2.o + x_5.toNat * 6) + 5)) .i64).bind fun x12 =>
        (g_1).bind fun q13 =>
        (int? (Heap.cell? σ q13.1 q13.2) .i64).bind fun x14 =>
        (g_1).bind fun q15 =>
        (int? (Heap.cell? σ q15.1 (q15.2 + 1)) .i64).bind fun x16 =>
        bif (decide (i_4 ≥ (IntKind.i64.wrap (x14 * x16)))) then (
          K (.ptr g_1) σ)
        else
        (g_1).bind fun q17 =>
        (int? (Heap.cell? σ q17.1 q17.2) .i64).bind fun x18 =>
        if x18 = 0 then (
          none)
        else (
          (g_1).bind fun q19 =>
          (int? (Heap.cell? σ q19.1 q19.2) .i64).bind fun x20 =>
          if x20 = 0 then (
            none)
          else (
            (w.grid_Grid_Put g_1 (Int.tmod i_4 x18) (IntKind.i64.wrap (Int.tdiv i_4 x20)) ⟨x7, ⟨x8, x9, x10, x11, x12⟩⟩ σ).bind fun q21 =>
            (w.ref07_Wide x7 q21.2).bind fun q22 =>
            bif q22.1 then (
              law09_Fill_L4 w L fu0 g_1 (IntKind.i64.wrap ((IntKind.i64.wrap (i_4 + 1)) + 1)) x_2 x_3 (IntKind.i64.wrap (x_5 + 1)) q22.2 K)
            else
            law09_Fill_L4 w L fu0 g_1 (IntKind.i64.wrap (i_4 + 1)) x_2 x_3 (IntKind.i64.wrap (x_5 + 1)) q22.2 K)))
      else none)
    else K (.ptr g_1) σ := by kernel_rfl
set_option maxRecDepth 100000 in
theorem law09_Fill_eq {R : Type} (w : C_law09_Fill) (L : Nat) (w1 : Int) (h2 : Int) (l3 : Sl) (σ : Heap) (K : AVal → Heap → Option R) :
    callC T (O_law09_Fill w) L 2 36 [.int .i64 w1, .int .i64 h2, .slice l3.b l3.o l3.n 6] σ K =
    (w.grid_New w1 h2 σ).bind fun q4 =>
    (w.law08_Tame l3 q4.2).bind fun q5 =>
    law09_Fill_L4 w L L q4.1 0 q5.1 (q5.1.n : Int) 0 q5.2 K := by kernel_rfl
/-! grid_Grid_Copy -/
noncomputable def grid_Grid_Copy_L3 {R : Type} (w : C_grid_Grid_Copy) (L fu0 : Nat) (b6 : Nat) (x9 : Option Nat × Nat × Nat) (x_1 : Int) (σ : Heap) (K : AVal → Heap → Option R) : Option R :=
  loopAt T (O_grid_Grid_Copy w) L 1 38 Tryd.f38 [1, 1, 0, 1, 0] [] fu0
    ([.undef, .undef, .undef, .ptr (some (b6, 0))] ++ List.replicate 15 .undef ++ [.slice x9.1 x9.2.1 x9.2.2 1, .int .i64 (x9.2.2 : Int), .int .i64 x_1] ++ List.replicate 16 .undef)
    (List.replicate 38 .none) σ K
set_option maxRecDepth 100000 in
theorem grid_Grid_Copy_L3_eq {R : Type} (w : C_grid_Grid_Copy) (L fu0 : Nat) (b6 : Nat) (x9 : Option Nat × Nat × Nat) (x_1 : Int) (σ : Heap) (K : AVal → Heap → Option R) :
    grid_Grid_Copy_L3 w L (fu0 + 1) b6 x9 x_1 σ K =
    bif (decide (x_1 < (x9.2.2 : Int))) then (
      bif ((decide (0 ≤ x_1)) && (decide (x_1 < (x9.2.2 : Int)))) then (
        (x9.1).bind fun b10 =>
        (slice? (Heap.cell? σ b10 (x9.2.1 + x_1.toNat * 1)) 6).bind fun x11 =>
        (slice? (Heap.cell? σ b6 2) 1).bind fun x12 =>
        (w.slices_Clone ⟨x11.1, x11.2.1, x11.2.2⟩ (Heap.frz σ)).bind fun q13 =>
        (Heap.append (Heap.back (Heap.back σ q13.2) (Heap.frz (Heap.back σ q13.2))) x12.1 x12.2.1 x12.2.2 1 24 [.slice q13.1.b q13.1.o q13.1.n 6] 1).bind fun q14 =>
        (Heap.store q14.2 b6 2 [.slice q14.1.1 q14.1.2.1 q14.1.2.2 1]).bind fun σ15 =>
        grid_Grid_Copy_L3 w L fu0 b6 x9 (IntKind.i64.wrap (x_1 + 1)) σ15 K)
      else none)
    else K (.ptr (some (b6, 0))) σ := by kernel_rfl
set_option maxRecDepth 100000 in
theorem grid_Grid_Copy_eq {R : Type} (w : C_grid_Grid_Copy) (L : Nat) (g1 : Pt) (σ : Heap) (K : AVal → Heap → Option R) :
    callC T (O_grid_Grid_Copy w) L 2 38 [.ptr g1] σ K =
    (g1).bind fun q2 =>
    (int? (Heap.cell? σ q2.1 q2.2) .i64).bind fun x3 =>
    (g1).bind fun q4 =>
    (int? (Heap.cell? σ q4.1 (q4.2 + 1)) .i64).bind fun x5 =>
    alloc σ [.int .i64 x3, .int .i64 x5, .slice none 0 0 1] fun b6 σ7 =>
    (g1).bind fun q8 =>
    (slice? (Heap.cell? σ7 q8.1 (q8.2 + 2)) 1).bind fun x9 =>
    grid_Grid_Copy_L3 w L L b6 x9 0 σ7 K := by kernel_rfl
/-! law09_within -/
set_option maxRecDepth 100000 in
theorem law09_within_eq {R : Type} (L : Nat) (n1 : Int) (low2 : Int) (high3 : Int) (σ : Heap) (K : AVal → Heap → Option R) :
    callC T known0 L 2 39 [.int .i64 n1, .int .i64 low2, .int .i64 high3] σ K =
    K (.int .i64 (if high3 < (if low2 > n1 then low2 else n1) then high3 else (if low2 > n1 then low2 else n1))) σ := by kernel_rfl
/-! grid_Grid_Down -/
noncomputable def grid_Grid_Down_L3 {R : Type} (w : C_grid_Grid_Down) (L fu0 : Nat) (g1 : Pt) (top_1 : Int) (end_2 : Int) (x_3 : Int) (x_4 : Int) (s5 : api_Style) (σ : Heap) (K : AVal → Heap → Option R) : Option R :=
  loopAt T (O_grid_Grid_Down w) L 1 41 Tryd.f41 [1, 1, 1, 0] [] fu0
    ([.ptr g1, .int .i64 top_1, .int .i64 end_2] ++ List.replicate 6 .undef ++ [.lptr 9 0] ++ List.replicate 9 .undef ++ [.int .i64 x_3, .int .i64 x_4] ++ List.replicate 31 .undef)
    (List.replicate 9 .none ++ [.cells [.bool s5.Bold, .bool s5.Under, .bool s5.Turned, .int .i64 s5.Fore, .int .i64 s5.Back]] ++ List.replicate 42 .none) σ K
set_option maxRecDepth 100000 in
theorem grid_Grid_Down_L3_eq {R : Type} (w : C_grid_Grid_Down) (L fu0 : Nat) (g1 : Pt) (top_1 : Int) (end_2 : Int) (x_3 : Int) (x_4 : Int) (s5 : api_Style) (σ : Heap) (K : AVal → Heap → Option R) :
    grid_Grid_Down_L3 w L (fu0 + 1) g1 top_1 end_2 x_3 x_4 s5 σ K =
    bif (decide (x_4 < x_3)) then (
      (g1).bind fun q7 =>
      (slice? (Heap.cell? σ q7.1 (q7.2 + 2)) 1).bind fun x8 =>
      bif (((decide (0 ≤ (IntKind.i64.wrap (top_1 + 1)))) && (decide ((IntKind.i64.wrap (top_1 + 1)) ≤ end_2))) && (decide (end_2 ≤ (x8.2.2 : Int)))) then (
        (g1).bind fun q9 =>
        (slice? (Heap.cell? σ q9.1 (q9.2 + 2)) 1).bind fun x10 =>
        bif (((decide (0 ≤ top_1)) && (decide (top_1 ≤ (IntKind.i64.wrap (end_2 - 1))))) && (decide ((IntKind.i64.wrap (end_2 - 1)) ≤ (x10.2.2 : Int)))) then (
          (Heap.read σ x10.1 (x10.2.1 + top_1.toNat * 1) (min ((IntKind.i64.wrap (end_2 - 1)).toNat - top_1.toNat) (end_2.toNat - (IntKind.i64.wrap (top_1 + 1)).toNat)) 1).bind fun vs11 =>
          (match x8.1 with
          | none =>
            (g1).bind fun q13 =>
            (slice? (Heap.cell? σ q13.1 (q13.2 + 2)) 1).bind fun x14 =>
            (g1).bind fun q15 =>
            (int? (Heap.cell? σ q15.1 q15.2) .i64).bind fun x16 =>
            (w.grid_blank x16 s5 (Heap.frz σ)).bind fun q17 =>
            bif ((decide (0 ≤ top_1)) && (decide (top_1 < (x14.2.2 : Int)))) then (
              (x14.1).bind fun b18 =>
              (Heap.store (Heap.back σ q17.2) b18 (x14.2.1 + top_1.toNat * 1) [.slice q17.1.b q17.1.o q17.1.n 6]).bind fun σ19 =>
              grid_Grid_Down_L3 w L fu0 g1 top_1 end_2 x_3 (IntKind.i64.wrap (x_4 + 1)) s5 σ19 K)
            else none
          | some b12 =>
            (Heap.store σ b12 (x8.2.1 + ((IntKind.i64.wrap (top_1 + 1)).toNat) * 1) vs11).bind fun σ20 =>
            (g1).bind fun q21 =>
            (slice? (Heap.cell? σ20 q21.1 (q21.2 + 2)) 1).bind fun x22 =>
            (g1).bind fun q23 =>
            (int? (Heap.cell? σ20 q23.1 q23.2) .i64).bind fun x24 =>
            (w.grid_blank x24 s5 (Heap.frz σ20)).bind fun q25 =>
            bif ((decide (0 ≤ top_1)) && (decide (top_1 < (x22.2.2 : Int)))) then (
              (x22.1).bind fun b26 =>
              (Heap.store (Heap.back σ20 q25.2) b26 (x22.2.1 + top_1.toNat * 1) [.slice q25.1.b q25.1.o q25.1.n 6]).bind fun σ27 =>
              grid_Grid_Down_L3 w L fu0 g1 top_1 end_2 x_3 (IntKind.i64.wrap (x_4 + 1)) s5 σ27 K)
            else none))
        else none)
      else none)
    else K (.tuple []) σ := by kernel_rfl
set_option maxRecDepth 100000 in
theorem grid_Grid_Down_eq {R : Type} (w : C_grid_Grid_Down) (L : Nat) (g1 : Pt) (top2 : Int) (end3 : Int) (n4 : Int) (s5 : api_Style) (σ : Heap) (K : AVal → Heap → Option R) :
    callC T (O_grid_Grid_Down w) L 2 41 [.ptr g1, .int .i64 top2, .int .i64 end3, .int .i64 n4, .agg [.bool s5.Bold, .bool s5.Under, .bool s5.Turned, .int .i64 s5.Fore, .int .i64 s5.Back]] σ K =
    (w.grid_Grid_some g1 top2 end3 n4 σ).bind fun q6 =>
    grid_Grid_Down_L3 w L L g1 q6.1.1 q6.1.2.1 q6.1.2.2 0 s5 q6.2 K := by kernel_rfl
/-! law09_GridLines -/
noncomputable def law09_GridLines_L14 {R : Type} (w : C_law09_GridLines) (L fu0 : Nat) (g_1 : Pt) (was_2 : Pt) (top_3 : Int) (m_4 : Int) (out_5 : Sl) (x17 : Int) (x_6 : Int) (σ : Heap) (K : AVal → Heap → Option R) : Option R :=
  loopAt T (O_law09_GridLines w) L 1 9 Tryd.f9 [1, 1, 1, 1, 1, 1, 1, 1, 1, 1, 0, 1, 0] [] fu0
    (List.replicate 7 .undef ++ [.ptr g_1, .ptr was_2, .int .i64 top_3, .undef, .int .i64 m_4, .slice out_5.b out_5.o out_5.n 1] ++ List.replicate 64 .undef ++ [.int .i64 x17, .int .i64 x_6] ++ List.replicate 50 .undef)
    (List.replicate 129 .none) σ K
set_option maxRecDepth 100000 in
theorem law09_GridLines_L14_eq {R : Type} (w : C_law09_GridLines) (L fu0 : Nat) (g_1 : Pt) (was_2 : Pt) (top_3 : Int) (m_4 : Int) (out_5 : Sl) (x17 : Int) (x_6 : Int) (σ : Heap) (K : AVal → Heap → Option R) :
    law09_GridLines_L14 w L (fu0 + 1) g_1 was_2 top_3 m_4 out_5 x17 x_6 σ K =
    bif (decide (x_6 < x17)) then (
      bif (decide (x_6 ≥ top_3)) then (
        bif (decide (x_6 < (IntKind.i64.wrap (top_3 + m_4)))) then (
          (w.grid_Grid_Text g_1 x_6 σ).bind fun q18 =>
          bif (!(q18.1.toList == (⟨#[]⟩ : ByteArray).toList)) then (
            K (.bool false) q18.2)
          else
          bif ((decide (0 ≤ (IntKind.i64.wrap (x_6 - top_3)))) && (decide ((IntKind.i64.wrap (x_6 - top_3)) < (out_5.n : Int)))) then (
            (out_5.b).bind fun b19 =>
            (slice? (Heap.cell? q18.2 b19 (out_5.o + ((IntKind.i64.wrap (x_6 - top_3)).toNat) * 1)) 6).bind fun x20 =>
            (was_2).bind fun q21 =>
            (slice? (Heap.cell? q18.2 q21.1 (q21.2 + 2)) 1).bind fun x22 =>
            bif ((decide (0 ≤ x_6)) && (decide (x_6 < (x22.2.2 : Int)))) then (
              (x22.1).bind fun b23 =>
              (slice? (Heap.cell? q18.2 b23 (x22.2.1 + x_6.toNat * 1)) 6).bind fun x24 =>
              (w.law08_Same ⟨x20.1, x20.2.1, x20.2.2⟩ ⟨x24.1, x24.2.1, x24.2.2⟩ q18.2).bind fun q25 =>
              bif (!q25.1) then (
                K (.bool false) q25.2)
              else
              law09_GridLines_L14 w L fu0 g_1 was_2 top_3 m_4 out_5 x17 (IntKind.i64.wrap (x_6 + 1)) q25.2 K)
            else none)
          else none)
        else
        (g_1).bind fun q26 =>
        (slice? (Heap.cell? σ q26.1 (q26.2 + 2)) 1).bind fun x27 =>
        bif ((decide (0 ≤ x_6)) && (decide (x_6 < (x27.2.2 : Int)))) then (
          (x27.1).bind fun b28 =>
          (slice? (Heap.cell? σ b28 (x27.2.1 + x_6.toNat * 1)) 6).bind fun x29 =>
          (was_2).bind fun q30 =>
          (slice? (Heap.cell? σ q30.1 (q30.2 + 2)) 1).bind fun x31 =>
          bif ((decide (0 ≤ x_6)) && (decide (x_6 < (x31.2.2 : Int)))) then (
            (x31.1).bind fun b32 =>
            (slice? (Heap.cell? σ b32 (x31.2.1 + x_6.toNat * 1)) 6).bind fun x33 =>
            (w.law08_Same ⟨x29.1, x29.2.1, x29.2.2⟩ ⟨x33.1, x33.2.1, x33.2.2⟩ σ).bind fun q34 =>
            bif (!q34.1) then (
              K (.bool false) q34.2)
            else
            law09_GridLines_L14 w L fu0 g_1 was_2 top_3 m_4 out_5 x17 (IntKind.i64.wrap (x_6 + 1)) q34.2 K)
          else none)
        else none)
      else
      (g_1).bind fun q35 =>
      (slice? (Heap.cell? σ q35.1 (q35.2 + 2)) 1).bind fun x36 =>
      bif ((decide (0 ≤ x_6)) && (decide (x_6 < (x36.2.2 : Int)))) then (
        (x36.1).bind fun b37 =>
        (slice? (Heap.cell? σ b37 (x36.2.1 + x_6.toNat * 1)) 6).bind fun x38 =>
        (was_2).bind fun q39 =>
        (slice? (Heap.cell? σ q39.1 (q39.2 + 2)) 1).bind fun x40 =>
        bif ((decide (0 ≤ x_6)) && (decide (x_6 < (x40.2.2 : Int)))) then (
          (x40.1).bind fun b41 =>
          (slice? (Heap.cell? σ b41 (x40.2.1 + x_6.toNat * 1)) 6).bind fun x42 =>
          (w.law08_Same ⟨x38.1, x38.2.1, x38.2.2⟩ ⟨x42.1, x42.2.1, x42.2.2⟩ σ).bind fun q43 =>
          bif (!q43.1) then (
            K (.bool false) q43.2)
          else
          law09_GridLines_L14 w L fu0 g_1 was_2 top_3 m_4 out_5 x17 (IntKind.i64.wrap (x_6 + 1)) q43.2 K)
        else none)
      else none)
    else K (.bool true) σ := by kernel_rfl
set_option maxRecDepth 100000 in
theorem law09_GridLines_eq {R : Type} (w : C_law09_GridLines) (L : Nat) (size1 : Arr_2_Int) (l2 : Sl) (n3 : Arr_3_Int) (σ : Heap) (K : AVal → Heap → Option R) :
    callC T (O_law09_GridLines w) L 2 9 [.agg [.int .i64 size1.i0, .int .i64 size1.i1], .slice l2.b l2.o l2.n 6, .agg [.int .i64 n3.i0, .int .i64 n3.i1, .int .i64 n3.i2]] σ K =
    (w.law09_fit σ).bind fun q4 =>
    bif (!q4.1) then (
      K (.bool false) q4.2)
    else
    bif (decide ((l2.n : Int) > 2000)) then (
      K (.bool true) q4.2)
    else
    (w.law09_Fill (IntKind.i64.wrap ((IntKind.i64.wrap (BitVec.ofInt IntKind.i64.bits size1.i0 &&& BitVec.ofInt IntKind.i64.bits 31).toNat) + 1)) (IntKind.i64.wrap ((IntKind.i64.wrap (BitVec.ofInt IntKind.i64.bits size1.i1 &&& BitVec.ofInt IntKind.i64.bits 31).toNat) + 1)) l2 q4.2).bind fun q5 =>
    (w.grid_Grid_Copy q5.1 q5.2).bind fun q6 =>
    (q5.1).bind fun q7 =>
    (int? (Heap.cell? q6.2 q7.1 (q7.2 + 1)) .i64).bind fun x8 =>
    (w.law09_within n3.i0 0 x8 (Heap.frz q6.2)).bind fun q9 =>
    (q5.1).bind fun q10 =>
    (int? (Heap.cell? (Heap.back q6.2 q9.2) q10.1 (q10.2 + 1)) .i64).bind fun x11 =>
    (w.law09_within n3.i1 0 x11 (Heap.back q6.2 q9.2)).bind fun q12 =>
    (w.law09_within n3.i2 0 (if 0 > (IntKind.i64.wrap (q12.1 - q9.1)) then 0 else (IntKind.i64.wrap (q12.1 - q9.1))) q12.2).bind fun q13 =>
    (w.grid_Grid_Up q5.1 n3.i0 n3.i1 n3.i2 ⟨false, false, false, 0, 0⟩ q13.2).bind fun q14 =>
    (w.grid_Grid_Down q5.1 n3.i0 n3.i1 n3.i2 ⟨false, false, false, 0, 0⟩ q14.2).bind fun q15 =>
    bif ((q14.1.n : Int) != q13.1) then (
      K (.bool false) q15.2)
    else
    (q5.1).bind fun q16 =>
    (int? (Heap.cell? q15.2 q16.1 (q16.2 + 1)) .i64).bind fun x17 =>
    law09_GridLines_L14 w L L q5.1 q6.1 q9.1 q13.1 q14.1 x17 0 q15.2 K := by kernel_rfl
/-! cell_PutLine -/
noncomputable def cell_PutLine_L2 {R : Type} (w : C_cell_PutLine) (L fu0 : Nat) (b_2 : Sl) (l2 : Sl) (i_3 : Int) (σ : Heap) (K : AVal → Heap → Option R) : Option R :=
  loopAt T (O_cell_PutLine w) L 1 43 Tryd.f43 [1, 0, 1, 0] [] fu0
    ([.slice b_2.b b_2.o b_2.n 1, .slice l2.b l2.o l2.n 6, .undef, .undef, .undef, .int .i64 i_3] ++ List.replicate 44 .undef)
    (List.replicate 50 .none) σ K
noncomputable def cell_PutLine_L4 {R : Type} (w : C_cell_PutLine) (L fu0 fu1 : Nat) (b_2 : Sl) (l2 : Sl) (i_3 : Int) (k_1 : Int) (σ : Heap) (K : AVal → Heap → Option R) : Option R :=
  loopAt T (O_cell_PutLine w) L 1 43 Tryd.f43 [1, 0, 1, 0, 0, 1, 0, 1, 0, 0] [fu0] fu1
    ([.slice b_2.b b_2.o b_2.n 1, .slice l2.b l2.o l2.n 6, .undef, .undef, .undef, .int .i64 i_3, .int .i64 k_1] ++ List.replicate 43 .undef)
    (List.replicate 50 .none) σ K
set_option maxRecDepth 100000 in
theorem cell_PutLine_L2_eq {R : Type} (w : C_cell_PutLine) (L fu0 : Nat) (b_2 : Sl) (l2 : Sl) (i_3 : Int) (σ : Heap) (K : AVal → Heap → Option R) :
    cell_PutLine_L2 w L (fu0 + 1) b_2 l2 i_3 σ K =
    bif (decide (i_3 < (l2.n : Int))) then (
      cell_PutLine_L4 w L fu0 L b_2 l2 i_3 i_3 σ K)
    else
    K (.slice b_2.b b_2.o b_2.n 1) σ := by kernel_rfl
set_option maxRecDepth 100000 in
theorem cell_PutLine_L4_eq {R : Type} (w : C_cell_PutLine) (L fu0 fu1 : Nat) (b_2 : Sl) (l2 : Sl) (i_3 : Int) (k_1 : Int) (σ : Heap) (K : AVal → Heap → Option R) :
    cell_PutLine_L4 w L fu0 (fu1 + 1) b_2 l2 i_3 k_1 σ K =
    bif (decide (k_1 < (l2.n : Int))) then (
      bif ((decide (0 ≤ k_1)) && (decide (k_1 < (l2.n : Int)))) then (
        (l2.b).bind fun b3 =>
        (int? (Heap.cell? σ b3 (l2.o + k_1.toNat * 6)) .i32).bind fun x4 =>
        (bool? (Heap.cell? σ b3 ((l2.o + k_1.toNat * 6) + 1))).bind fun x5 =>
        (bool? (Heap.cell? σ b3 ((l2.o + k_1.toNat * 6) + 2))).bind fun x6 =>
        (bool? (Heap.cell? σ b3 ((l2.o + k_1.toNat * 6) + 3))).bind fun x7 =>
        (int? (Heap.cell? σ b3 ((l2.o + k_1.toNat * 6) + 4)) .i64).bind fun x8 =>
        (int? (Heap.cell? σ b3 ((l2.o + k_1.toNat * 6) + 5)) .i64).bind fun x9 =>
        bif ((decide (0 ≤ i_3)) && (decide (i_3 < (l2.n : Int)))) then (
          (l2.b).bind fun b10 =>
          (int? (Heap.cell? σ b10 (l2.o + i_3.toNat * 6)) .i32).bind fun x11 =>
          (bool? (Heap.cell? σ b10 ((l2.o + i_3.toNat * 6) + 1))).bind fun x12 =>
          (bool? (Heap.cell? σ b10 ((l2.o + i_3.toNat * 6) + 2))).bind fun x13 =>
          (bool? (Heap.cell? σ b10 ((l2.o + i_3.toNat * 6) + 3))).bind fun x14 =>
          (int? (Heap.cell? σ b10 ((l2.o + i_3.toNat * 6) + 4)) .i64).bind fun x15 =>
          (int? (Heap.cell? σ b10 ((l2.o + i_3.toNat * 6) + 5)) .i64).bind fun x16 =>
          bif (((x4 : Int) == x11) && ((x5 == x12) && ((x6 == x13) && ((x7 == x14) && (((x8 : Int) == x15) && (((x9 : Int) == x16) && true)))))) then (
            cell_PutLine_L4 w L fu0 fu1 b_2 l2 i_3 (IntKind.i64.wrap (k_1 + 1)) σ K)
          else
          bif ((decide (0 ≤ i_3)) && (decide (i_3 < (l2.n : Int)))) then (
            (l2.b).bind fun b17 =>
            (int? (Heap.cell? σ b17 (l2.o + i_3.toNat * 6)) .i32).bind fun x18 =>
            alloc (Heap.frz σ) [.int .u64 (IntKind.u64.wrap (IntKind.i64.wrap (k_1 - i_3))), .int .u64 (IntKind.u64.wrap x18)] fun b19 σ20 =>
            (w.vary_Put b_2 ⟨(some b19), 0, 2⟩ (Heap.back σ σ20)).bind fun q21 =>
            (keep? (Heap.back σ σ20) q21.2).bind fun _ =>
            bif ((decide (0 ≤ i_3)) && (decide (i_3 < (l2.n : Int)))) then (
              (l2.b).bind fun b23 =>
              (bool? (Heap.cell? q21.2 b23 ((l2.o + i_3.toNat * 6) + 1))).bind fun x24 =>
              (bool? (Heap.cell? q21.2 b23 ((l2.o + i_3.toNat * 6) + 2))).bind fun x25 =>
              (bool? (Heap.cell? q21.2 b23 ((l2.o + i_3.toNat * 6) + 3))).bind fun x26 =>
              (int? (Heap.cell? q21.2 b23 ((l2.o + i_3.toNat * 6) + 4)) .i64).bind fun x27 =>
              (int? (Heap.cell? q21.2 b23 ((l2.o + i_3.toNat * 6) + 5)) .i64).bind fun x28 =>
              (w.cell_PutStyle q21.1 ⟨x24, x25, x26, x27, x28⟩ q21.2).bind fun q29 =>
              cell_PutLine_L2 w L fu0 q29.1 l2 k_1 q29.2 K)
            else none)
          else none)
        else none)
      else none)
    else
    bif ((decide (0 ≤ i_3)) && (decide (i_3 < (l2.n : Int)))) then (
      (l2.b).bind fun b30 =>
      (int? (Heap.cell? σ b30 (l2.o + i_3.toNat * 6)) .i32).bind fun x31 =>
      alloc (Heap.frz σ) [.int .u64 (IntKind.u64.wrap (IntKind.i64.wrap (k_1 - i_3))), .int .u64 (IntKind.u64.wrap x31)] fun b32 σ33 =>
      (w.vary_Put b_2 ⟨(some b32), 0, 2⟩ (Heap.back σ σ33)).bind fun q34 =>
      (keep? (Heap.back σ σ33) q34.2).bind fun _ =>
      bif ((decide (0 ≤ i_3)) && (decide (i_3 < (l2.n : Int)))) then (
        (l2.b).bind fun b36 =>
        (bool? (Heap.cell? q34.2 b36 ((l2.o + i_3.toNat * 6) + 1))).bind fun x37 =>
        (bool? (Heap.cell? q34.2 b36 ((l2.o + i_3.toNat * 6) + 2))).bind fun x38 =>
        (bool? (Heap.cell? q34.2 b36 ((l2.o + i_3.toNat * 6) + 3))).bind fun x39 =>
        (int? (Heap.cell? q34.2 b36 ((l2.o + i_3.toNat * 6) + 4)) .i64).bind fun x40 =>
        (int? (Heap.cell? q34.2 b36 ((l2.o + i_3.toNat * 6) + 5)) .i64).bind fun x41 =>
        (w.cell_PutStyle q34.1 ⟨x37, x38, x39, x40, x41⟩ q34.2).bind fun q42 =>
        cell_PutLine_L2 w L fu0 q42.1 l2 k_1 q42.2 K)
      else none)
    else none := by kernel_rfl
set_option maxRecDepth 100000 in
theorem cell_PutLine_eq {R : Type} (w : C_cell_PutLine) (L : Nat) (b1 : Sl) (l2 : Sl) (σ : Heap) (K : AVal → Heap → Option R) :
    callC T (O_cell_PutLine w) L 2 43 [.slice b1.b b1.o b1.n 1, .slice l2.b l2.o l2.n 6] σ K =
    cell_PutLine_L2 w L L b1 l2 0 σ K := by kernel_rfl
/-! grid_Fit -/
set_option maxRecDepth 100000 in
theorem grid_Fit_eq {R : Type} (w : C_grid_Fit) (L : Nat) (l1 : Sl) (w2 : Int) (σ : Heap) (K : AVal → Heap → Option R) :
    callC T (O_grid_Fit w) L 2 44 [.slice l1.b l1.o l1.n 6, .int .i64 w2] σ K =
    bif (decide ((l1.n : Int) ≥ (if 0 > w2 then 0 else w2))) then (
      bif ((decide (0 ≤ (if 0 > w2 then 0 else w2))) && (decide ((if 0 > w2 then 0 else w2) ≤ (l1.n : Int)))) then (
        (w.cell_Mend ⟨l1.b, l1.o, (if 0 > w2 then 0 else w2).toNat⟩ σ).bind fun q3 =>
        K (.slice q3.1.b q3.1.o q3.1.n 6) q3.2)
      else none)
    else
    (w.slices_Clone l1 σ).bind fun q4 =>
    (w.grid_blank (IntKind.i64.wrap ((if 0 > w2 then 0 else w2) - (l1.n : Int))) ⟨false, false, false, 0, 0⟩ q4.2).bind fun q5 =>
    (Heap.read q5.2 q5.1.b q5.1.o q5.1.n 6).bind fun vs6 =>
    (Heap.append q5.2 q4.1.b q4.1.o q4.1.n 6 32 vs6 q5.1.n).bind fun q7 =>
    K (.slice q7.1.1 q7.1.2.1 q7.1.2.2 6) q7.2 := by kernel_rfl
/-! law09_GridFits -/
noncomputable def law09_GridFits_L9 {R : Type} (w : C_law09_GridFits) (L fu0 : Nat) (l_1 : Sl) (w_2 : Int) (want_4 : Sl) (x_3 : Int) (x_5 : Int) (σ : Heap) (K : AVal → Heap → Option R) : Option R :=
  loopAt T (O_law09_GridFits w) L 1 11 Tryd.f11 [1, 1, 1, 1, 1, 1, 0, 1, 0] [] fu0
    ([.slice l_1.b l_1.o l_1.n 6, .int .i64 w_2, .undef, .undef, .undef, .slice want_4.b want_4.o want_4.n 6] ++ List.replicate 14 .undef ++ [.int .i64 x_3, .int .i64 x_5] ++ List.replicate 27 .undef)
    (List.replicate 49 .none) σ K
set_option maxRecDepth 100000 in
theorem law09_GridFits_L9_eq {R : Type} (w : C_law09_GridFits) (L fu0 : Nat) (l_1 : Sl) (w_2 : Int) (want_4 : Sl) (x_3 : Int) (x_5 : Int) (σ : Heap) (K : AVal → Heap → Option R) :
    law09_GridFits_L9 w L (fu0 + 1) l_1 w_2 want_4 x_3 x_5 σ K =
    bif (decide (x_5 < x_3)) then (
      bif (decide (x_5 < (l_1.n : Int))) then (
        bif ((decide (0 ≤ x_5)) && (decide (x_5 < (l_1.n : Int)))) then (
          (l_1.b).bind fun b7 =>
          (int? (Heap.cell? σ b7 (l_1.o + x_5.toNat * 6)) .i32).bind fun x8 =>
          (bool? (Heap.cell? σ b7 ((l_1.o + x_5.toNat * 6) + 1))).bind fun x9 =>
          (bool? (Heap.cell? σ b7 ((l_1.o + x_5.toNat * 6) + 2))).bind fun x10 =>
          (bool? (Heap.cell? σ b7 ((l_1.o + x_5.toNat * 6) + 3))).bind fun x11 =>
          (int? (Heap.cell? σ b7 ((l_1.o + x_5.toNat * 6) + 4)) .i64).bind fun x12 =>
          (int? (Heap.cell? σ b7 ((l_1.o + x_5.toNat * 6) + 5)) .i64).bind fun x13 =>
          (Heap.append σ want_4.b want_4.o want_4.n 6 32 [.int .i32 x8, .bool x9, .bool x10, .bool x11, .int .i64 x12, .int .i64 x13] 1).bind fun q14 =>
          law09_GridFits_L9 w L fu0 l_1 w_2 ⟨q14.1.1, q14.1.2.1, q14.1.2.2⟩ x_3 (IntKind.i64.wrap (x_5 + 1)) q14.2 K)
        else none)
      else
      (Heap.append σ want_4.b want_4.o want_4.n 6 32 [.int .i32 32, .bool false, .bool false, .bool false, .int .i64 0, .int .i64 0] 1).bind fun q15 =>
      law09_GridFits_L9 w L fu0 l_1 w_2 ⟨q15.1.1, q15.1.2.1, q15.1.2.2⟩ x_3 (IntKind.i64.wrap (x_5 + 1)) q15.2 K)
    else
    (w.grid_Fit l_1 w_2 σ).bind fun q16 =>
    (w.ref08_Mend want_4 q16.2).bind fun q17 =>
    (w.law08_Same q16.1 q17.1 q17.2).bind fun q18 =>
    bif q18.1 then (
      (w.cell_Whole q16.1 q18.2).bind fun q19 =>
      K (.bool q19.1) q19.2)
    else K (.bool false) q18.2 := by kernel_rfl
set_option maxRecDepth 100000 in
theorem law09_GridFits_eq {R : Type} (w : C_law09_GridFits) (L : Nat) (l1 : Sl) (w2 : Int) (σ : Heap) (K : AVal → Heap → Option R) :
    callC T (O_law09_GridFits w) L 2 11 [.slice l1.b l1.o l1.n 6, .int .i64 w2] σ K =
    (w.law09_fit σ).bind fun q3 =>
    bif (!q3.1) then (
      K (.bool false) q3.2)
    else
    bif (decide ((l1.n : Int) > 200)) then (
      K (.bool true) q3.2)
    else
    (w.law08_Tame l1 q3.2).bind fun q4 =>
    (w.ref08_Mend q4.1 q4.2).bind fun q5 =>
    (w.law09_within w2 (-1) 300 q5.2).bind fun q6 =>
    law09_GridFits_L9 w L L q5.1 q6.1 ⟨none, 0, 0⟩ (if 0 > q6.1 then 0 else q6.1) 0 q6.2 K := by kernel_rfl
end Go.Abs.TA
