/-
Lifted functions: what the machine does, one equation for each entry and each loop (printed by lift.py).
-/
import Derived.Test.YtcfohnfnajfahaaDoorSigA
namespace Go.Abs.TA
open Go Go.Abs Go.Proofs
/-! law09_equal -/
noncomputable def law09_equal_L4 {R : Type} (w : C_law09_equal) (L fu0 : Nat) (a1 : Sl) (b2 : Sl) (x_1 : Int) (σ : Heap) (K : AVal → Heap → Option R) : Option R :=
  loopAt T (O_law09_equal w) L 1 52 Tryd.f52 [1, 1, 0, 1, 0] [] fu0
    ([.slice a1.b a1.o a1.n 1, .slice b2.b b2.o b2.n 1] ++ List.replicate 10 .undef ++ [.int .i64 (a1.n : Int), .int .i64 x_1] ++ List.replicate 13 .undef)
    (List.replicate 27 .none) σ K
set_option maxRecDepth 100000 in
theorem law09_equal_L4_eq {R : Type} (w : C_law09_equal) (L fu0 : Nat) (a1 : Sl) (b2 : Sl) (x_1 : Int) (σ : Heap) (K : AVal → Heap → Option R) :
    law09_equal_L4 w L (fu0 + 1) a1 b2 x_1 σ K =
    bif (decide (x_1 < (a1.n : Int))) then (
      bif ((decide (0 ≤ x_1)) && (decide (x_1 < (a1.n : Int)))) then (
        (a1.b).bind fun b3 =>
        (slice? (Heap.cell? σ b3 (a1.o + x_1.toNat * 1)) 6).bind fun x4 =>
        bif ((decide (0 ≤ x_1)) && (decide (x_1 < (b2.n : Int)))) then (
          (b2.b).bind fun b5 =>
          (slice? (Heap.cell? σ b5 (b2.o + x_1.toNat * 1)) 6).bind fun x6 =>
          (w.law08_Same ⟨x4.1, x4.2.1, x4.2.2⟩ ⟨x6.1, x6.2.1, x6.2.2⟩ σ).bind fun q7 =>
          bif (!q7.1) then (
            K (.bool false) q7.2)
          else
          law09_equal_L4 w L fu0 a1 b2 (IntKind.i64.wrap (x_1 + 1)) q7.2 K)
        else none)
      else none)
    else K (.bool true) σ := by kernel_rfl
set_option maxRecDepth 100000 in
theorem law09_equal_eq {R : Type} (w : C_law09_equal) (L : Nat) (a1 : Sl) (b2 : Sl) (σ : Heap) (K : AVal → Heap → Option R) :
    callC T (O_law09_equal w) L 2 52 [.slice a1.b a1.o a1.n 1, .slice b2.b b2.o b2.n 1] σ K =
    bif ((a1.n : Int) != (b2.n : Int)) then (
      K (.bool false) σ)
    else
    law09_equal_L4 w L L a1 b2 0 σ K := by kernel_rfl
/-! law09_GridRuns -/
noncomputable def law09_GridRuns_L10 {R : Type} (w : C_law09_GridRuns) (L fu0 : Nat) (g_1 : Pt) (m_2 : Sl) (deeds3 : Sl) (x_3 : Int) (σ : Heap) (K : AVal → Heap → Option R) : Option R :=
  loopAt T (O_law09_GridRuns w) L 1 15 Tryd.f15 [1, 1, 1, 1, 1, 1, 0, 1, 0] [] fu0
    (List.replicate 7 .undef ++ [.ptr g_1, .slice m_2.b m_2.o m_2.n 1] ++ List.replicate 32 .undef ++ [.slice deeds3.b deeds3.o deeds3.n 10, .int .i64 (deeds3.n : Int), .int .i64 x_3] ++ List.replicate 46 .undef)
    (List.replicate 90 .none) σ K
set_option maxRecDepth 100000 in
theorem law09_GridRuns_L10_eq {R : Type} (w : C_law09_GridRuns) (L fu0 : Nat) (g_1 : Pt) (m_2 : Sl) (deeds3 : Sl) (x_3 : Int) (σ : Heap) (K : AVal → Heap → Option R) :
    law09_GridRuns_L10 w L (fu0 + 1) g_1 m_2 deeds3 x_3 σ K =
    bif (decide (x_3 < (deeds3.n : Int))) then (
      bif ((decide (0 ≤ x_3)) && (decide (x_3 < (deeds3.n : Int)))) then (
        (deeds3.b).bind fun b10 =>
        (int? (Heap.cell? σ b10 (deeds3.o + x_3.toNat * 10)) .i64).bind fun x11 =>
        (int? (Heap.cell? σ b10 ((deeds3.o + x_3.toNat * 10) + 1)) .i64).bind fun x12 =>
        (int? (Heap.cell? σ b10 ((deeds3.o + x_3.toNat * 10) + 2)) .i64).bind fun x13 =>
        (int? (Heap.cell? σ b10 ((deeds3.o + x_3.toNat * 10) + 3)) .i64).bind fun x14 =>
        (int? (Heap.cell? σ b10 ((deeds3.o + x_3.toNat * 10) + 4)) .i32).bind fun x15 =>
        (bool? (Heap.cell? σ b10 ((deeds3.o + x_3.toNat * 10) + 5))).bind fun x16 =>
        (bool? (Heap.cell? σ b10 ((deeds3.o + x_3.toNat * 10) + 6))).bind fun x17 =>
        (bool? (Heap.cell? σ b10 ((deeds3.o + x_3.toNat * 10) + 7))).bind fun x18 =>
        (int? (Heap.cell? σ b10 ((deeds3.o + x_3.toNat * 10) + 8)) .i64).bind fun x19 =>
        (int? (Heap.cell? σ b10 ((deeds3.o + x_3.toNat * 10) + 9)) .i64).bind fun x20 =>
        (w.law09_lines_do m_2 ⟨x11, x12, x13, x14, ⟨x15, ⟨x16, x17, x18, x19, x20⟩⟩⟩ σ).bind fun q21 =>
        (w.law09_do g_1 ⟨x11, x12, x13, x14, ⟨x15, ⟨x16, x17, x18, x19, x20⟩⟩⟩ (Heap.frz q21.2)).bind fun q22 =>
        (w.law09_equal q22.1 q21.1.2 (Heap.back q21.2 q22.2)).bind fun q23 =>
        bif (!q23.1) then (
          K (.bool false) q23.2)
        else
        (g_1).bind fun q24 =>
        (slice? (Heap.cell? q23.2 q24.1 (q24.2 + 2)) 1).bind fun x25 =>
        (w.law09_equal ⟨x25.1, x25.2.1, x25.2.2⟩ q21.1.1 q23.2).bind fun q26 =>
        bif (!q26.1) then (
          K (.bool false) q26.2)
        else
        (g_1).bind fun q27 =>
        (int? (Heap.cell? q26.2 q27.1 q27.2) .i64).bind fun x28 =>
        bif (decide (0 < (q21.1.1.n : Int))) then (
          (q21.1.1.b).bind fun b29 =>
          (slice? (Heap.cell? q26.2 b29 q21.1.1.o) 6).bind fun x30 =>
          bif (x28 != (x30.2.2 : Int)) then (
            K (.bool false) q26.2)
          else
          (g_1).bind fun q31 =>
          (int? (Heap.cell? q26.2 q31.1 (q31.2 + 1)) .i64).bind fun x32 =>
          bif (x32 != (q21.1.1.n : Int)) then (
            K (.bool false) q26.2)
          else
          law09_GridRuns_L10 w L fu0 g_1 q21.1.1 deeds3 (IntKind.i64.wrap (x_3 + 1)) q26.2 K)
        else none)
      else none)
    else K (.bool true) σ := by kernel_rfl
set_option maxRecDepth 100000 in
theorem law09_GridRuns_eq {R : Type} (w : C_law09_GridRuns) (L : Nat) (size1 : Arr_2_Int) (l2 : Sl) (deeds3 : Sl) (σ : Heap) (K : AVal → Heap → Option R) :
    callC T (O_law09_GridRuns w) L 2 15 [.agg [.int .i64 size1.i0, .int .i64 size1.i1], .slice l2.b l2.o l2.n 6, .slice deeds3.b deeds3.o deeds3.n 10] σ K =
    (w.law09_fit σ).bind fun q4 =>
    bif (!q4.1) then (
      K (.bool false) q4.2)
    else
    bif (decide ((l2.n : Int) > 2000)) then (
      K (.bool true) q4.2)
    else
    bif (decide ((deeds3.n : Int) > 60)) then (
      K (.bool true) q4.2)
    else
    (w.law09_Fill (IntKind.i64.wrap ((IntKind.i64.wrap (BitVec.ofInt IntKind.i64.bits size1.i0 &&& BitVec.ofInt IntKind.i64.bits 31).toNat) + 1)) (IntKind.i64.wrap ((IntKind.i64.wrap (BitVec.ofInt IntKind.i64.bits size1.i1 &&& BitVec.ofInt IntKind.i64.bits 31).toNat) + 1)) l2 q4.2).bind fun q5 =>
    (w.law09_whole q5.1 q5.2).bind fun q6 =>
    bif (!q6.1) then (
      K (.bool false) q6.2)
    else
    (w.grid_Grid_Copy q5.1 q6.2).bind fun q7 =>
    (q7.1).bind fun q8 =>
    (slice? (Heap.cell? q7.2 q8.1 (q8.2 + 2)) 1).bind fun x9 =>
    law09_GridRuns_L10 w L L q5.1 ⟨x9.1, x9.2.1, x9.2.2⟩ deeds3 0 q7.2 K := by kernel_rfl
/-! law09_GridCopies -/
set_option maxRecDepth 100000 in
theorem law09_GridCopies_eq {R : Type} (w : C_law09_GridCopies) (L : Nat) (size1 : Arr_2_Int) (l2 : Sl) (d3 : law09_Deed) (σ : Heap) (K : AVal → Heap → Option R) :
    callC T (O_law09_GridCopies w) L 2 16 [.agg [.int .i64 size1.i0, .int .i64 size1.i1], .slice l2.b l2.o l2.n 6, .agg [.int .i64 d3.Kind, .int .i64 d3.A, .int .i64 d3.B, .int .i64 d3.C, .int .i32 d3.Cell.Rune, .bool d3.Cell.Style.Bold, .bool d3.Cell.Style.Under, .bool d3.Cell.Style.Turned, .int .i64 d3.Cell.Style.Fore, .int .i64 d3.Cell.Style.Back]] σ K =
    (w.law09_fit σ).bind fun q4 =>
    bif (!q4.1) then (
      K (.bool false) q4.2)
    else
    bif (decide ((l2.n : Int) > 2000)) then (
      K (.bool true) q4.2)
    else
    (w.law09_Fill (IntKind.i64.wrap ((IntKind.i64.wrap (BitVec.ofInt IntKind.i64.bits size1.i0 &&& BitVec.ofInt IntKind.i64.bits 31).toNat) + 1)) (IntKind.i64.wrap ((IntKind.i64.wrap (BitVec.ofInt IntKind.i64.bits size1.i1 &&& BitVec.ofInt IntKind.i64.bits 31).toNat) + 1)) l2 q4.2).bind fun q5 =>
    (w.grid_Grid_Copy q5.1 q5.2).bind fun q6 =>
    (w.grid_Grid_Copy q5.1 q6.2).bind fun q7 =>
    (w.grid_Same q5.1 q6.1 q7.2).bind fun q8 =>
    bif (!q8.1) then (
      K (.bool false) q8.2)
    else
    (w.law09_do q6.1 d3 q8.2).bind fun q9 =>
    (q6.1).bind fun q10 =>
    (int? (Heap.cell? q9.2 q10.1 q10.2) .i64).bind fun x11 =>
    (q7.1).bind fun q12 =>
    (int? (Heap.cell? q9.2 q12.1 q12.2) .i64).bind fun x13 =>
    bif (x11 == x13) then (
      (q6.1).bind fun q14 =>
      (slice? (Heap.cell? q9.2 q14.1 (q14.2 + 2)) 1).bind fun x15 =>
      (q7.1).bind fun q16 =>
      (slice? (Heap.cell? q9.2 q16.1 (q16.2 + 2)) 1).bind fun x17 =>
      (w.law09_equal ⟨x15.1, x15.2.1, x15.2.2⟩ ⟨x17.1, x17.2.1, x17.2.2⟩ q9.2).bind fun q18 =>
      (w.grid_Same q5.1 q7.1 q18.2).bind fun q19 =>
      bif q19.1 then (
        (q5.1).bind fun q20 =>
        (slice? (Heap.cell? q19.2 q20.1 (q20.2 + 2)) 1).bind fun x21 =>
        (q7.1).bind fun q22 =>
        (slice? (Heap.cell? q19.2 q22.1 (q22.2 + 2)) 1).bind fun x23 =>
        (w.law09_equal ⟨x21.1, x21.2.1, x21.2.2⟩ ⟨x23.1, x23.2.1, x23.2.2⟩ q19.2).bind fun q24 =>
        bif q24.1 then (
          (w.grid_Same q5.1 q6.1 (Heap.frz q24.2)).bind fun q25 =>
          bif (q25.1 == q18.1) then (
            (q5.1).bind fun q26 =>
            (int? (Heap.cell? (Heap.back q24.2 q25.2) q26.1 q26.2) .i64).bind fun x27 =>
            (q5.1).bind fun q28 =>
            (int? (Heap.cell? (Heap.back q24.2 q25.2) q28.1 (q28.2 + 1)) .i64).bind fun x29 =>
            (w.grid_New (IntKind.i64.wrap (x27 + 1)) x29 (Heap.frz (Heap.back q24.2 q25.2))).bind fun q30 =>
            (w.grid_Same q5.1 q30.1 (Heap.back (Heap.back q24.2 q25.2) q30.2)).bind fun q31 =>
            K (.bool (!q31.1)) q31.2)
          else K (.bool false) (Heap.back q24.2 q25.2))
        else K (.bool false) q24.2)
      else K (.bool false) q19.2)
    else
    (w.grid_Same q5.1 q7.1 q9.2).bind fun q32 =>
    bif q32.1 then (
      (q5.1).bind fun q33 =>
      (slice? (Heap.cell? q32.2 q33.1 (q33.2 + 2)) 1).bind fun x34 =>
      (q7.1).bind fun q35 =>
      (slice? (Heap.cell? q32.2 q35.1 (q35.2 + 2)) 1).bind fun x36 =>
      (w.law09_equal ⟨x34.1, x34.2.1, x34.2.2⟩ ⟨x36.1, x36.2.1, x36.2.2⟩ q32.2).bind fun q37 =>
      bif q37.1 then (
        (w.grid_Same q5.1 q6.1 (Heap.frz q37.2)).bind fun q38 =>
        bif (q38.1 == false) then (
          (q5.1).bind fun q39 =>
          (int? (Heap.cell? (Heap.back q37.2 q38.2) q39.1 q39.2) .i64).bind fun x40 =>
          (q5.1).bind fun q41 =>
          (int? (Heap.cell? (Heap.back q37.2 q38.2) q41.1 (q41.2 + 1)) .i64).bind fun x42 =>
          (w.grid_New (IntKind.i64.wrap (x40 + 1)) x42 (Heap.frz (Heap.back q37.2 q38.2))).bind fun q43 =>
          (w.grid_Same q5.1 q43.1 (Heap.back (Heap.back q37.2 q38.2) q43.2)).bind fun q44 =>
          K (.bool (!q44.1)) q44.2)
        else K (.bool false) (Heap.back q37.2 q38.2))
      else K (.bool false) q37.2)
    else K (.bool false) q32.2 := by kernel_rfl
/-! math_bits_Mul32 -/
set_option maxRecDepth 100000 in
theorem math_bits_Mul32_eq {R : Type} (L : Nat) (x1 : Int) (y2 : Int) (σ : Heap) (K : AVal → Heap → Option R) :
    callC T known0 L 2 80 [.int .u32 x1, .int .u32 y2] σ K =
    K (.tuple [.int .u32 (IntKind.u32.wrap (Int.fdiv (IntKind.u64.wrap ((IntKind.u64.wrap x1) * (IntKind.u64.wrap y2))) (2 ^ 32))), .int .u32 (IntKind.u32.wrap (IntKind.u64.wrap ((IntKind.u64.wrap x1) * (IntKind.u64.wrap y2))))]) σ := by kernel_rfl
end Go.Abs.TA
