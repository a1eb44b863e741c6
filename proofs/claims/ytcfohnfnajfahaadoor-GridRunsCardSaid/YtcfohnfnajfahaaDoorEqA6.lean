/-
Lifted functions: what the machine does, one equation for each entry and each loop (printed by lift.py).
-/
import Derived.Test.YtcfohnfnajfahaaDoorSigA
namespace Go.Abs.TA
open Go Go.Abs Go.Proofs
/-! law09_equal -/
noncomputable def law09_equal_L4 {R : Type} (w : C_law09_equal) (L fu0 : Nat) (a1 : Sl) (b2 : Sl) (x_1 : Int) (σ : Heap) (K : AVal → Heap → Option R) : Option R :=
  loopAt T (O_law09_equal w) L 1 52 Tryd.f52 [1, 1, 0, 1, 0] [] fu0
    ([.slice a1.b a1.o a1.n 1, .slice b2.b b2.o b2.n 1] ++ List.replicate 10 .undef ++ [.int .i64 (a1.n : Int), .int .i64 x_1] ++ List.replicate 13 .undef)
    (List.replicate 27 .none) σ K
set_option maxRecDepth 100000 in
theorem law09_equal_L4_eq {R : Type} (w : C_law09_equal) (L fu0 : Nat) (a1 : Sl) (b2 : Sl) (x_1 : Int) (σ : Heap) (K : AVal → Heap → Option R) :
    law09_equal_L4 w L (fu0 + 1) a1 b2 x_1 σ K =
    bif (decide (x_1 < (a1.n : Int))) then (
      bif ((decide (0 ≤ x_1)) && (decide (x_1 < (a1.n : Int)))) then (
        (a1.b).bind fun b3 =>
        (slice? (Heap.cell? σ b3 (a1.o + x_1.toNat * 1)) 6).bind fun x4 =>
        bif ((decide (0 ≤ x_1)) && (decide (x_1 < (b2.n : Int)))) then (
          (b2.b).bind fun b5 =>
          (slice? (Heap.cell? σ b5 (b2.o + x_1.toNat * 1)) 6).bind fun x6 =>
          (w.law08_Same ⟨x4.1, x4.2.1, x4.2.2⟩ ⟨x6.1, x6.2.1, x6.2.2⟩ σ).bind fun q7 =>
          bif (!q7.1) then (
            K (.bool false) q7.2)
          else
          law09_equal_L4 w L fu0 a1 b2 (IntKind.i64.wrap (x_1 + 1)) q7.2 K)
        else none)
      else none)
    else K (.bool true) σ := by kernel_rfl
set_option maxRecDepth 100000 in
theorem law09_equal_eq {R : Type} (w : C_law09_equal) (L : Nat) (a1 : Sl) (b2 : Sl) (σ : Heap) (K : AVal → Heap → Option R) :
    callC T (O_law09_equal w) L 2 52 [.slice a1.b a1.o a1.n 1, .slice b2.b b2.o b2.n 1] σ K =
    bif ((a1.n : Int) != (b2.n : Int)) then (
      K (.bool false) σ)
    else
    law09_equal_L4 w L L a1 b2 0 σ K := by kernel_rfl
/-! law09_GridRuns -/
noncomputable def law09_GridRuns_L10 {R : Type} (w : C_law09_GridRuns) (L fu0 : Nat) (g_1 : Pt) (m_2 : Sl) (deeds3 : Sl) (x_3 : Int) (σ : Heap) (K : AVal → Heap → Option R) : Option R :=
  loopAt T (O_law09_GridRuns w) L 1 15 Tryd.f15 [1, 1, 1, 1, 1, 1, 0, 1, 0] [] fu0
    (List.replicate 7 .undef ++ [.ptr g_1, .slice m_2.b m_2.o m_2.n 1] ++ List.replicate 32 .undef ++ [.slice deeds3.b deeds3.o deeds3.n 10, .int .i64 (deeds3.n : Int), .int .i64 x_3] ++ List.replicate 46 .undef)
    (List.replicate 90 .none) σ K
set_option maxRecDepth 100000 in
theorem law09_GridRuns_L10_eq {R : Type} (w : C_law09_GridRuns) (L fu0 : Nat) (g_1 : Pt) (m_2 : Sl) (deeds3 : Sl) (x_3 : Int) (σ : Heap) (K : AVal → Heap → Option R) :
    law09_GridRuns_L10 w L (fu0 + 1) g_1 m_2 deeds3 x_3 σ K =
    bif (decide (x_3 < (deeds3.n : Int))) then (
      bif ((decide (0 ≤ x_3)) && (decide (x_3 < (deeds3.n : Int)))) then (
        (deeds3.b).bind fun b10 =>
        (int? (Heap.cell? σ b10 (deeds3.o + x_3.toNat * 10)) .i64).bind fun x11 =>
        (int? (Heap.cell? σ b10 ((deeds3.o + x_3.toNat * 10) + 1)) .i64).bind fun x12 =>
        (int? (Heap.cell? σ b10 ((deeds3.o + x_3.toNat * 10) + 2)) .i64).bind fun x13 =>
        (int? (Heap.cell? σ b10 ((deeds3.o + x_3.toNat * 10) + 3)) .i64).bind fun x14 =>
        (int? (Heap.cell? σ b10 ((deeds3.o + x_3.toNat * 10) + 4)) .i32).bind fun x15 =>
        (bool? (Heap.cell? σ b10 ((deeds3.o + x_3.toNat * 10) + 5))).bind fun x16 =>
        (bool? (Heap.cell? σ b10 ((deeds3.o + x_3.toNat * 10) + 6))).bind fun x17 =>
        (bool? (Heap.cell? σ b10 ((deeds3.o + x_3.toNat * 10) + 7))).bind fun x18 =>
        (int? (Heap.cell? σ b10 ((deeds3.o + x_3.toNat * 10) + 8)) .i64).bind fun x19 =>
        (int? (Heap.cell? σ b10 ((deeds3.o + x_3.toNat * 10) + 9)) .i64).bind fun x20 =>
        (w.law09_lines_do m_2 ⟨x11, x12, x13, x14, ⟨x15, ⟨x16, x17, x18, x19, x20⟩⟩⟩ σ).bind fun q21 =>
        (w.law09_do g_1 ⟨x11, x12, x13, x14, ⟨x15, ⟨x16, x17, x18, x19, x20⟩⟩⟩ q21.2).bind fun q22 =>
        (w.law09_equal q22.1 q21.1.2 q22.2).bind fun q23 =>
        bif (!q23.1) then (
          K (.bool false) q23.2)
        else
        (g_1).bind fun q24 =>
        (slice? (Heap.cell? q23.2 q24.1 (q24.2 + 2)) 1).bind fun x25 =>
        (w.law09_equal ⟨x25.1, x25.2.1, x25.2.2⟩ q21.1.1 q23.2).bind fun q26 =>
        bif (!q26.1) then (
          K (.bool false) q26.2)
        else
        (g_1).bind fun q27 =>
        (int? (Heap.cell? q26.2 q27.1 q27.2) .i64).bind fun x28 =>
        bif (decide (0 < (q21.1.1.n : Int))) then (
          (q21.1.1.b).bind fun b29 =>
          (slice? (Heap.cell? q26.2 b29 q21.1.1.o) 6).bind fun x30 =>
          bif (x28 != (x30.2.2 : Int)) then (
            K (.bool false) q26.2)
          else
          (g_1).bind fun q31 =>
          (int? (Heap.cell? q26.2 q31.1 (q31.2 + 1)) .i64).bind fun x32 =>
          bif (x32 != (q21.1.1.n : Int)) then (
            K (.bool false) q26.2)
          else
          law09_GridRuns_L10 w L fu0 g_1 q21.1.1 deeds3 (IntKind.i64.wrap (x_3 + 1)) q26.2 K)
        else none)
      else none)
    else K (.bool true) σ := by kernel_rfl
set_option maxRecDepth 100000 in
theorem law09_GridRuns_eq {R : Type} (w : C_law09_GridRuns) (L : Nat) (size1 : Arr_2_Int) (l2 : Sl) (deeds3 : Sl) (σ : Heap) (K : AVal → Heap → Option R) :
    callC T (O_law09_GridRuns w) L 2 15 [.agg [.int .i64 size1.i0, .int .i64 size1.i1], .slice l2.b l2.o l2.n 6, .slice deeds3.b deeds3.o deeds3.n 10] σ K =
    (w.law09_fit σ).bind fun q4 =>
    bif (!q4.1) then (
      K (.bool false) q4.2)
    else
    bif (decide ((l2.n : Int) > 2000)) then (
      K (.bool true) q4.2)
    else
    bif (decide ((deeds3.n : Int) > 60)) then (
      K (.bool true) q4.2)
    else
    (w.law09_Fill (IntKind.i64.wrap ((IntKind.i64.wrap (BitVec.ofInt IntKind.i64.bits size1.i0 &&& BitVec.ofInt IntKind.i64.bits 31).toNat) + 1)) (IntKind.i64.wrap ((IntKind.i64.wrap (BitVec.ofInt IntKind.i64.bits size1.i1 &&& BitVec.ofInt IntKind.i64.bits 31).toNat) + 1)) l2 q4.2).bind fun q5 =>
    (w.law09_whole q5.1 q5.2).bind fun q6 =>
    bif (!q6.1) then (
      K (.bool false) q6.2)
    else
    (w.grid_Grid_Copy q5.1 q6.2).bind fun q7 =>
    (q7.1).bind fun q8 =>
    (slice? (Heap.cell? q7.2 q8.1 (q8.2 + 2)) 1).bind fun x9 =>
    law09_GridRuns_L10 w L L q5.1 ⟨x9.1, x9.2.1, x9.2.2⟩ deeds3 0 q7.2 K := by kernel_rfl
end Go.Abs.TA
