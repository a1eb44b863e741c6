/-
Lifted functions: what the machine does, one equation for each entry and each loop (printed by lift.py).
-/
import Derived.Test.YtcfohnfnajfahaaDoorSigA
namespace Go.Abs.TA
open Go Go.Abs Go.Proofs
/-! law09_GridWholes -/
noncomputable def law09_GridWholes_L7 {R : Type} (w : C_law09_GridWholes) (L fu0 : Nat) (g_1 : Pt) (deeds3 : Sl) (x_5 : Int) (σ : Heap) (K : AVal → Heap → Option R) : Option R :=
  loopAt T (O_law09_GridWholes w) L 1 14 Tryd.f14 [1, 1, 1, 1, 0, 1, 0] [] fu0
    (List.replicate 7 .undef ++ [.ptr g_1] ++ List.replicate 20 .undef ++ [.slice deeds3.b deeds3.o deeds3.n 10, .int .i64 (deeds3.n : Int), .int .i64 x_5] ++ List.replicate 21 .undef)
    (List.replicate 52 .none) σ K
noncomputable def law09_GridWholes_L10 {R : Type} (w : C_law09_GridWholes) (L fu0 fu1 : Nat) (g_1 : Pt) (deeds3 : Sl) (x_5 : Int) (x_2 : Sl) (x_3 : Int) (x_4 : Int) (σ : Heap) (K : AVal → Heap → Option R) : Option R :=
  loopAt T (O_law09_GridWholes w) L 1 14 Tryd.f14 [1, 1, 1, 1, 0, 1, 0, 0, 1, 1, 0, 0, 1, 0, 1, 0] [fu0] fu1
    (List.replicate 7 .undef ++ [.ptr g_1] ++ List.replicate 20 .undef ++ [.slice deeds3.b deeds3.o deeds3.n 10, .int .i64 (deeds3.n : Int), .int .i64 x_5] ++ List.replicate 5 .undef ++ [.slice x_2.b x_2.o x_2.n 1, .int .i64 x_3, .int .i64 x_4] ++ List.replicate 13 .undef)
    (List.replicate 52 .none) σ K
set_option maxRecDepth 100000 in
theorem law09_GridWholes_L7_eq {R : Type} (w : C_law09_GridWholes) (L fu0 : Nat) (g_1 : Pt) (deeds3 : Sl) (x_5 : Int) (σ : Heap) (K : AVal → Heap → Option R) :
    law09_GridWholes_L7 w L (fu0 + 1) g_1 deeds3 x_5 σ K =
    bif (decide (x_5 < (deeds3.n : Int))) then (
      bif ((decide (0 ≤ x_5)) && (decide (x_5 < (deeds3.n : Int)))) then (
        (deeds3.b).bind fun b6 =>
        (int? (Heap.cell? σ b6 (deeds3.o + x_5.toNat * 10)) .i64).bind fun x7 =>
        (int? (Heap.cell? σ b6 ((deeds3.o + x_5.toNat * 10) + 1)) .i64).bind fun x8 =>
        (int? (Heap.cell? σ b6 ((deeds3.o + x_5.toNat * 10) + 2)) .i64).bind fun x9 =>
        (int? (Heap.cell? σ b6 ((deeds3.o + x_5.toNat * 10) + 3)) .i64).bind fun x10 =>
        (int? (Heap.cell? σ b6 ((deeds3.o + x_5.toNat * 10) + 4)) .i32).bind fun x11 =>
        (bool? (Heap.cell? σ b6 ((deeds3.o + x_5.toNat * 10) + 5))).bind fun x12 =>
        (bool? (Heap.cell? σ b6 ((deeds3.o + x_5.toNat * 10) + 6))).bind fun x13 =>
        (bool? (Heap.cell? σ b6 ((deeds3.o + x_5.toNat * 10) + 7))).bind fun x14 =>
        (int? (Heap.cell? σ b6 ((deeds3.o + x_5.toNat * 10) + 8)) .i64).bind fun x15 =>
        (int? (Heap.cell? σ b6 ((deeds3.o + x_5.toNat * 10) + 9)) .i64).bind fun x16 =>
        (w.law09_do g_1 ⟨x7, x8, x9, x10, ⟨x11, ⟨x12, x13, x14, x15, x16⟩⟩⟩ σ).bind fun q17 =>
        law09_GridWholes_L10 w L fu0 L g_1 deeds3 x_5 q17.1 (q17.1.n : Int) 0 q17.2 K)
      else none)
    else
    (w.law09_whole g_1 σ).bind fun q18 =>
    K (.bool q18.1) q18.2 := by kernel_rfl
set_option maxRecDepth 100000 in
theorem law09_GridWholes_L10_eq {R : Type} (w : C_law09_GridWholes) (L fu0 fu1 : Nat) (g_1 : Pt) (deeds3 : Sl) (x_5 : Int) (x_2 : Sl) (x_3 : Int) (x_4 : Int) (σ : Heap) (K : AVal → Heap → Option R) :
    law09_GridWholes_L10 w L fu0 (fu1 + 1) g_1 deeds3 x_5 x_2 x_3 x_4 σ K =
    bif (decide (x_4 < x_3)) then (
      bif ((decide (0 ≤ x_4)) && (decide (x_4 < (x_2.n : Int)))) then (
        (x_2.b).bind fun b19 =>
        (slice? (Heap.cell? σ b19 (x_2.o + x_4.toNat * 1)) 6).bind fun x20 =>
        (w.cell_Whole ⟨x20.1, x20.2.1, x20.2.2⟩ σ).bind fun q21 =>
        bif (!q21.1) then (
          K (.bool false) q21.2)
        else
        law09_GridWholes_L10 w L fu0 fu1 g_1 deeds3 x_5 x_2 x_3 (IntKind.i64.wrap (x_4 + 1)) q21.2 K)
      else none)
    else
    (w.law09_whole g_1 σ).bind fun q22 =>
    bif (!q22.1) then (
      K (.bool false) q22.2)
    else
    law09_GridWholes_L7 w L fu0 g_1 deeds3 (IntKind.i64.wrap (x_5 + 1)) q22.2 K := by kernel_rfl
set_option maxRecDepth 100000 in
theorem law09_GridWholes_eq {R : Type} (w : C_law09_GridWholes) (L : Nat) (size1 : Arr_2_Int) (l2 : Sl) (deeds3 : Sl) (σ : Heap) (K : AVal → Heap → Option R) :
    callC T (O_law09_GridWholes w) L 2 14 [.agg [.int .i64 size1.i0, .int .i64 size1.i1], .slice l2.b l2.o l2.n 6, .slice deeds3.b deeds3.o deeds3.n 10] σ K =
    (w.law09_fit σ).bind fun q4 =>
    bif (!q4.1) then (
      K (.bool false) q4.2)
    else
    bif (decide ((l2.n : Int) > 2000)) then (
      K (.bool true) q4.2)
    else
    bif (decide ((deeds3.n : Int) > 60)) then (
      K (.bool true) q4.2)
    else
    (w.law09_Fill size1.i0 size1.i1 l2 q4.2).bind fun q5 =>
    law09_GridWholes_L7 w L L q5.1 deeds3 0 q5.2 K := by kernel_rfl
/-! law09_lines_read -/
set_option maxRecDepth 100000 in
theorem law09_lines_read_eq {R : Type} (L : Nat) (m1 : Sl) (x2 : Int) (y3 : Int) (s4 : api_Style) (σ : Heap) (K : AVal → Heap → Option R) :
    callC T known0 L 2 75 [.slice m1.b m1.o m1.n 1, .int .i64 x2, .int .i64 y3, .agg [.bool s4.Bold, .bool s4.Under, .bool s4.Turned, .int .i64 s4.Fore, .int .i64 s4.Back]] σ K =
    bif (decide (y3 ≥ 0)) then (
      bif (decide (y3 < (m1.n : Int))) then (
        bif (decide (x2 ≥ 0)) then (
          bif ((decide (0 ≤ y3)) && (decide (y3 < (m1.n : Int)))) then (
            (m1.b).bind fun b5 =>
            (slice? (Heap.cell? σ b5 (m1.o + y3.toNat * 1)) 6).bind fun x6 =>
            bif (decide (x2 < (x6.2.2 : Int))) then (
              bif ((decide (0 ≤ y3)) && (decide (y3 < (m1.n : Int)))) then (
                (m1.b).bind fun b7 =>
                (slice? (Heap.cell? σ b7 (m1.o + y3.toNat * 1)) 6).bind fun x8 =>
                bif ((decide (0 ≤ x2)) && (decide (x2 < (x8.2.2 : Int)))) then (
                  (x8.1).bind fun b9 =>
                  (int? (Heap.cell? σ b9 (x8.2.1 + x2.toNat * 6)) .i32).bind fun x10 =>
                  (bool? (Heap.cell? σ b9 ((x8.2.1 + x2.toNat * 6) + 1))).bind fun x11 =>
                  (bool? (Heap.cell? σ b9 ((x8.2.1 + x2.toNat * 6) + 2))).bind fun x12 =>
                  (bool? (Heap.cell? σ b9 ((x8.2.1 + x2.toNat * 6) + 3))).bind fun x13 =>
                  (int? (Heap.cell? σ b9 ((x8.2.1 + x2.toNat * 6) + 4)) .i64).bind fun x14 =>
                  (int? (Heap.cell? σ b9 ((x8.2.1 + x2.toNat * 6) + 5)) .i64).bind fun x15 =>
                  K (.agg [.int .i32 x10, .bool x11, .bool x12, .bool x13, .int .i64 x14, .int .i64 x15]) σ)
                else none)
              else none)
            else K (.agg [.int .i32 32, .bool false, .bool false, .bool false, .int .i64 0, .int .i64 s4.Back]) σ)
          else none)
        else K (.agg [.int .i32 32, .bool false, .bool false, .bool false, .int .i64 0, .int .i64 s4.Back]) σ)
      else K (.agg [.int .i32 32, .bool false, .bool false, .bool false, .int .i64 0, .int .i64 s4.Back]) σ)
    else K (.agg [.int .i32 32, .bool false, .bool false, .bool false, .int .i64 0, .int .i64 s4.Back]) σ := by kernel_rfl
end Go.Abs.TA
