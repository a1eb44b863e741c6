/-
A lifted function, in variants: one of its callees answers one number (printed by lift.py).
-/
import Derived.Test.YtcfohnfnajfahaaDoorSigA
import Derived.Test.YtcfohnfnajfahaaDoorMAd
namespace Go.Abs.TA
open Go Go.Abs Go.Proofs
noncomputable def law09_lines_line_k0_L5 {R : Type} (w : C_law09_lines_line) (t : law09_Deed → Option Unit) (L fu0 : Nat) (m1 : Sl) (y3 : Int) (n_1 : Int) (out_3 : Sl) (x5 : Option Nat × Nat × Nat) (x_4 : Int) (d2 : law09_Deed) (s_2 : api_Style) (σ : Heap) (K : AVal → Heap → Option R) : Option R :=
  loopAt T ((O_law09_lines_line w).and 71 (f1 t_law09_Deed (.int .i64 (0)) t)) L 1 76 Tryd.f76 [1, 1, 1, 1, 0, 1, 0] [] fu0
    ([.slice m1.b m1.o m1.n 1, .undef, .int .i64 y3, .undef, .lptr 4 0, .undef, .undef, .undef, .lptr 8 0, .int .i64 n_1, .slice out_3.b out_3.o out_3.n 6] ++ List.replicate 15 .undef ++ [.int .i64 (x5.2.2 : Int), .int .i64 x_4] ++ List.replicate 110 .undef)
    (List.replicate 4 .none ++ [.cells [.int .i64 d2.Kind, .int .i64 d2.A, .int .i64 d2.B, .int .i64 d2.C, .int .i32 d2.Cell.Rune, .bool d2.Cell.Style.Bold, .bool d2.Cell.Style.Under, .bool d2.Cell.Style.Turned, .int .i64 d2.Cell.Style.Fore, .int .i64 d2.Cell.Style.Back], .none, .none, .none, .cells [.bool s_2.Bold, .bool s_2.Under, .bool s_2.Turned, .int .i64 s_2.Fore, .int .i64 s_2.Back]] ++ List.replicate 129 .none) σ K
set_option maxRecDepth 100000 in
theorem law09_lines_line_k0_L5_eq {R : Type} (w : C_law09_lines_line) (t : law09_Deed → Option Unit) (L fu0 : Nat) (m1 : Sl) (y3 : Int) (n_1 : Int) (out_3 : Sl) (x5 : Option Nat × Nat × Nat) (x_4 : Int) (d2 : law09_Deed) (s_2 : api_Style) (σ : Heap) (K : AVal → Heap → Option R) :
    law09_lines_line_k0_L5 w t L (fu0 + 1) m1 y3 n_1 out_3 x5 x_4 d2 s_2 σ K =
    bif (decide (x_4 < (x5.2.2 : Int))) then (
      bif ((decide (0 ≤ y3)) && (decide (y3 < (m1.n : Int)))) then (
        (m1.b).bind fun b8 =>
        (slice? (Heap.cell? σ b8 (m1.o + y3.toNat * 1)) 6).bind fun x9 =>
        bif ((decide (0 ≤ x_4)) && (decide (x_4 < (x9.2.2 : Int)))) then (
          (x9.1).bind fun b10 =>
          (int? (Heap.cell? σ b10 (x9.2.1 + x_4.toNat * 6)) .i32).bind fun x11 =>
          (bool? (Heap.cell? σ b10 ((x9.2.1 + x_4.toNat * 6) + 1))).bind fun x12 =>
          (bool? (Heap.cell? σ b10 ((x9.2.1 + x_4.toNat * 6) + 2))).bind fun x13 =>
          (bool? (Heap.cell? σ b10 ((x9.2.1 + x_4.toNat * 6) + 3))).bind fun x14 =>
          (int? (Heap.cell? σ b10 ((x9.2.1 + x_4.toNat * 6) + 4)) .i64).bind fun x15 =>
          (int? (Heap.cell? σ b10 ((x9.2.1 + x_4.toNat * 6) + 5)) .i64).bind fun x16 =>
          (t d2).bind fun _ =>
          bif (x_4 == d2.A) then (
            (Heap.append σ out_3.b out_3.o out_3.n 6 32 [.int .i32 d2.Cell.Rune, .bool d2.Cell.Style.Bold, .bool d2.Cell.Style.Under, .bool d2.Cell.Style.Turned, .int .i64 d2.Cell.Style.Fore, .int .i64 d2.Cell.Style.Back] 1).bind fun q18 =>
            law09_lines_line_k0_L5 w t L fu0 m1 y3 n_1 ⟨q18.1.1, q18.1.2.1, q18.1.2.2⟩ x5 (IntKind.i64.wrap (x_4 + 1)) d2 s_2 q18.2 K)
          else
          bif ((IntKind.i64.wrap (x_4 - 1)) == d2.A) then (
            (w.ref07_Wide d2.Cell.Rune σ).bind fun q19 =>
            bif q19.1 then (
              (Heap.append q19.2 out_3.b out_3.o out_3.n 6 32 [.int .i32 0, .bool d2.Cell.Style.Bold, .bool d2.Cell.Style.Under, .bool d2.Cell.Style.Turned, .int .i64 d2.Cell.Style.Fore, .int .i64 d2.Cell.Style.Back] 1).bind fun q20 =>
              law09_lines_line_k0_L5 w t L fu0 m1 y3 n_1 ⟨q20.1.1, q20.1.2.1, q20.1.2.2⟩ x5 (IntKind.i64.wrap (x_4 + 1)) d2 s_2 q20.2 K)
            else
            (Heap.append q19.2 out_3.b out_3.o out_3.n 6 32 [.int .i32 x11, .bool x12, .bool x13, .bool x14, .int .i64 x15, .int .i64 x16] 1).bind fun q21 =>
            law09_lines_line_k0_L5 w t L fu0 m1 y3 n_1 ⟨q21.1.1, q21.1.2.1, q21.1.2.2⟩ x5 (IntKind.i64.wrap (x_4 + 1)) d2 s_2 q21.2 K)
          else
          (Heap.append σ out_3.b out_3.o out_3.n 6 32 [.int .i32 x11, .bool x12, .bool x13, .bool x14, .int .i64 x15, .int .i64 x16] 1).bind fun q22 =>
          law09_lines_line_k0_L5 w t L fu0 m1 y3 n_1 ⟨q22.1.1, q22.1.2.1, q22.1.2.2⟩ x5 (IntKind.i64.wrap (x_4 + 1)) d2 s_2 q22.2 K)
        else none)
      else none)
    else
    (w.ref08_Mend out_3 σ).bind fun q23 =>
    K (.slice q23.1.b q23.1.o q23.1.n 6) q23.2 := by kernel_rfl
set_option maxRecDepth 100000 in
theorem law09_lines_line_k0_eq {R : Type} (w : C_law09_lines_line) (t : law09_Deed → Option Unit) (L : Nat) (m1 : Sl) (d2 : law09_Deed) (y3 : Int) (σ : Heap) (K : AVal → Heap → Option R) :
    callC T ((O_law09_lines_line w).and 71 (f1 t_law09_Deed (.int .i64 (0)) t)) L 2 76 [.slice m1.b m1.o m1.n 1, .agg [.int .i64 d2.Kind, .int .i64 d2.A, .int .i64 d2.B, .int .i64 d2.C, .int .i32 d2.Cell.Rune, .bool d2.Cell.Style.Bold, .bool d2.Cell.Style.Under, .bool d2.Cell.Style.Turned, .int .i64 d2.Cell.Style.Fore, .int .i64 d2.Cell.Style.Back], .int .i64 y3] σ K =
    bif (decide (0 < (m1.n : Int))) then (
      (m1.b).bind fun b4 =>
      (slice? (Heap.cell? σ b4 m1.o) 6).bind fun x5 =>
      (w.law09_tame d2.Cell.Style (Heap.frz σ)).bind fun q6 =>
      (w.law09_within d2.C 0 (x5.2.2 : Int) (Heap.back (Heap.back σ q6.2) (Heap.frz (Heap.back σ q6.2)))).bind fun q7 =>
      law09_lines_line_k0_L5 w t L L m1 y3 q7.1 ⟨none, 0, 0⟩ x5 0 d2 q6.1 q7.2 K)
    else none := by kernel_rfl
noncomputable def law09_lines_line_k1_L5 {R : Type} (w : C_law09_lines_line) (t : law09_Deed → Option Unit) (L fu0 : Nat) (m1 : Sl) (y3 : Int) (n_1 : Int) (out_3 : Sl) (x5 : Option Nat × Nat × Nat) (x_4 : Int) (d2 : law09_Deed) (s_2 : api_Style) (σ : Heap) (K : AVal → Heap → Option R) : Option R :=
  loopAt T ((O_law09_lines_line w).and 71 (f1 t_law09_Deed (.int .i64 (1)) t)) L 1 76 Tryd.f76 [1, 1, 1, 1, 0, 1, 0] [] fu0
    ([.slice m1.b m1.o m1.n 1, .undef, .int .i64 y3, .undef, .lptr 4 0, .undef, .undef, .undef, .lptr 8 0, .int .i64 n_1, .slice out_3.b out_3.o out_3.n 6] ++ List.replicate 15 .undef ++ [.int .i64 (x5.2.2 : Int), .int .i64 x_4] ++ List.replicate 110 .undef)
    (List.replicate 4 .none ++ [.cells [.int .i64 d2.Kind, .int .i64 d2.A, .int .i64 d2.B, .int .i64 d2.C, .int .i32 d2.Cell.Rune, .bool d2.Cell.Style.Bold, .bool d2.Cell.Style.Under, .bool d2.Cell.Style.Turned, .int .i64 d2.Cell.Style.Fore, .int .i64 d2.Cell.Style.Back], .none, .none, .none, .cells [.bool s_2.Bold, .bool s_2.Under, .bool s_2.Turned, .int .i64 s_2.Fore, .int .i64 s_2.Back]] ++ List.replicate 129 .none) σ K
set_option maxRecDepth 100000 in
theorem law09_lines_line_k1_L5_eq {R : Type} (w : C_law09_lines_line) (t : law09_Deed → Option Unit) (L fu0 : Nat) (m1 : Sl) (y3 : Int) (n_1 : Int) (out_3 : Sl) (x5 : Option Nat × Nat × Nat) (x_4 : Int) (d2 : law09_Deed) (s_2 : api_Style) (σ : Heap) (K : AVal → Heap → Option R) :
    law09_lines_line_k1_L5 w t L (fu0 + 1) m1 y3 n_1 out_3 x5 x_4 d2 s_2 σ K =
    bif (decide (x_4 < (x5.2.2 : Int))) then (
      bif ((decide (0 ≤ y3)) && (decide (y3 < (m1.n : Int)))) then (
        (m1.b).bind fun b8 =>
        (slice? (Heap.cell? σ b8 (m1.o + y3.toNat * 1)) 6).bind fun x9 =>
        bif ((decide (0 ≤ x_4)) && (decide (x_4 < (x9.2.2 : Int)))) then (
          (x9.1).bind fun b10 =>
          (int? (Heap.cell? σ b10 (x9.2.1 + x_4.toNat * 6)) .i32).bind fun x11 =>
          (bool? (Heap.cell? σ b10 ((x9.2.1 + x_4.toNat * 6) + 1))).bind fun x12 =>
          (bool? (Heap.cell? σ b10 ((x9.2.1 + x_4.toNat * 6) + 2))).bind fun x13 =>
          (bool? (Heap.cell? σ b10 ((x9.2.1 + x_4.toNat * 6) + 3))).bind fun x14 =>
          (int? (Heap.cell? σ b10 ((x9.2.1 + x_4.toNat * 6) + 4)) .i64).bind fun x15 =>
          (int? (Heap.cell? σ b10 ((x9.2.1 + x_4.toNat * 6) + 5)) .i64).bind fun x16 =>
          (t d2).bind fun _ =>
          bif (decide (x_4 ≥ d2.B)) then (
            bif (decide (x_4 < d2.C)) then (
              (w.law09_lines_read m1 (-1) 0 s_2 σ).bind fun q18 =>
              (Heap.append q18.2 out_3.b out_3.o out_3.n 6 32 [.int .i32 q18.1.Rune, .bool q18.1.Style.Bold, .bool q18.1.Style.Under, .bool q18.1.Style.Turned, .int .i64 q18.1.Style.Fore, .int .i64 q18.1.Style.Back] 1).bind fun q19 =>
              law09_lines_line_k1_L5 w t L fu0 m1 y3 n_1 ⟨q19.1.1, q19.1.2.1, q19.1.2.2⟩ x5 (IntKind.i64.wrap (x_4 + 1)) d2 s_2 q19.2 K)
            else
            (Heap.append σ out_3.b out_3.o out_3.n 6 32 [.int .i32 x11, .bool x12, .bool x13, .bool x14, .int .i64 x15, .int .i64 x16] 1).bind fun q20 =>
            law09_lines_line_k1_L5 w t L fu0 m1 y3 n_1 ⟨q20.1.1, q20.1.2.1, q20.1.2.2⟩ x5 (IntKind.i64.wrap (x_4 + 1)) d2 s_2 q20.2 K)
          else
          (Heap.append σ out_3.b out_3.o out_3.n 6 32 [.int .i32 x11, .bool x12, .bool x13, .bool x14, .int .i64 x15, .int .i64 x16] 1).bind fun q21 =>
          law09_lines_line_k1_L5 w t L fu0 m1 y3 n_1 ⟨q21.1.1, q21.1.2.1, q21.1.2.2⟩ x5 (IntKind.i64.wrap (x_4 + 1)) d2 s_2 q21.2 K)
        else none)
      else none)
    else
    (w.ref08_Mend out_3 σ).bind fun q22 =>
    K (.slice q22.1.b q22.1.o q22.1.n 6) q22.2 := by kernel_rfl
set_option maxRecDepth 100000 in
theorem law09_lines_line_k1_eq {R : Type} (w : C_law09_lines_line) (t : law09_Deed → Option Unit) (L : Nat) (m1 : Sl) (d2 : law09_Deed) (y3 : Int) (σ : Heap) (K : AVal → Heap → Option R) :
    callC T ((O_law09_lines_line w).and 71 (f1 t_law09_Deed (.int .i64 (1)) t)) L 2 76 [.slice m1.b m1.o m1.n 1, .agg [.int .i64 d2.Kind, .int .i64 d2.A, .int .i64 d2.B, .int .i64 d2.C, .int .i32 d2.Cell.Rune, .bool d2.Cell.Style.Bold, .bool d2.Cell.Style.Under, .bool d2.Cell.Style.Turned, .int .i64 d2.Cell.Style.Fore, .int .i64 d2.Cell.Style.Back], .int .i64 y3] σ K =
    bif (decide (0 < (m1.n : Int))) then (
      (m1.b).bind fun b4 =>
      (slice? (Heap.cell? σ b4 m1.o) 6).bind fun x5 =>
      (w.law09_tame d2.Cell.Style (Heap.frz σ)).bind fun q6 =>
      (w.law09_within d2.C 0 (x5.2.2 : Int) (Heap.back (Heap.back σ q6.2) (Heap.frz (Heap.back σ q6.2)))).bind fun q7 =>
      law09_lines_line_k1_L5 w t L L m1 y3 q7.1 ⟨none, 0, 0⟩ x5 0 d2 q6.1 q7.2 K)
    else none := by kernel_rfl
noncomputable def law09_lines_line_k4_L5 {R : Type} (w : C_law09_lines_line) (t : law09_Deed → Option Unit) (L fu0 : Nat) (m1 : Sl) (y3 : Int) (n_1 : Int) (out_3 : Sl) (x5 : Option Nat × Nat × Nat) (x_4 : Int) (d2 : law09_Deed) (s_2 : api_Style) (σ : Heap) (K : AVal → Heap → Option R) : Option R :=
  loopAt T ((O_law09_lines_line w).and 71 (f1 t_law09_Deed (.int .i64 (4)) t)) L 1 76 Tryd.f76 [1, 1, 1, 1, 0, 1, 0] [] fu0
    ([.slice m1.b m1.o m1.n 1, .undef, .int .i64 y3, .undef, .lptr 4 0, .undef, .undef, .undef, .lptr 8 0, .int .i64 n_1, .slice out_3.b out_3.o out_3.n 6] ++ List.replicate 15 .undef ++ [.int .i64 (x5.2.2 : Int), .int .i64 x_4] ++ List.replicate 110 .undef)
    (List.replicate 4 .none ++ [.cells [.int .i64 d2.Kind, .int .i64 d2.A, .int .i64 d2.B, .int .i64 d2.C, .int .i32 d2.Cell.Rune, .bool d2.Cell.Style.Bold, .bool d2.Cell.Style.Under, .bool d2.Cell.Style.Turned, .int .i64 d2.Cell.Style.Fore, .int .i64 d2.Cell.Style.Back], .none, .none, .none, .cells [.bool s_2.Bold, .bool s_2.Under, .bool s_2.Turned, .int .i64 s_2.Fore, .int .i64 s_2.Back]] ++ List.replicate 129 .none) σ K
set_option maxRecDepth 100000 in
theorem law09_lines_line_k4_L5_eq {R : Type} (w : C_law09_lines_line) (t : law09_Deed → Option Unit) (L fu0 : Nat) (m1 : Sl) (y3 : Int) (n_1 : Int) (out_3 : Sl) (x5 : Option Nat × Nat × Nat) (x_4 : Int) (d2 : law09_Deed) (s_2 : api_Style) (σ : Heap) (K : AVal → Heap → Option R) :
    law09_lines_line_k4_L5 w t L (fu0 + 1) m1 y3 n_1 out_3 x5 x_4 d2 s_2 σ K =
    bif (decide (x_4 < (x5.2.2 : Int))) then (
      bif ((decide (0 ≤ y3)) && (decide (y3 < (m1.n : Int)))) then (
        (m1.b).bind fun b8 =>
        (slice? (Heap.cell? σ b8 (m1.o + y3.toNat * 1)) 6).bind fun x9 =>
        bif ((decide (0 ≤ x_4)) && (decide (x_4 < (x9.2.2 : Int)))) then (
          (x9.1).bind fun b10 =>
          (int? (Heap.cell? σ b10 (x9.2.1 + x_4.toNat * 6)) .i32).bind fun x11 =>
          (bool? (Heap.cell? σ b10 ((x9.2.1 + x_4.toNat * 6) + 1))).bind fun x12 =>
          (bool? (Heap.cell? σ b10 ((x9.2.1 + x_4.toNat * 6) + 2))).bind fun x13 =>
          (bool? (Heap.cell? σ b10 ((x9.2.1 + x_4.toNat * 6) + 3))).bind fun x14 =>
          (int? (Heap.cell? σ b10 ((x9.2.1 + x_4.toNat * 6) + 4)) .i64).bind fun x15 =>
          (int? (Heap.cell? σ b10 ((x9.2.1 + x_4.toNat * 6) + 5)) .i64).bind fun x16 =>
          (t d2).bind fun _ =>
          bif (decide (x_4 ≥ d2.A)) then (
            bif (decide ((IntKind.i64.wrap (x_4 - n_1)) ≥ d2.A)) then (
              bif ((decide (0 ≤ y3)) && (decide (y3 < (m1.n : Int)))) then (
                (m1.b).bind fun b18 =>
                (slice? (Heap.cell? σ b18 (m1.o + y3.toNat * 1)) 6).bind fun x19 =>
                bif ((decide (0 ≤ (IntKind.i64.wrap (x_4 - n_1)))) && (decide ((IntKind.i64.wrap (x_4 - n_1)) < (x19.2.2 : Int)))) then (
                  (x19.1).bind fun b20 =>
                  (int? (Heap.cell? σ b20 (x19.2.1 + ((IntKind.i64.wrap (x_4 - n_1)).toNat) * 6)) .i32).bind fun x21 =>
                  (bool? (Heap.cell? σ b20 ((x19.2.1 + ((IntKind.i64.wrap (x_4 - n_1)).toNat) * 6) + 1))).bind fun x22 =>
                  (bool? (Heap.cell? σ b20 ((x19.2.1 + ((IntKind.i64.wrap (x_4 - n_1)).toNat) * 6) + 2))).bind fun x23 =>
                  (bool? (Heap.cell? σ b20 ((x19.2.1 + ((IntKind.i64.wrap (x_4 - n_1)).toNat) * 6) + 3))).bind fun x24 =>
                  (int? (Heap.cell? σ b20 ((x19.2.1 + ((IntKind.i64.wrap (x_4 - n_1)).toNat) * 6) + 4)) .i64).bind fun x25 =>
                  (int? (Heap.cell? σ b20 ((x19.2.1 + ((IntKind.i64.wrap (x_4 - n_1)).toNat) * 6) + 5)) .i64).bind fun x26 =>
                  (Heap.append σ out_3.b out_3.o out_3.n 6 32 [.int .i32 x21, .bool x22, .bool x23, .bool x24, .int .i64 x25, .int .i64 x26] 1).bind fun q27 =>
                  law09_lines_line_k4_L5 w t L fu0 m1 y3 n_1 ⟨q27.1.1, q27.1.2.1, q27.1.2.2⟩ x5 (IntKind.i64.wrap (x_4 + 1)) d2 s_2 q27.2 K)
                else none)
              else none)
            else
            (w.law09_lines_read m1 (-1) 0 s_2 σ).bind fun q28 =>
            (Heap.append q28.2 out_3.b out_3.o out_3.n 6 32 [.int .i32 q28.1.Rune, .bool q28.1.Style.Bold, .bool q28.1.Style.Under, .bool q28.1.Style.Turned, .int .i64 q28.1.Style.Fore, .int .i64 q28.1.Style.Back] 1).bind fun q29 =>
            law09_lines_line_k4_L5 w t L fu0 m1 y3 n_1 ⟨q29.1.1, q29.1.2.1, q29.1.2.2⟩ x5 (IntKind.i64.wrap (x_4 + 1)) d2 s_2 q29.2 K)
          else
          (Heap.append σ out_3.b out_3.o out_3.n 6 32 [.int .i32 x11, .bool x12, .bool x13, .bool x14, .int .i64 x15, .int .i64 x16] 1).bind fun q30 =>
          law09_lines_line_k4_L5 w t L fu0 m1 y3 n_1 ⟨q30.1.1, q30.1.2.1, q30.1.2.2⟩ x5 (IntKind.i64.wrap (x_4 + 1)) d2 s_2 q30.2 K)
        else none)
      else none)
    else
    (w.ref08_Mend out_3 σ).bind fun q31 =>
    K (.slice q31.1.b q31.1.o q31.1.n 6) q31.2 := by kernel_rfl
set_option maxRecDepth 100000 in
theorem law09_lines_line_k4_eq {R : Type} (w : C_law09_lines_line) (t : law09_Deed → Option Unit) (L : Nat) (m1 : Sl) (d2 : law09_Deed) (y3 : Int) (σ : Heap) (K : AVal → Heap → Option R) :
    callC T ((O_law09_lines_line w).and 71 (f1 t_law09_Deed (.int .i64 (4)) t)) L 2 76 [.slice m1.b m1.o m1.n 1, .agg [.int .i64 d2.Kind, .int .i64 d2.A, .int .i64 d2.B, .int .i64 d2.C, .int .i32 d2.Cell.Rune, .bool d2.Cell.Style.Bold, .bool d2.Cell.Style.Under, .bool d2.Cell.Style.Turned, .int .i64 d2.Cell.Style.Fore, .int .i64 d2.Cell.Style.Back], .int .i64 y3] σ K =
    bif (decide (0 < (m1.n : Int))) then (
      (m1.b).bind fun b4 =>
      (slice? (Heap.cell? σ b4 m1.o) 6).bind fun x5 =>
      (w.law09_tame d2.Cell.Style (Heap.frz σ)).bind fun q6 =>
      (w.law09_within d2.C 0 (x5.2.2 : Int) (Heap.back (Heap.back σ q6.2) (Heap.frz (Heap.back σ q6.2)))).bind fun q7 =>
      law09_lines_line_k4_L5 w t L L m1 y3 q7.1 ⟨none, 0, 0⟩ x5 0 d2 q6.1 q7.2 K)
    else none := by kernel_rfl
noncomputable def law09_lines_line_k5_L5 {R : Type} (w : C_law09_lines_line) (t : law09_Deed → Option Unit) (L fu0 : Nat) (m1 : Sl) (y3 : Int) (n_1 : Int) (out_3 : Sl) (x5 : Option Nat × Nat × Nat) (x_4 : Int) (d2 : law09_Deed) (s_2 : api_Style) (σ : Heap) (K : AVal → Heap → Option R) : Option R :=
  loopAt T ((O_law09_lines_line w).and 71 (f1 t_law09_Deed (.int .i64 (5)) t)) L 1 76 Tryd.f76 [1, 1, 1, 1, 0, 1, 0] [] fu0
    ([.slice m1.b m1.o m1.n 1, .undef, .int .i64 y3, .undef, .lptr 4 0, .undef, .undef, .undef, .lptr 8 0, .int .i64 n_1, .slice out_3.b out_3.o out_3.n 6] ++ List.replicate 15 .undef ++ [.int .i64 (x5.2.2 : Int), .int .i64 x_4] ++ List.replicate 110 .undef)
    (List.replicate 4 .none ++ [.cells [.int .i64 d2.Kind, .int .i64 d2.A, .int .i64 d2.B, .int .i64 d2.C, .int .i32 d2.Cell.Rune, .bool d2.Cell.Style.Bold, .bool d2.Cell.Style.Under, .bool d2.Cell.Style.Turned, .int .i64 d2.Cell.Style.Fore, .int .i64 d2.Cell.Style.Back], .none, .none, .none, .cells [.bool s_2.Bold, .bool s_2.Under, .bool s_2.Turned, .int .i64 s_2.Fore, .int .i64 s_2.Back]] ++ List.replicate 129 .none) σ K
set_option maxRecDepth 100000 in
theorem law09_lines_line_k5_L5_eq {R : Type} (w : C_law09_lines_line) (t : law09_Deed → Option Unit) (L fu0 : Nat) (m1 : Sl) (y3 : Int) (n_1 : Int) (out_3 : Sl) (x5 : Option Nat × Nat × Nat) (x_4 : Int) (d2 : law09_Deed) (s_2 : api_Style) (σ : Heap) (K : AVal → Heap → Option R) :
    law09_lines_line_k5_L5 w t L (fu0 + 1) m1 y3 n_1 out_3 x5 x_4 d2 s_2 σ K =
    bif (decide (x_4 < (x5.2.2 : Int))) then (
      bif ((decide (0 ≤ y3)) && (decide (y3 < (m1.n : Int)))) then (
        (m1.b).bind fun b8 =>
        (slice? (Heap.cell? σ b8 (m1.o + y3.toNat * 1)) 6).bind fun x9 =>
        bif ((decide (0 ≤ x_4)) && (decide (x_4 < (x9.2.2 : Int)))) then (
          (x9.1).bind fun b10 =>
          (int? (Heap.cell? σ b10 (x9.2.1 + x_4.toNat * 6)) .i32).bind fun x11 =>
          (bool? (Heap.cell? σ b10 ((x9.2.1 + x_4.toNat * 6) + 1))).bind fun x12 =>
          (bool? (Heap.cell? σ b10 ((x9.2.1 + x_4.toNat * 6) + 2))).bind fun x13 =>
          (bool? (Heap.cell? σ b10 ((x9.2.1 + x_4.toNat * 6) + 3))).bind fun x14 =>
          (int? (Heap.cell? σ b10 ((x9.2.1 + x_4.toNat * 6) + 4)) .i64).bind fun x15 =>
          (int? (Heap.cell? σ b10 ((x9.2.1 + x_4.toNat * 6) + 5)) .i64).bind fun x16 =>
          (t d2).bind fun _ =>
          bif (decide (x_4 ≥ d2.A)) then (
            (w.law09_lines_read m1 (IntKind.i64.wrap (x_4 + n_1)) y3 s_2 σ).bind fun q18 =>
            (Heap.append q18.2 out_3.b out_3.o out_3.n 6 32 [.int .i32 q18.1.Rune, .bool q18.1.Style.Bold, .bool q18.1.Style.Under, .bool q18.1.Style.Turned, .int .i64 q18.1.Style.Fore, .int .i64 q18.1.Style.Back] 1).bind fun q19 =>
            law09_lines_line_k5_L5 w t L fu0 m1 y3 n_1 ⟨q19.1.1, q19.1.2.1, q19.1.2.2⟩ x5 (IntKind.i64.wrap (x_4 + 1)) d2 s_2 q19.2 K)
          else
          (Heap.append σ out_3.b out_3.o out_3.n 6 32 [.int .i32 x11, .bool x12, .bool x13, .bool x14, .int .i64 x15, .int .i64 x16] 1).bind fun q20 =>
          law09_lines_line_k5_L5 w t L fu0 m1 y3 n_1 ⟨q20.1.1, q20.1.2.1, q20.1.2.2⟩ x5 (IntKind.i64.wrap (x_4 + 1)) d2 s_2 q20.2 K)
        else none)
      else none)
    else
    (w.ref08_Mend out_3 σ).bind fun q21 =>
    K (.slice q21.1.b q21.1.o q21.1.n 6) q21.2 := by kernel_rfl
set_option maxRecDepth 100000 in
theorem law09_lines_line_k5_eq {R : Type} (w : C_law09_lines_line) (t : law09_Deed → Option Unit) (L : Nat) (m1 : Sl) (d2 : law09_Deed) (y3 : Int) (σ : Heap) (K : AVal → Heap → Option R) :
    callC T ((O_law09_lines_line w).and 71 (f1 t_law09_Deed (.int .i64 (5)) t)) L 2 76 [.slice m1.b m1.o m1.n 1, .agg [.int .i64 d2.Kind, .int .i64 d2.A, .int .i64 d2.B, .int .i64 d2.C, .int .i32 d2.Cell.Rune, .bool d2.Cell.Style.Bold, .bool d2.Cell.Style.Under, .bool d2.Cell.Style.Turned, .int .i64 d2.Cell.Style.Fore, .int .i64 d2.Cell.Style.Back], .int .i64 y3] σ K =
    bif (decide (0 < (m1.n : Int))) then (
      (m1.b).bind fun b4 =>
      (slice? (Heap.cell? σ b4 m1.o) 6).bind fun x5 =>
      (w.law09_tame d2.Cell.Style (Heap.frz σ)).bind fun q6 =>
      (w.law09_within d2.C 0 (x5.2.2 : Int) (Heap.back (Heap.back σ q6.2) (Heap.frz (Heap.back σ q6.2)))).bind fun q7 =>
      law09_lines_line_k5_L5 w t L L m1 y3 q7.1 ⟨none, 0, 0⟩ x5 0 d2 q6.1 q7.2 K)
    else none := by kernel_rfl
end Go.Abs.TA
