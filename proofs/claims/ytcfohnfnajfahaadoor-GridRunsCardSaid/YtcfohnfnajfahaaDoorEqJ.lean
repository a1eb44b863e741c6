/-
A lifted function, in variants: one of its callees answers one number (printed by lift.py).
-/
import Derived.Test.YtcfohnfnajfahaaDoorSigA
import Derived.Test.YtcfohnfnajfahaaDoorMAd
namespace Go.Abs.TA
open Go Go.Abs Go.Proofs
set_option maxRecDepth 100000 in
theorem law09_lines_do_k0_eq {R : Type} (w : C_law09_lines_do) (t : law09_Deed → Option Unit) (L : Nat) (m1 : Sl) (d2 : law09_Deed) (σ : Heap) (K : AVal → Heap → Option R) :
    callC T ((O_law09_lines_do w).and 71 (f1 t_law09_Deed (.int .i64 (0)) t)) L 2 51 [.slice m1.b m1.o m1.n 1, .agg [.int .i64 d2.Kind, .int .i64 d2.A, .int .i64 d2.B, .int .i64 d2.C, .int .i32 d2.Cell.Rune, .bool d2.Cell.Style.Bold, .bool d2.Cell.Style.Under, .bool d2.Cell.Style.Turned, .int .i64 d2.Cell.Style.Fore, .int .i64 d2.Cell.Style.Back]] σ K =
    bif (decide (0 < (m1.n : Int))) then (
      (m1.b).bind fun b3 =>
      (slice? (Heap.cell? σ b3 m1.o) 6).bind fun x4 =>
      (w.law09_tame d2.Cell.Style (Heap.frz σ)).bind fun q5 =>
      (t d2).bind fun _ =>
      (t d2).bind fun _ =>
      (t d2).bind fun _ =>
      bif (decide (d2.A < 0)) then (
        K (.tuple [.slice m1.b m1.o m1.n 1, .slice none 0 0 1]) (Heap.back (Heap.back σ q5.2) (Heap.frz (Heap.back σ q5.2))))
      else
      bif (decide (d2.B < 0)) then (
        K (.tuple [.slice m1.b m1.o m1.n 1, .slice none 0 0 1]) (Heap.back (Heap.back σ q5.2) (Heap.frz (Heap.back σ q5.2))))
      else
      bif (decide (d2.A ≥ (x4.2.2 : Int))) then (
        K (.tuple [.slice m1.b m1.o m1.n 1, .slice none 0 0 1]) (Heap.back (Heap.back σ q5.2) (Heap.frz (Heap.back σ q5.2))))
      else
      bif (decide (d2.B ≥ (m1.n : Int))) then (
        K (.tuple [.slice m1.b m1.o m1.n 1, .slice none 0 0 1]) (Heap.back (Heap.back σ q5.2) (Heap.frz (Heap.back σ q5.2))))
      else
      (t d2).bind fun _ =>
      (w.cell_Right d2.Cell (Heap.back (Heap.back σ q5.2) (Heap.frz (Heap.back σ q5.2)))).bind fun q10 =>
      bif (!q10.1) then (
        K (.tuple [.slice m1.b m1.o m1.n 1, .slice none 0 0 1]) q10.2)
      else
      (Heap.read q10.2 m1.b m1.o m1.n 1).bind fun vs11 =>
      (Heap.append q10.2 none 0 0 1 24 vs11 m1.n).bind fun q12 =>
      (w.law09_lines_line m1 d2 d2.B q12.2).bind fun q13 =>
      bif ((decide (0 ≤ d2.B)) && (decide (d2.B < (q12.1.2.2 : Int)))) then (
        (q12.1.1).bind fun b14 =>
        (Heap.store q13.2 b14 (q12.1.2.1 + d2.B.toNat * 1) [.slice q13.1.b q13.1.o q13.1.n 6]).bind fun σ15 =>
        K (.tuple [.slice q12.1.1 q12.1.2.1 q12.1.2.2 1, .slice none 0 0 1]) σ15)
      else none)
    else none := by kernel_rfl
set_option maxRecDepth 100000 in
theorem law09_lines_do_k1_eq {R : Type} (w : C_law09_lines_do) (t : law09_Deed → Option Unit) (L : Nat) (m1 : Sl) (d2 : law09_Deed) (σ : Heap) (K : AVal → Heap → Option R) :
    callC T ((O_law09_lines_do w).and 71 (f1 t_law09_Deed (.int .i64 (1)) t)) L 2 51 [.slice m1.b m1.o m1.n 1, .agg [.int .i64 d2.Kind, .int .i64 d2.A, .int .i64 d2.B, .int .i64 d2.C, .int .i32 d2.Cell.Rune, .bool d2.Cell.Style.Bold, .bool d2.Cell.Style.Under, .bool d2.Cell.Style.Turned, .int .i64 d2.Cell.Style.Fore, .int .i64 d2.Cell.Style.Back]] σ K =
    bif (decide (0 < (m1.n : Int))) then (
      (m1.b).bind fun b3 =>
      (slice? (Heap.cell? σ b3 m1.o) 6).bind fun x4 =>
      (w.law09_tame d2.Cell.Style (Heap.frz σ)).bind fun q5 =>
      (t d2).bind fun _ =>
      (t d2).bind fun _ =>
      (t d2).bind fun _ =>
      bif (decide (d2.A < 0)) then (
        K (.tuple [.slice m1.b m1.o m1.n 1, .slice none 0 0 1]) (Heap.back (Heap.back σ q5.2) (Heap.frz (Heap.back σ q5.2))))
      else
      bif (decide (0 ≥ (x4.2.2 : Int))) then (
        K (.tuple [.slice m1.b m1.o m1.n 1, .slice none 0 0 1]) (Heap.back (Heap.back σ q5.2) (Heap.frz (Heap.back σ q5.2))))
      else
      bif (decide (d2.A ≥ (m1.n : Int))) then (
        K (.tuple [.slice m1.b m1.o m1.n 1, .slice none 0 0 1]) (Heap.back (Heap.back σ q5.2) (Heap.frz (Heap.back σ q5.2))))
      else
      (t d2).bind fun _ =>
      (Heap.read (Heap.back (Heap.back σ q5.2) (Heap.frz (Heap.back σ q5.2))) m1.b m1.o m1.n 1).bind fun vs10 =>
      (Heap.append (Heap.back (Heap.back σ q5.2) (Heap.frz (Heap.back σ q5.2))) none 0 0 1 24 vs10 m1.n).bind fun q11 =>
      (w.law09_lines_line m1 d2 d2.A q11.2).bind fun q12 =>
      bif ((decide (0 ≤ d2.A)) && (decide (d2.A < (q11.1.2.2 : Int)))) then (
        (q11.1.1).bind fun b13 =>
        (Heap.store q12.2 b13 (q11.1.2.1 + d2.A.toNat * 1) [.slice q12.1.b q12.1.o q12.1.n 6]).bind fun σ14 =>
        K (.tuple [.slice q11.1.1 q11.1.2.1 q11.1.2.2 1, .slice none 0 0 1]) σ14)
      else none)
    else none := by kernel_rfl
noncomputable def law09_lines_do_k2_L10 {R : Type} (w : C_law09_lines_do) (t : law09_Deed → Option Unit) (L fu0 : Nat) (m1 : Sl) (x4 : Option Nat × Nat × Nat) (out_8 : Sl) (next_9 : Sl) (top_1 : Int) (end_2 : Int) (n_3 : Int) (x_10 : Int) (s_4 : api_Style) (σ : Heap) (K : AVal → Heap → Option R) : Option R :=
  loopAt T ((O_law09_lines_do w).and 71 (f1 t_law09_Deed (.int .i64 (2)) t)) L 1 51 Tryd.f51 [1, 1, 1, 0, 1, 1, 0, 1, 0, 1, 1, 0, 1, 0] [] fu0
    ([.slice m1.b m1.o m1.n 1] ++ List.replicate 5 .undef ++ [.int .i64 (x4.2.2 : Int), .undef, .lptr 8 0, .slice out_8.b out_8.o out_8.n 1, .slice next_9.b next_9.o next_9.n 1, .int .i64 2, .int .i64 top_1, .int .i64 end_2, .int .i64 n_3] ++ List.replicate 41 .undef ++ [.int .i64 (m1.n : Int), .int .i64 x_10] ++ List.replicate 158 .undef)
    (List.replicate 8 .none ++ [.cells [.bool s_4.Bold, .bool s_4.Under, .bool s_4.Turned, .int .i64 s_4.Fore, .int .i64 s_4.Back]] ++ List.replicate 207 .none) σ K
noncomputable def law09_lines_do_k2_L21 {R : Type} (w : C_law09_lines_do) (t : law09_Deed → Option Unit) (L fu0 fu1 : Nat) (m1 : Sl) (x4 : Option Nat × Nat × Nat) (out_8 : Sl) (next_9 : Sl) (top_1 : Int) (end_2 : Int) (n_3 : Int) (x_10 : Int) (from_5 : Int) (l_6 : Sl) (x_7 : Int) (s_4 : api_Style) (σ : Heap) (K : AVal → Heap → Option R) : Option R :=
  loopAt T ((O_law09_lines_do w).and 71 (f1 t_law09_Deed (.int .i64 (2)) t)) L 1 51 Tryd.f51 [1, 1, 1, 0, 1, 1, 0, 1, 0, 1, 1, 0, 1, 0, 0, 1, 1, 0, 0, 1, 1, 1, 1, 0, 1, 0] [fu0] fu1
    ([.slice m1.b m1.o m1.n 1] ++ List.replicate 5 .undef ++ [.int .i64 (x4.2.2 : Int), .undef, .lptr 8 0, .slice out_8.b out_8.o out_8.n 1, .slice next_9.b next_9.o next_9.n 1, .int .i64 2, .int .i64 top_1, .int .i64 end_2, .int .i64 n_3, .int .i64 x_10, .int .i64 from_5, .slice l_6.b l_6.o l_6.n 6] ++ List.replicate 38 .undef ++ [.int .i64 (m1.n : Int), .int .i64 x_10] ++ List.replicate 27 .undef ++ [.int .i64 (x4.2.2 : Int), .int .i64 x_7] ++ List.replicate 129 .undef)
    (List.replicate 8 .none ++ [.cells [.bool s_4.Bold, .bool s_4.Under, .bool s_4.Turned, .int .i64 s_4.Fore, .int .i64 s_4.Back]] ++ List.replicate 207 .none) σ K
set_option maxRecDepth 100000 in
theorem law09_lines_do_k2_L10_eq {R : Type} (w : C_law09_lines_do) (t : law09_Deed → Option Unit) (L fu0 : Nat) (m1 : Sl) (x4 : Option Nat × Nat × Nat) (out_8 : Sl) (next_9 : Sl) (top_1 : Int) (end_2 : Int) (n_3 : Int) (x_10 : Int) (s_4 : api_Style) (σ : Heap) (K : AVal → Heap → Option R) :
    law09_lines_do_k2_L10 w t L (fu0 + 1) m1 x4 out_8 next_9 top_1 end_2 n_3 x_10 s_4 σ K =
    bif (decide (x_10 < (m1.n : Int))) then (
      bif (decide (x_10 ≥ top_1)) then (
        bif (decide (x_10 < end_2)) then (
          bif (decide ((IntKind.i64.wrap (x_10 + n_3)) < top_1)) then (
            law09_lines_do_k2_L21 w t L fu0 L m1 x4 out_8 next_9 top_1 end_2 n_3 x_10 (-1) ⟨none, 0, 0⟩ 0 s_4 σ K)
          else
          bif (decide ((IntKind.i64.wrap (x_10 + n_3)) ≥ end_2)) then (
            law09_lines_do_k2_L21 w t L fu0 L m1 x4 out_8 next_9 top_1 end_2 n_3 x_10 (-1) ⟨none, 0, 0⟩ 0 s_4 σ K)
          else
          law09_lines_do_k2_L21 w t L fu0 L m1 x4 out_8 next_9 top_1 end_2 n_3 x_10 (IntKind.i64.wrap (x_10 + n_3)) ⟨none, 0, 0⟩ 0 s_4 σ K)
        else law09_lines_do_k2_L21 w t L fu0 L m1 x4 out_8 next_9 top_1 end_2 n_3 x_10 x_10 ⟨none, 0, 0⟩ 0 s_4 σ K)
      else law09_lines_do_k2_L21 w t L fu0 L m1 x4 out_8 next_9 top_1 end_2 n_3 x_10 x_10 ⟨none, 0, 0⟩ 0 s_4 σ K)
    else K (.tuple [.slice next_9.b next_9.o next_9.n 1, .slice out_8.b out_8.o out_8.n 1]) σ := by kernel_rfl
set_option maxRecDepth 100000 in
theorem law09_lines_do_k2_L21_eq {R : Type} (w : C_law09_lines_do) (t : law09_Deed → Option Unit) (L fu0 fu1 : Nat) (m1 : Sl) (x4 : Option Nat × Nat × Nat) (out_8 : Sl) (next_9 : Sl) (top_1 : Int) (end_2 : Int) (n_3 : Int) (x_10 : Int) (from_5 : Int) (l_6 : Sl) (x_7 : Int) (s_4 : api_Style) (σ : Heap) (K : AVal → Heap → Option R) :
    law09_lines_do_k2_L21 w t L fu0 (fu1 + 1) m1 x4 out_8 next_9 top_1 end_2 n_3 x_10 from_5 l_6 x_7 s_4 σ K =
    bif (decide (x_7 < (x4.2.2 : Int))) then (
      (w.law09_lines_read m1 x_7 from_5 s_4 σ).bind fun q10 =>
      (Heap.append q10.2 l_6.b l_6.o l_6.n 6 32 [.int .i32 q10.1.Rune, .bool q10.1.Style.Bold, .bool q10.1.Style.Under, .bool q10.1.Style.Turned, .int .i64 q10.1.Style.Fore, .int .i64 q10.1.Style.Back] 1).bind fun q11 =>
      law09_lines_do_k2_L21 w t L fu0 fu1 m1 x4 out_8 next_9 top_1 end_2 n_3 x_10 from_5 ⟨q11.1.1, q11.1.2.1, q11.1.2.2⟩ (IntKind.i64.wrap (x_7 + 1)) s_4 q11.2 K)
    else
    (Heap.append σ next_9.b next_9.o next_9.n 1 24 [.slice l_6.b l_6.o l_6.n 6] 1).bind fun q12 =>
    bif (decide (x_10 ≥ top_1)) then (
      bif (decide (x_10 < (IntKind.i64.wrap (top_1 + n_3)))) then (
        bif ((decide (0 ≤ x_10)) && (decide (x_10 < (m1.n : Int)))) then (
          (m1.b).bind fun b13 =>
          (slice? (Heap.cell? q12.2 b13 (m1.o + x_10.toNat * 1)) 6).bind fun x14 =>
          (Heap.append q12.2 out_8.b out_8.o out_8.n 1 24 [.slice x14.1 x14.2.1 x14.2.2 6] 1).bind fun q15 =>
          law09_lines_do_k2_L10 w t L fu0 m1 x4 ⟨q15.1.1, q15.1.2.1, q15.1.2.2⟩ ⟨q12.1.1, q12.1.2.1, q12.1.2.2⟩ top_1 end_2 n_3 (IntKind.i64.wrap (x_10 + 1)) s_4 q15.2 K)
        else none)
      else law09_lines_do_k2_L10 w t L fu0 m1 x4 out_8 ⟨q12.1.1, q12.1.2.1, q12.1.2.2⟩ top_1 end_2 n_3 (IntKind.i64.wrap (x_10 + 1)) s_4 q12.2 K)
    else law09_lines_do_k2_L10 w t L fu0 m1 x4 out_8 ⟨q12.1.1, q12.1.2.1, q12.1.2.2⟩ top_1 end_2 n_3 (IntKind.i64.wrap (x_10 + 1)) s_4 q12.2 K := by kernel_rfl
set_option maxRecDepth 100000 in
theorem law09_lines_do_k2_eq {R : Type} (w : C_law09_lines_do) (t : law09_Deed → Option Unit) (L : Nat) (m1 : Sl) (d2 : law09_Deed) (σ : Heap) (K : AVal → Heap → Option R) :
    callC T ((O_law09_lines_do w).and 71 (f1 t_law09_Deed (.int .i64 (2)) t)) L 2 51 [.slice m1.b m1.o m1.n 1, .agg [.int .i64 d2.Kind, .int .i64 d2.A, .int .i64 d2.B, .int .i64 d2.C, .int .i32 d2.Cell.Rune, .bool d2.Cell.Style.Bold, .bool d2.Cell.Style.Under, .bool d2.Cell.Style.Turned, .int .i64 d2.Cell.Style.Fore, .int .i64 d2.Cell.Style.Back]] σ K =
    bif (decide (0 < (m1.n : Int))) then (
      (m1.b).bind fun b3 =>
      (slice? (Heap.cell? σ b3 m1.o) 6).bind fun x4 =>
      (w.law09_tame d2.Cell.Style (Heap.frz σ)).bind fun q5 =>
      (t d2).bind fun _ =>
      (w.law09_within d2.A 0 (m1.n : Int) (Heap.frz (Heap.back (Heap.back σ q5.2) (Heap.frz (Heap.back σ q5.2))))).bind fun q7 =>
      (w.law09_within d2.B 0 (m1.n : Int) (Heap.back (Heap.back (Heap.back σ q5.2) (Heap.frz (Heap.back σ q5.2))) q7.2)).bind fun q8 =>
      (w.law09_within d2.C 0 (if 0 > (IntKind.i64.wrap (q8.1 - q7.1)) then 0 else (IntKind.i64.wrap (q8.1 - q7.1))) q8.2).bind fun q9 =>
      law09_lines_do_k2_L10 w t L L m1 x4 ⟨none, 0, 0⟩ ⟨none, 0, 0⟩ q7.1 q8.1 q9.1 0 q5.1 q9.2 K)
    else none := by kernel_rfl
noncomputable def law09_lines_do_k3_L10 {R : Type} (w : C_law09_lines_do) (t : law09_Deed → Option Unit) (L fu0 : Nat) (m1 : Sl) (x4 : Option Nat × Nat × Nat) (next_8 : Sl) (top_1 : Int) (end_2 : Int) (n_3 : Int) (x_9 : Int) (s_4 : api_Style) (σ : Heap) (K : AVal → Heap → Option R) : Option R :=
  loopAt T ((O_law09_lines_do w).and 71 (f1 t_law09_Deed (.int .i64 (3)) t)) L 1 51 Tryd.f51 [1, 1, 1, 0, 1, 1, 0, 1, 0, 1, 1, 0, 1, 0] [] fu0
    ([.slice m1.b m1.o m1.n 1] ++ List.replicate 5 .undef ++ [.int .i64 (x4.2.2 : Int), .undef, .lptr 8 0, .slice none 0 0 1, .slice next_8.b next_8.o next_8.n 1, .int .i64 3, .int .i64 top_1, .int .i64 end_2, .int .i64 n_3] ++ List.replicate 41 .undef ++ [.int .i64 (m1.n : Int), .int .i64 x_9] ++ List.replicate 158 .undef)
    (List.replicate 8 .none ++ [.cells [.bool s_4.Bold, .bool s_4.Under, .bool s_4.Turned, .int .i64 s_4.Fore, .int .i64 s_4.Back]] ++ List.replicate 207 .none) σ K
noncomputable def law09_lines_do_k3_L21 {R : Type} (w : C_law09_lines_do) (t : law09_Deed → Option Unit) (L fu0 fu1 : Nat) (m1 : Sl) (x4 : Option Nat × Nat × Nat) (next_8 : Sl) (top_1 : Int) (end_2 : Int) (n_3 : Int) (x_9 : Int) (from_5 : Int) (l_6 : Sl) (x_7 : Int) (s_4 : api_Style) (σ : Heap) (K : AVal → Heap → Option R) : Option R :=
  loopAt T ((O_law09_lines_do w).and 71 (f1 t_law09_Deed (.int .i64 (3)) t)) L 1 51 Tryd.f51 [1, 1, 1, 0, 1, 1, 0, 1, 0, 1, 1, 0, 1, 0, 0, 1, 1, 0, 0, 1, 1, 1, 1, 0, 1, 0] [fu0] fu1
    ([.slice m1.b m1.o m1.n 1] ++ List.replicate 5 .undef ++ [.int .i64 (x4.2.2 : Int), .undef, .lptr 8 0, .slice none 0 0 1, .slice next_8.b next_8.o next_8.n 1, .int .i64 3, .int .i64 top_1, .int .i64 end_2, .int .i64 n_3, .int .i64 x_9, .int .i64 from_5, .slice l_6.b l_6.o l_6.n 6] ++ List.replicate 38 .undef ++ [.int .i64 (m1.n : Int), .int .i64 x_9] ++ List.replicate 27 .undef ++ [.int .i64 (x4.2.2 : Int), .int .i64 x_7] ++ List.replicate 129 .undef)
    (List.replicate 8 .none ++ [.cells [.bool s_4.Bold, .bool s_4.Under, .bool s_4.Turned, .int .i64 s_4.Fore, .int .i64 s_4.Back]] ++ List.replicate 207 .none) σ K
set_option maxRecDepth 100000 in
theorem law09_lines_do_k3_L10_eq {R : Type} (w : C_law09_lines_do) (t : law09_Deed → Option Unit) (L fu0 : Nat) (m1 : Sl) (x4 : Option Nat × Nat × Nat) (next_8 : Sl) (top_1 : Int) (end_2 : Int) (n_3 : Int) (x_9 : Int) (s_4 : api_Style) (σ : Heap) (K : AVal → Heap → Option R) :
    law09_lines_do_k3_L10 w t L (fu0 + 1) m1 x4 next_8 top_1 end_2 n_3 x_9 s_4 σ K =
    bif (decide (x_9 < (m1.n : Int))) then (
      bif (decide (x_9 ≥ top_1)) then (
        bif (decide (x_9 < end_2)) then (
          bif (decide ((IntKind.i64.wrap (x_9 - n_3)) < top_1)) then (
            law09_lines_do_k3_L21 w t L fu0 L m1 x4 next_8 top_1 end_2 n_3 x_9 (-1) ⟨none, 0, 0⟩ 0 s_4 σ K)
          else
          bif (decide ((IntKind.i64.wrap (x_9 - n_3)) ≥ end_2)) then (
            law09_lines_do_k3_L21 w t L fu0 L m1 x4 next_8 top_1 end_2 n_3 x_9 (-1) ⟨none, 0, 0⟩ 0 s_4 σ K)
          else
          law09_lines_do_k3_L21 w t L fu0 L m1 x4 next_8 top_1 end_2 n_3 x_9 (IntKind.i64.wrap (x_9 - n_3)) ⟨none, 0, 0⟩ 0 s_4 σ K)
        else law09_lines_do_k3_L21 w t L fu0 L m1 x4 next_8 top_1 end_2 n_3 x_9 x_9 ⟨none, 0, 0⟩ 0 s_4 σ K)
      else law09_lines_do_k3_L21 w t L fu0 L m1 x4 next_8 top_1 end_2 n_3 x_9 x_9 ⟨none, 0, 0⟩ 0 s_4 σ K)
    else K (.tuple [.slice next_8.b next_8.o next_8.n 1, .slice none 0 0 1]) σ := by kernel_rfl
set_option maxRecDepth 100000 in
theorem law09_lines_do_k3_L21_eq {R : Type} (w : C_law09_lines_do) (t : law09_Deed → Option Unit) (L fu0 fu1 : Nat) (m1 : Sl) (x4 : Option Nat × Nat × Nat) (next_8 : Sl) (top_1 : Int) (end_2 : Int) (n_3 : Int) (x_9 : Int) (from_5 : Int) (l_6 : Sl) (x_7 : Int) (s_4 : api_Style) (σ : Heap) (K : AVal → Heap → Option R) :
    law09_lines_do_k3_L21 w t L fu0 (fu1 + 1) m1 x4 next_8 top_1 end_2 n_3 x_9 from_5 l_6 x_7 s_4 σ K =
    bif (decide (x_7 < (x4.2.2 : Int))) then (
      (w.law09_lines_read m1 x_7 from_5 s_4 σ).bind fun q10 =>
      (Heap.append q10.2 l_6.b l_6.o l_6.n 6 32 [.int .i32 q10.1.Rune, .bool q10.1.Style.Bold, .bool q10.1.Style.Under, .bool q10.1.Style.Turned, .int .i64 q10.1.Style.Fore, .int .i64 q10.1.Style.Back] 1).bind fun q11 =>
      law09_lines_do_k3_L21 w t L fu0 fu1 m1 x4 next_8 top_1 end_2 n_3 x_9 from_5 ⟨q11.1.1, q11.1.2.1, q11.1.2.2⟩ (IntKind.i64.wrap (x_7 + 1)) s_4 q11.2 K)
    else
    (Heap.append σ next_8.b next_8.o next_8.n 1 24 [.slice l_6.b l_6.o l_6.n 6] 1).bind fun q12 =>
    law09_lines_do_k3_L10 w t L fu0 m1 x4 ⟨q12.1.1, q12.1.2.1, q12.1.2.2⟩ top_1 end_2 n_3 (IntKind.i64.wrap (x_9 + 1)) s_4 q12.2 K := by kernel_rfl
set_option maxRecDepth 100000 in
theorem law09_lines_do_k3_eq {R : Type} (w : C_law09_lines_do) (t : law09_Deed → Option Unit) (L : Nat) (m1 : Sl) (d2 : law09_Deed) (σ : Heap) (K : AVal → Heap → Option R) :
    callC T ((O_law09_lines_do w).and 71 (f1 t_law09_Deed (.int .i64 (3)) t)) L 2 51 [.slice m1.b m1.o m1.n 1, .agg [.int .i64 d2.Kind, .int .i64 d2.A, .int .i64 d2.B, .int .i64 d2.C, .int .i32 d2.Cell.Rune, .bool d2.Cell.Style.Bold, .bool d2.Cell.Style.Under, .bool d2.Cell.Style.Turned, .int .i64 d2.Cell.Style.Fore, .int .i64 d2.Cell.Style.Back]] σ K =
    bif (decide (0 < (m1.n : Int))) then (
      (m1.b).bind fun b3 =>
      (slice? (Heap.cell? σ b3 m1.o) 6).bind fun x4 =>
      (w.law09_tame d2.Cell.Style (Heap.frz σ)).bind fun q5 =>
      (t d2).bind fun _ =>
      (w.law09_within d2.A 0 (m1.n : Int) (Heap.frz (Heap.back (Heap.back σ q5.2) (Heap.frz (Heap.back σ q5.2))))).bind fun q7 =>
      (w.law09_within d2.B 0 (m1.n : Int) (Heap.back (Heap.back (Heap.back σ q5.2) (Heap.frz (Heap.back σ q5.2))) q7.2)).bind fun q8 =>
      (w.law09_within d2.C 0 (if 0 > (IntKind.i64.wrap (q8.1 - q7.1)) then 0 else (IntKind.i64.wrap (q8.1 - q7.1))) q8.2).bind fun q9 =>
      law09_lines_do_k3_L10 w t L L m1 x4 ⟨none, 0, 0⟩ q7.1 q8.1 q9.1 0 q5.1 q9.2 K)
    else none := by kernel_rfl
set_option maxRecDepth 100000 in
theorem law09_lines_do_k4_eq {R : Type} (w : C_law09_lines_do) (t : law09_Deed → Option Unit) (L : Nat) (m1 : Sl) (d2 : law09_Deed) (σ : Heap) (K : AVal → Heap → Option R) :
    callC T ((O_law09_lines_do w).and 71 (f1 t_law09_Deed (.int .i64 (4)) t)) L 2 51 [.slice m1.b m1.o m1.n 1, .agg [.int .i64 d2.Kind, .int .i64 d2.A, .int .i64 d2.B, .int .i64 d2.C, .int .i32 d2.Cell.Rune, .bool d2.Cell.Style.Bold, .bool d2.Cell.Style.Under, .bool d2.Cell.Style.Turned, .int .i64 d2.Cell.Style.Fore, .int .i64 d2.Cell.Style.Back]] σ K =
    bif (decide (0 < (m1.n : Int))) then (
      (m1.b).bind fun b3 =>
      (slice? (Heap.cell? σ b3 m1.o) 6).bind fun x4 =>
      (w.law09_tame d2.Cell.Style (Heap.frz σ)).bind fun q5 =>
      (t d2).bind fun _ =>
      (t d2).bind fun _ =>
      (t d2).bind fun _ =>
      bif (decide (d2.A < 0)) then (
        K (.tuple [.slice m1.b m1.o m1.n 1, .slice none 0 0 1]) (Heap.back (Heap.back σ q5.2) (Heap.frz (Heap.back σ q5.2))))
      else
      bif (decide (d2.B < 0)) then (
        K (.tuple [.slice m1.b m1.o m1.n 1, .slice none 0 0 1]) (Heap.back (Heap.back σ q5.2) (Heap.frz (Heap.back σ q5.2))))
      else
      bif (decide (d2.A ≥ (x4.2.2 : Int))) then (
        K (.tuple [.slice m1.b m1.o m1.n 1, .slice none 0 0 1]) (Heap.back (Heap.back σ q5.2) (Heap.frz (Heap.back σ q5.2))))
      else
      bif (decide (d2.B ≥ (m1.n : Int))) then (
        K (.tuple [.slice m1.b m1.o m1.n 1, .slice none 0 0 1]) (Heap.back (Heap.back σ q5.2) (Heap.frz (Heap.back σ q5.2))))
      else
      (t d2).bind fun _ =>
      (Heap.read (Heap.back (Heap.back σ q5.2) (Heap.frz (Heap.back σ q5.2))) m1.b m1.o m1.n 1).bind fun vs10 =>
      (Heap.append (Heap.back (Heap.back σ q5.2) (Heap.frz (Heap.back σ q5.2))) none 0 0 1 24 vs10 m1.n).bind fun q11 =>
      (w.law09_lines_line m1 d2 d2.B q11.2).bind fun q12 =>
      bif ((decide (0 ≤ d2.B)) && (decide (d2.B < (q11.1.2.2 : Int)))) then (
        (q11.1.1).bind fun b13 =>
        (Heap.store q12.2 b13 (q11.1.2.1 + d2.B.toNat * 1) [.slice q12.1.b q12.1.o q12.1.n 6]).bind fun σ14 =>
        K (.tuple [.slice q11.1.1 q11.1.2.1 q11.1.2.2 1, .slice none 0 0 1]) σ14)
      else none)
    else none := by kernel_rfl
set_option maxRecDepth 100000 in
theorem law09_lines_do_k5_eq {R : Type} (w : C_law09_lines_do) (t : law09_Deed → Option Unit) (L : Nat) (m1 : Sl) (d2 : law09_Deed) (σ : Heap) (K : AVal → Heap → Option R) :
    callC T ((O_law09_lines_do w).and 71 (f1 t_law09_Deed (.int .i64 (5)) t)) L 2 51 [.slice m1.b m1.o m1.n 1, .agg [.int .i64 d2.Kind, .int .i64 d2.A, .int .i64 d2.B, .int .i64 d2.C, .int .i32 d2.Cell.Rune, .bool d2.Cell.Style.Bold, .bool d2.Cell.Style.Under, .bool d2.Cell.Style.Turned, .int .i64 d2.Cell.Style.Fore, .int .i64 d2.Cell.Style.Back]] σ K =
    bif (decide (0 < (m1.n : Int))) then (
      (m1.b).bind fun b3 =>
      (slice? (Heap.cell? σ b3 m1.o) 6).bind fun x4 =>
      (w.law09_tame d2.Cell.Style (Heap.frz σ)).bind fun q5 =>
      (t d2).bind fun _ =>
      (t d2).bind fun _ =>
      (t d2).bind fun _ =>
      bif (decide (d2.A < 0)) then (
        K (.tuple [.slice m1.b m1.o m1.n 1, .slice none 0 0 1]) (Heap.back (Heap.back σ q5.2) (Heap.frz (Heap.back σ q5.2))))
      else
      bif (decide (d2.B < 0)) then (
        K (.tuple [.slice m1.b m1.o m1.n 1, .slice none 0 0 1]) (Heap.back (Heap.back σ q5.2) (Heap.frz (Heap.back σ q5.2))))
      else
      bif (decide (d2.A ≥ (x4.2.2 : Int))) then (
        K (.tuple [.slice m1.b m1.o m1.n 1, .slice none 0 0 1]) (Heap.back (Heap.back σ q5.2) (Heap.frz (Heap.back σ q5.2))))
      else
      bif (decide (d2.B ≥ (m1.n : Int))) then (
        K (.tuple [.slice m1.b m1.o m1.n 1, .slice none 0 0 1]) (Heap.back (Heap.back σ q5.2) (Heap.frz (Heap.back σ q5.2))))
      else
      (t d2).bind fun _ =>
      (Heap.read (Heap.back (Heap.back σ q5.2) (Heap.frz (Heap.back σ q5.2))) m1.b m1.o m1.n 1).bind fun vs10 =>
      (Heap.append (Heap.back (Heap.back σ q5.2) (Heap.frz (Heap.back σ q5.2))) none 0 0 1 24 vs10 m1.n).bind fun q11 =>
      (w.law09_lines_line m1 d2 d2.B q11.2).bind fun q12 =>
      bif ((decide (0 ≤ d2.B)) && (decide (d2.B < (q11.1.2.2 : Int)))) then (
        (q11.1.1).bind fun b13 =>
        (Heap.store q12.2 b13 (q11.1.2.1 + d2.B.toNat * 1) [.slice q12.1.b q12.1.o q12.1.n 6]).bind fun σ14 =>
        K (.tuple [.slice q11.1.1 q11.1.2.1 q11.1.2.2 1, .slice none 0 0 1]) σ14)
      else none)
    else none := by kernel_rfl
noncomputable def law09_lines_do_k6_L33 {R : Type} (w : C_law09_lines_do) (t : law09_Deed → Option Unit) (L fu0 : Nat) (m1 : Sl) (next_6 : Sl) (away_1 : Int) (x_2 : Int) (x_7 : Int) (d2 : law09_Deed) (σ : Heap) (K : AVal → Heap → Option R) : Option R :=
  loopAt T ((O_law09_lines_do w).and 71 (f1 t_law09_Deed (.int .i64 (6)) t)) L 1 51 Tryd.f51 [1, 1, 1, 0, 1, 1, 0, 1, 1, 1, 0, 1, 0, 1, 0] [] fu0
    ([.slice m1.b m1.o m1.n 1, .undef, .undef, .lptr 3 0] ++ List.replicate 6 .undef ++ [.slice next_6.b next_6.o next_6.n 1] ++ List.replicate 8 .undef ++ [.int .i64 away_1] ++ List.replicate 114 .undef ++ [.int .i64 x_2, .int .i64 x_7] ++ List.replicate 80 .undef)
    ([.none, .none, .none, .cells [.int .i64 d2.Kind, .int .i64 d2.A, .int .i64 d2.B, .int .i64 d2.C, .int .i32 d2.Cell.Rune, .bool d2.Cell.Style.Bold, .bool d2.Cell.Style.Under, .bool d2.Cell.Style.Turned, .int .i64 d2.Cell.Style.Fore, .int .i64 d2.Cell.Style.Back]] ++ List.replicate 212 .none) σ K
noncomputable def law09_lines_do_k6_L37 {R : Type} (w : C_law09_lines_do) (t : law09_Deed → Option Unit) (L fu0 fu1 : Nat) (m1 : Sl) (next_6 : Sl) (away_1 : Int) (x_7 : Int) (l_4 : Sl) (x_2 : Int) (x_3 : Int) (x_5 : Int) (d2 : law09_Deed) (σ : Heap) (K : AVal → Heap → Option R) : Option R :=
  loopAt T ((O_law09_lines_do w).and 71 (f1 t_law09_Deed (.int .i64 (6)) t)) L 1 51 Tryd.f51 [1, 1, 1, 0, 1, 1, 0, 1, 1, 1, 0, 1, 0, 1, 0, 0, 1, 1, 0, 0, 1, 1, 0, 1, 0] [fu0] fu1
    ([.slice m1.b m1.o m1.n 1, .undef, .undef, .lptr 3 0] ++ List.replicate 6 .undef ++ [.slice next_6.b next_6.o next_6.n 1] ++ List.replicate 8 .undef ++ [.int .i64 away_1, .int .i64 x_7, .slice l_4.b l_4.o l_4.n 6] ++ List.replicate 112 .undef ++ [.int .i64 x_2, .int .i64 x_7] ++ List.replicate 4 .undef ++ [.int .i64 x_3, .int .i64 x_5] ++ List.replicate 74 .undef)
    ([.none, .none, .none, .cells [.int .i64 d2.Kind, .int .i64 d2.A, .int .i64 d2.B, .int .i64 d2.C, .int .i32 d2.Cell.Rune, .bool d2.Cell.Style.Bold, .bool d2.Cell.Style.Under, .bool d2.Cell.Style.Turned, .int .i64 d2.Cell.Style.Fore, .int .i64 d2.Cell.Style.Back]] ++ List.replicate 212 .none) σ K
set_option maxRecDepth 100000 in
theorem law09_lines_do_k6_L33_eq {R : Type} (w : C_law09_lines_do) (t : law09_Deed → Option Unit) (L fu0 : Nat) (m1 : Sl) (next_6 : Sl) (away_1 : Int) (x_2 : Int) (x_7 : Int) (d2 : law09_Deed) (σ : Heap) (K : AVal → Heap → Option R) :
    law09_lines_do_k6_L33 w t L (fu0 + 1) m1 next_6 away_1 x_2 x_7 d2 σ K =
    bif (decide (x_7 < x_2)) then (
      (w.law09_within d2.A 1 60 σ).bind fun q9 =>
      law09_lines_do_k6_L37 w t L fu0 L m1 next_6 away_1 x_7 ⟨none, 0, 0⟩ x_2 q9.1 0 d2 q9.2 K)
    else
    bif ((decide (0 ≤ away_1)) && (decide (away_1 ≤ (m1.n : Int)))) then (
      K (.tuple [.slice next_6.b next_6.o next_6.n 1, .slice m1.b m1.o away_1.toNat 1]) σ)
    else
    none := by kernel_rfl
set_option maxRecDepth 100000 in
theorem law09_lines_do_k6_L37_eq {R : Type} (w : C_law09_lines_do) (t : law09_Deed → Option Unit) (L fu0 fu1 : Nat) (m1 : Sl) (next_6 : Sl) (away_1 : Int) (x_7 : Int) (l_4 : Sl) (x_2 : Int) (x_3 : Int) (x_5 : Int) (d2 : law09_Deed) (σ : Heap) (K : AVal → Heap → Option R) :
    law09_lines_do_k6_L37 w t L fu0 (fu1 + 1) m1 next_6 away_1 x_7 l_4 x_2 x_3 x_5 d2 σ K =
    bif (decide (x_5 < x_3)) then (
      (w.law09_lines_read m1 x_5 (IntKind.i64.wrap (x_7 + away_1)) ⟨false, false, false, 0, 0⟩ σ).bind fun q10 =>
      (Heap.append q10.2 l_4.b l_4.o l_4.n 6 32 [.int .i32 q10.1.Rune, .bool q10.1.Style.Bold, .bool q10.1.Style.Under, .bool q10.1.Style.Turned, .int .i64 q10.1.Style.Fore, .int .i64 q10.1.Style.Back] 1).bind fun q11 =>
      law09_lines_do_k6_L37 w t L fu0 fu1 m1 next_6 away_1 x_7 ⟨q11.1.1, q11.1.2.1, q11.1.2.2⟩ x_2 x_3 (IntKind.i64.wrap (x_5 + 1)) d2 q11.2 K)
    else
    (w.ref08_Mend l_4 σ).bind fun q12 =>
    (Heap.append q12.2 next_6.b next_6.o next_6.n 1 24 [.slice q12.1.b q12.1.o q12.1.n 6] 1).bind fun q13 =>
    law09_lines_do_k6_L33 w t L fu0 m1 ⟨q13.1.1, q13.1.2.1, q13.1.2.2⟩ away_1 x_2 (IntKind.i64.wrap (x_7 + 1)) d2 q13.2 K := by kernel_rfl
set_option maxRecDepth 100000 in
theorem law09_lines_do_k6_eq {R : Type} (w : C_law09_lines_do) (t : law09_Deed → Option Unit) (L : Nat) (m1 : Sl) (d2 : law09_Deed) (σ : Heap) (K : AVal → Heap → Option R) :
    callC T ((O_law09_lines_do w).and 71 (f1 t_law09_Deed (.int .i64 (6)) t)) L 2 51 [.slice m1.b m1.o m1.n 1, .agg [.int .i64 d2.Kind, .int .i64 d2.A, .int .i64 d2.B, .int .i64 d2.C, .int .i32 d2.Cell.Rune, .bool d2.Cell.Style.Bold, .bool d2.Cell.Style.Under, .bool d2.Cell.Style.Turned, .int .i64 d2.Cell.Style.Fore, .int .i64 d2.Cell.Style.Back]] σ K =
    bif (decide (0 < (m1.n : Int))) then (
      (m1.b).bind fun b3 =>
      (slice? (Heap.cell? σ b3 m1.o) 6).bind fun _ =>
      (w.law09_tame d2.Cell.Style (Heap.frz σ)).bind fun q5 =>
      (t d2).bind fun _ =>
      (w.law09_within d2.C 0 (m1.n : Int) (Heap.back (Heap.back σ q5.2) (Heap.frz (Heap.back σ q5.2)))).bind fun q7 =>
      (w.law09_within d2.B 1 60 q7.2).bind fun q8 =>
      law09_lines_do_k6_L33 w t L L m1 ⟨none, 0, 0⟩ q7.1 q8.1 0 d2 q8.2 K)
    else none := by kernel_rfl
end Go.Abs.TA
