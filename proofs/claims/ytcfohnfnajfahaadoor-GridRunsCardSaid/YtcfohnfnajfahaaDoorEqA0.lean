/-
Lifted functions: what the machine does, one equation for each entry and each loop (printed by lift.py).
-/
import Derived.Test.YtcfohnfnajfahaaDoorSigA
namespace Go.Abs.TA
open Go Go.Abs Go.Proofs
/-! cell_change -/
set_option maxRecDepth 100000 in
theorem cell_change_eq {R : Type} (L : Nat) (s1 : api_Style) (n2 : Int) (σ : Heap) (K : AVal → Heap → Option R) :
    callC T known0 L 2 54 [.agg [.bool s1.Bold, .bool s1.Under, .bool s1.Turned, .int .i64 s1.Fore, .int .i64 s1.Back], .int .i64 n2] σ K =
    bif (n2 == 0) then (
      K (.agg [.bool false, .bool false, .bool false, .int .i64 0, .int .i64 0]) σ)
    else
    bif (n2 == 1) then (
      K (.agg [.bool (n2 == 1), .bool s1.Under, .bool s1.Turned, .int .i64 s1.Fore, .int .i64 s1.Back]) σ)
    else
    bif (n2 == 22) then (
      K (.agg [.bool (n2 == 1), .bool s1.Under, .bool s1.Turned, .int .i64 s1.Fore, .int .i64 s1.Back]) σ)
    else
    bif (n2 == 4) then (
      K (.agg [.bool s1.Bold, .bool (n2 == 4), .bool s1.Turned, .int .i64 s1.Fore, .int .i64 s1.Back]) σ)
    else
    bif (n2 == 24) then (
      K (.agg [.bool s1.Bold, .bool (n2 == 4), .bool s1.Turned, .int .i64 s1.Fore, .int .i64 s1.Back]) σ)
    else
    bif (n2 == 7) then (
      K (.agg [.bool s1.Bold, .bool s1.Under, .bool (n2 == 7), .int .i64 s1.Fore, .int .i64 s1.Back]) σ)
    else
    bif (n2 == 27) then (
      K (.agg [.bool s1.Bold, .bool s1.Under, .bool (n2 == 7), .int .i64 s1.Fore, .int .i64 s1.Back]) σ)
    else
    bif (decide (n2 ≥ 30)) then (
      bif (decide (n2 ≤ 37)) then (
        K (.agg [.bool s1.Bold, .bool s1.Under, .bool s1.Turned, .int .i64 (IntKind.i64.wrap (n2 - 29)), .int .i64 s1.Back]) σ)
      else
      bif (n2 == 39) then (
        K (.agg [.bool s1.Bold, .bool s1.Under, .bool s1.Turned, .int .i64 0, .int .i64 s1.Back]) σ)
      else
      bif (decide (n2 ≥ 40)) then (
        bif (decide (n2 ≤ 47)) then (
          K (.agg [.bool s1.Bold, .bool s1.Under, .bool s1.Turned, .int .i64 s1.Fore, .int .i64 (IntKind.i64.wrap (n2 - 39))]) σ)
        else
        bif (n2 == 49) then (
          K (.agg [.bool s1.Bold, .bool s1.Under, .bool s1.Turned, .int .i64 s1.Fore, .int .i64 0]) σ)
        else
        K (.agg [.bool s1.Bold, .bool s1.Under, .bool s1.Turned, .int .i64 s1.Fore, .int .i64 s1.Back]) σ)
      else
      bif (n2 == 49) then (
        K (.agg [.bool s1.Bold, .bool s1.Under, .bool s1.Turned, .int .i64 s1.Fore, .int .i64 0]) σ)
      else
      K (.agg [.bool s1.Bold, .bool s1.Under, .bool s1.Turned, .int .i64 s1.Fore, .int .i64 s1.Back]) σ)
    else
    bif (n2 == 39) then (
      K (.agg [.bool s1.Bold, .bool s1.Under, .bool s1.Turned, .int .i64 0, .int .i64 s1.Back]) σ)
    else
    bif (decide (n2 ≥ 40)) then (
      bif (decide (n2 ≤ 47)) then (
        K (.agg [.bool s1.Bold, .bool s1.Under, .bool s1.Turned, .int .i64 s1.Fore, .int .i64 (IntKind.i64.wrap (n2 - 39))]) σ)
      else
      bif (n2 == 49) then (
        K (.agg [.bool s1.Bold, .bool s1.Under, .bool s1.Turned, .int .i64 s1.Fore, .int .i64 0]) σ)
      else
      K (.agg [.bool s1.Bold, .bool s1.Under, .bool s1.Turned, .int .i64 s1.Fore, .int .i64 s1.Back]) σ)
    else
    bif (n2 == 49) then (
      K (.agg [.bool s1.Bold, .bool s1.Under, .bool s1.Turned, .int .i64 s1.Fore, .int .i64 0]) σ)
    else
    K (.agg [.bool s1.Bold, .bool s1.Under, .bool s1.Turned, .int .i64 s1.Fore, .int .i64 s1.Back]) σ := by kernel_rfl
/-! cell_Change -/
noncomputable def cell_Change_L4 {R : Type} (w : C_cell_Change) (L fu0 : Nat) (x_1 : Sl) (x_2 : Int) (x_3 : Int) (s_4 : api_Style) (σ : Heap) (K : AVal → Heap → Option R) : Option R :=
  loopAt T (O_cell_Change w) L 1 18 Tryd.f18 [1, 1, 0, 1, 0] [] fu0
    ([.undef, .undef, .lptr 2 0, .undef, .lptr 4 0] ++ List.replicate 6 .undef ++ [.slice x_1.b x_1.o x_1.n 1, .int .i64 x_2, .int .i64 x_3] ++ List.replicate 8 .undef)
    ([.none, .none, .cells [.bool s_4.Bold, .bool s_4.Under, .bool s_4.Turned, .int .i64 s_4.Fore, .int .i64 s_4.Back], .none, .cells [.bool false, .bool false, .bool false, .int .i64 0, .int .i64 0]] ++ List.replicate 17 .none) σ K
set_option maxRecDepth 100000 in
theorem cell_Change_L4_eq {R : Type} (w : C_cell_Change) (L fu0 : Nat) (x_1 : Sl) (x_2 : Int) (x_3 : Int) (s_4 : api_Style) (σ : Heap) (K : AVal → Heap → Option R) :
    cell_Change_L4 w L (fu0 + 1) x_1 x_2 x_3 s_4 σ K =
    bif (decide (x_3 < x_2)) then (
      bif ((decide (0 ≤ x_3)) && (decide (x_3 < (x_1.n : Int)))) then (
        (x_1.b).bind fun b5 =>
        (int? (Heap.cell? σ b5 (x_1.o + x_3.toNat * 1)) .i64).bind fun x6 =>
        (w.cell_change s_4 x6 σ).bind fun q7 =>
        cell_Change_L4 w L fu0 x_1 x_2 (IntKind.i64.wrap (x_3 + 1)) q7.1 q7.2 K)
      else none)
    else K (.agg [.bool s_4.Bold, .bool s_4.Under, .bool s_4.Turned, .int .i64 s_4.Fore, .int .i64 s_4.Back]) σ := by kernel_rfl
set_option maxRecDepth 100000 in
theorem cell_Change_eq {R : Type} (w : C_cell_Change) (L : Nat) (s1 : api_Style) (params2 : Sl) (σ : Heap) (K : AVal → Heap → Option R) :
    callC T (O_cell_Change w) L 2 18 [.agg [.bool s1.Bold, .bool s1.Under, .bool s1.Turned, .int .i64 s1.Fore, .int .i64 s1.Back], .slice params2.b params2.o params2.n 1] σ K =
    bif ((params2.n : Int) == 0) then (
      alloc σ [.int .i64 0] fun b3 σ4 =>
      cell_Change_L4 w L L ⟨(some b3), 0, 1⟩ 1 0 s1 σ4 K)
    else cell_Change_L4 w L L params2 (params2.n : Int) 0 s1 σ K := by kernel_rfl
/-! slices_Clone -/
set_option maxRecDepth 100000 in
theorem slices_Clone_eq {R : Type} (L : Nat) (s1 : Sl) (σ : Heap) (K : AVal → Heap → Option R) :
    callC T known0 L 2 55 [.slice s1.b s1.o s1.n 6] σ K =
    bif (Option.isNone s1.b) then (
      K (.slice none 0 0 6) σ)
    else
    alloc σ [] fun b2 σ3 =>
    (Heap.read σ3 s1.b s1.o s1.n 6).bind fun vs4 =>
    (Heap.append σ3 (some b2) 0 0 6 32 vs4 s1.n).bind fun q5 =>
    K (.slice q5.1.1 q5.1.2.1 q5.1.2.2 6) q5.2 := by kernel_rfl
/-! glyph_Wide -/
set_option maxRecDepth 100000 in
theorem glyph_Wide_eq {R : Type} (L : Nat) (r1 : Int) (σ : Heap) (K : AVal → Heap → Option R) :
    callC T known0 (L + 10) 2 57 [.int .i32 r1] σ K =
    bif (r1 == 12351) then (
      K (.bool false) σ)
    else
    (int? (Heap.cell? σ 0 0) .i32).bind fun x2 =>
    bif (decide (r1 < x2)) then (
      K (.bool false) σ)
    else
    (int? (Heap.cell? σ 0 1) .i32).bind fun x3 =>
    bif (decide (r1 ≤ x3)) then (
      K (.bool true) σ)
    else
    (int? (Heap.cell? σ 0 2) .i32).bind fun x4 =>
    bif (decide (r1 < x4)) then (
      K (.bool false) σ)
    else
    (int? (Heap.cell? σ 0 3) .i32).bind fun x5 =>
    bif (decide (r1 ≤ x5)) then (
      K (.bool true) σ)
    else
    (int? (Heap.cell? σ 0 4) .i32).bind fun x6 =>
    bif (decide (r1 < x6)) then (
      K (.bool false) σ)
    else
    (int? (Heap.cell? σ 0 5) .i32).bind fun x7 =>
    bif (decide (r1 ≤ x7)) then (
      K (.bool true) σ)
    else
    (int? (Heap.cell? σ 0 6) .i32).bind fun x8 =>
    bif (decide (r1 < x8)) then (
      K (.bool false) σ)
    else
    (int? (Heap.cell? σ 0 7) .i32).bind fun x9 =>
    bif (decide (r1 ≤ x9)) then (
      K (.bool true) σ)
    else
    (int? (Heap.cell? σ 0 8) .i32).bind fun x10 =>
    bif (decide (r1 < x10)) then (
      K (.bool false) σ)
    else
    (int? (Heap.cell? σ 0 9) .i32).bind fun x11 =>
    bif (decide (r1 ≤ x11)) then (
      K (.bool true) σ)
    else
    (int? (Heap.cell? σ 0 10) .i32).bind fun x12 =>
    bif (decide (r1 < x12)) then (
      K (.bool false) σ)
    else
    (int? (Heap.cell? σ 0 11) .i32).bind fun x13 =>
    bif (decide (r1 ≤ x13)) then (
      K (.bool true) σ)
    else
    (int? (Heap.cell? σ 0 12) .i32).bind fun x14 =>
    bif (decide (r1 < x14)) then (
      K (.bool false) σ)
    else
    (int? (Heap.cell? σ 0 13) .i32).bind fun x15 =>
    bif (decide (r1 ≤ x15)) then (
      K (.bool true) σ)
    else
    (int? (Heap.cell? σ 0 14) .i32).bind fun x16 =>
    bif (decide (r1 < x16)) then (
      K (.bool false) σ)
    else
    (int? (Heap.cell? σ 0 15) .i32).bind fun x17 =>
    bif (decide (r1 ≤ x17)) then (
      K (.bool true) σ)
    else
    (int? (Heap.cell? σ 0 16) .i32).bind fun x18 =>
    bif (decide (r1 < x18)) then (
      K (.bool false) σ)
    else
    (int? (Heap.cell? σ 0 17) .i32).bind fun x19 =>
    bif (decide (r1 ≤ x19)) then (
      K (.bool true) σ)
    else
    K (.bool false) σ := by kernel_rfl
/-! cell_paired -/
set_option maxRecDepth 100000 in
theorem cell_paired_eq {R : Type} (w : C_cell_paired) (L : Nat) (l1 : Sl) (i2 : Int) (σ : Heap) (K : AVal → Heap → Option R) :
    callC T (O_cell_paired w) L 2 56 [.slice l1.b l1.o l1.n 6, .int .i64 i2] σ K =
    bif (decide (i2 ≥ 0)) then (
      bif (decide ((IntKind.i64.wrap (i2 + 1)) < (l1.n : Int))) then (
        bif ((decide (0 ≤ i2)) && (decide (i2 < (l1.n : Int)))) then (
          (l1.b).bind fun b3 =>
          (int? (Heap.cell? σ b3 (l1.o + i2.toNat * 6)) .i32).bind fun x4 =>
          (w.glyph_Wide x4 σ).bind fun q5 =>
          bif q5.1 then (
            bif ((decide (0 ≤ (IntKind.i64.wrap (i2 + 1)))) && (decide ((IntKind.i64.wrap (i2 + 1)) < (l1.n : Int)))) then (
              (l1.b).bind fun b6 =>
              (int? (Heap.cell? q5.2 b6 (l1.o + ((IntKind.i64.wrap (i2 + 1)).toNat) * 6)) .i32).bind fun x7 =>
              (bool? (Heap.cell? q5.2 b6 ((l1.o + ((IntKind.i64.wrap (i2 + 1)).toNat) * 6) + 1))).bind fun x8 =>
              (bool? (Heap.cell? q5.2 b6 ((l1.o + ((IntKind.i64.wrap (i2 + 1)).toNat) * 6) + 2))).bind fun x9 =>
              (bool? (Heap.cell? q5.2 b6 ((l1.o + ((IntKind.i64.wrap (i2 + 1)).toNat) * 6) + 3))).bind fun x10 =>
              (int? (Heap.cell? q5.2 b6 ((l1.o + ((IntKind.i64.wrap (i2 + 1)).toNat) * 6) + 4)) .i64).bind fun x11 =>
              (int? (Heap.cell? q5.2 b6 ((l1.o + ((IntKind.i64.wrap (i2 + 1)).toNat) * 6) + 5)) .i64).bind fun x12 =>
              bif ((decide (0 ≤ i2)) && (decide (i2 < (l1.n : Int)))) then (
                (l1.b).bind fun b13 =>
                (bool? (Heap.cell? q5.2 b13 ((l1.o + i2.toNat * 6) + 1))).bind fun x14 =>
                (bool? (Heap.cell? q5.2 b13 ((l1.o + i2.toNat * 6) + 2))).bind fun x15 =>
                (bool? (Heap.cell? q5.2 b13 ((l1.o + i2.toNat * 6) + 3))).bind fun x16 =>
                (int? (Heap.cell? q5.2 b13 ((l1.o + i2.toNat * 6) + 4)) .i64).bind fun x17 =>
                (int? (Heap.cell? q5.2 b13 ((l1.o + i2.toNat * 6) + 5)) .i64).bind fun x18 =>
                K (.bool (((x7 : Int) == 0) && ((x8 == x14) && ((x9 == x15) && ((x10 == x16) && (((x11 : Int) == x17) && (((x12 : Int) == x18) && true))))))) q5.2)
              else none)
            else none)
          else K (.bool false) q5.2)
        else none)
      else K (.bool false) σ)
    else K (.bool false) σ := by kernel_rfl
/-! cell_Mend -/
noncomputable def cell_Mend_L3 {R : Type} (w : C_cell_Mend) (L fu0 : Nat) (l1 : Sl) (out_1 : Sl) (x_2 : Int) (σ : Heap) (K : AVal → Heap → Option R) : Option R :=
  loopAt T (O_cell_Mend w) L 1 24 Tryd.f24 [1, 1, 0, 1, 0] [] fu0
    ([.slice l1.b l1.o l1.n 6, .undef, .undef, .slice out_1.b out_1.o out_1.n 6] ++ List.replicate 4 .undef ++ [.slice l1.b l1.o l1.n 6, .int .i64 (l1.n : Int), .int .i64 x_2] ++ List.replicate 31 .undef)
    (List.replicate 42 .none) σ K
set_option maxRecDepth 100000 in
theorem cell_Mend_L3_eq {R : Type} (w : C_cell_Mend) (L fu0 : Nat) (l1 : Sl) (out_1 : Sl) (x_2 : Int) (σ : Heap) (K : AVal → Heap → Option R) :
    cell_Mend_L3 w L (fu0 + 1) l1 out_1 x_2 σ K =
    bif (decide (x_2 < (l1.n : Int))) then (
      bif ((decide (0 ≤ x_2)) && (decide (x_2 < (l1.n : Int)))) then (
        (l1.b).bind fun b3 =>
        (int? (Heap.cell? σ b3 (l1.o + x_2.toNat * 6)) .i32).bind fun x4 =>
        (bool? (Heap.cell? σ b3 ((l1.o + x_2.toNat * 6) + 1))).bind fun _ =>
        (bool? (Heap.cell? σ b3 ((l1.o + x_2.toNat * 6) + 2))).bind fun _ =>
        (bool? (Heap.cell? σ b3 ((l1.o + x_2.toNat * 6) + 3))).bind fun _ =>
        (int? (Heap.cell? σ b3 ((l1.o + x_2.toNat * 6) + 4)) .i64).bind fun _ =>
        (int? (Heap.cell? σ b3 ((l1.o + x_2.toNat * 6) + 5)) .i64).bind fun _ =>
        bif (x4 == 0) then (
          (w.cell_paired l1 (IntKind.i64.wrap (x_2 - 1)) σ).bind fun q10 =>
          bif (!q10.1) then (
            bif ((decide (0 ≤ x_2)) && (decide (x_2 < (out_1.n : Int)))) then (
              (out_1.b).bind fun b11 =>
              (Heap.store q10.2 b11 (out_1.o + x_2.toNat * 6) [.int .i32 32]).bind fun σ12 =>
              cell_Mend_L3 w L fu0 l1 out_1 (IntKind.i64.wrap (x_2 + 1)) σ12 K)
            else none)
          else
          (w.glyph_Wide x4 q10.2).bind fun q13 =>
          bif q13.1 then (
            (w.cell_paired l1 x_2 q13.2).bind fun q14 =>
            bif (!q14.1) then (
              bif ((decide (0 ≤ x_2)) && (decide (x_2 < (out_1.n : Int)))) then (
                (out_1.b).bind fun b15 =>
                (Heap.store q14.2 b15 (out_1.o + x_2.toNat * 6) [.int .i32 32]).bind fun σ16 =>
                cell_Mend_L3 w L fu0 l1 out_1 (IntKind.i64.wrap (x_2 + 1)) σ16 K)
              else none)
            else cell_Mend_L3 w L fu0 l1 out_1 (IntKind.i64.wrap (x_2 + 1)) q14.2 K)
          else cell_Mend_L3 w L fu0 l1 out_1 (IntKind.i64.wrap (x_2 + 1)) q13.2 K)
        else
        (w.glyph_Wide x4 σ).bind fun q17 =>
        bif q17.1 then (
          (w.cell_paired l1 x_2 q17.2).bind fun q18 =>
          bif (!q18.1) then (
            bif ((decide (0 ≤ x_2)) && (decide (x_2 < (out_1.n : Int)))) then (
              (out_1.b).bind fun b19 =>
              (Heap.store q18.2 b19 (out_1.o + x_2.toNat * 6) [.int .i32 32]).bind fun σ20 =>
              cell_Mend_L3 w L fu0 l1 out_1 (IntKind.i64.wrap (x_2 + 1)) σ20 K)
            else none)
          else cell_Mend_L3 w L fu0 l1 out_1 (IntKind.i64.wrap (x_2 + 1)) q18.2 K)
        else cell_Mend_L3 w L fu0 l1 out_1 (IntKind.i64.wrap (x_2 + 1)) q17.2 K)
      else none)
    else K (.slice out_1.b out_1.o out_1.n 6) σ := by kernel_rfl
set_option maxRecDepth 100000 in
theorem cell_Mend_eq {R : Type} (w : C_cell_Mend) (L : Nat) (l1 : Sl) (σ : Heap) (K : AVal → Heap → Option R) :
    callC T (O_cell_Mend w) L 2 24 [.slice l1.b l1.o l1.n 6] σ K =
    (w.slices_Clone l1 σ).bind fun q2 =>
    cell_Mend_L3 w L L l1 q2.1 0 q2.2 K := by kernel_rfl
/-! cell_Style -/
set_option maxRecDepth 100000 in
theorem cell_Style_eq {R : Type} (L : Nat) (s1 : api_Style) (σ : Heap) (K : AVal → Heap → Option R) :
    callC T known0 L 2 20 [.agg [.bool s1.Bold, .bool s1.Under, .bool s1.Turned, .int .i64 s1.Fore, .int .i64 s1.Back]] σ K =
    bif (decide (s1.Fore ≥ 0)) then (
      bif (decide (s1.Fore ≤ 8)) then (
        bif (decide (s1.Back ≥ 0)) then (
          K (.bool (decide (s1.Back ≤ 8))) σ)
        else
        K (.bool false) σ)
      else K (.bool false) σ)
    else K (.bool false) σ := by kernel_rfl
/-! glyph_Right -/
set_option maxRecDepth 100000 in
theorem glyph_Right_eq {R : Type} (L : Nat) (r1 : Int) (σ : Heap) (K : AVal → Heap → Option R) :
    callC T known0 L 2 59 [.int .i32 r1] σ K =
    bif (decide (r1 ≥ 32)) then (
      bif (decide (r1 ≤ 1114111)) then (
        bif (r1 != 127) then (
          bif (decide (r1 < 55296)) then (
            K (.bool true) σ)
          else
          K (.bool (decide (r1 > 57343))) σ)
        else K (.bool false) σ)
      else K (.bool false) σ)
    else K (.bool false) σ := by kernel_rfl
/-! cell_Right -/
set_option maxRecDepth 100000 in
theorem cell_Right_eq {R : Type} (w : C_cell_Right) (L : Nat) (c1 : api_Cell) (σ : Heap) (K : AVal → Heap → Option R) :
    callC T (O_cell_Right w) L 2 30 [.agg [.int .i32 c1.Rune, .bool c1.Style.Bold, .bool c1.Style.Under, .bool c1.Style.Turned, .int .i64 c1.Style.Fore, .int .i64 c1.Style.Back]] σ K =
    (w.glyph_Right c1.Rune σ).bind fun q2 =>
    bif q2.1 then (
      (w.cell_Style c1.Style q2.2).bind fun q3 =>
      K (.bool q3.1) q3.2)
    else K (.bool false) q2.2 := by kernel_rfl
/-! cell_Blank -/
set_option maxRecDepth 100000 in
theorem cell_Blank_eq {R : Type} (L : Nat) (s1 : api_Style) (σ : Heap) (K : AVal → Heap → Option R) :
    callC T known0 L 2 34 [.agg [.bool s1.Bold, .bool s1.Under, .bool s1.Turned, .int .i64 s1.Fore, .int .i64 s1.Back]] σ K =
    K (.agg [.int .i32 32, .bool false, .bool false, .bool false, .int .i64 0, .int .i64 s1.Back]) σ := by kernel_rfl
/-! law08_fit -/
set_option maxRecDepth 100000 in
theorem law08_fit_eq {R : Type} (w : C_law08_fit) (L : Nat) (σ : Heap) (K : AVal → Heap → Option R) :
    callC T (O_law08_fit w) L 2 17 [] σ K =
    alloc σ [.int .i64 1, .int .i64 31] fun b1 σ2 =>
    (w.cell_Change ⟨false, false, false, 0, 0⟩ ⟨(some b1), 0, 2⟩ σ2).bind fun q3 =>
    bif q3.1.Bold then (
      bif (q3.1.Fore == 2) then (
        (w.cell_Blank q3.1 q3.2).bind fun q4 =>
        (w.cell_Right q4.1 q4.2).bind fun q5 =>
        bif q5.1 then (
          alloc q5.2 [.int .i32 97, .bool false, .bool false, .bool false, .int .i64 0, .int .i64 0] fun b6 σ7 =>
          (w.cell_Mend ⟨(some b6), 0, 1⟩ σ7).bind fun q8 =>
          K (.bool ((q8.1.n : Int) == 1)) q8.2)
        else K (.bool false) q5.2)
      else K (.bool false) q3.2)
    else K (.bool false) q3.2 := by kernel_rfl
/-! ref08_Style -/
set_option maxRecDepth 100000 in
theorem ref08_Style_eq {R : Type} (L : Nat) (s1 : api_Style) (σ : Heap) (K : AVal → Heap → Option R) :
    callC T known0 L 2 19 [.agg [.bool s1.Bold, .bool s1.Under, .bool s1.Turned, .int .i64 s1.Fore, .int .i64 s1.Back]] σ K =
    bif (decide (s1.Fore ≥ 0)) then (
      bif (decide (s1.Fore ≤ 8)) then (
        bif (decide (s1.Back ≥ 0)) then (
          K (.bool (decide (s1.Back ≤ 8))) σ)
        else
        K (.bool false) σ)
      else K (.bool false) σ)
    else K (.bool false) σ := by kernel_rfl
end Go.Abs.TA
