/-
Lifted functions: what the machine does, one equation for each entry and each loop (printed by lift.py).
-/
import Derived.Test.YtcfohnfnajfahaaDoorSigA
namespace Go.Abs.TA
open Go Go.Abs Go.Proofs
/-! cell_bits -/
set_option maxRecDepth 100000 in
theorem cell_bits_eq {R : Type} (L : Nat) (s1 : api_Style) (σ : Heap) (K : AVal → Heap → Option R) :
    callC T known0 (L + 4) 2 61 [.agg [.bool s1.Bold, .bool s1.Under, .bool s1.Turned, .int .i64 s1.Fore, .int .i64 s1.Back]] σ K =
    bif s1.Bold then (
      bif s1.Under then (
        bif s1.Turned then (
          K (.int .u64 (IntKind.u64.wrap (BitVec.ofInt IntKind.u64.bits (IntKind.u64.wrap (BitVec.ofInt IntKind.u64.bits (IntKind.u64.wrap (BitVec.ofInt IntKind.u64.bits (IntKind.u64.wrap (BitVec.ofInt IntKind.u64.bits (IntKind.u64.wrap s1.Fore) ||| BitVec.ofInt IntKind.u64.bits (IntKind.u64.wrap ((IntKind.u64.wrap s1.Back) * 2 ^ 4))).toNat) ||| BitVec.ofInt IntKind.u64.bits 256).toNat) ||| BitVec.ofInt IntKind.u64.bits 512).toNat) ||| BitVec.ofInt IntKind.u64.bits 1024).toNat)) σ)
        else
        K (.int .u64 (IntKind.u64.wrap (BitVec.ofInt IntKind.u64.bits (IntKind.u64.wrap (BitVec.ofInt IntKind.u64.bits (IntKind.u64.wrap (BitVec.ofInt IntKind.u64.bits (IntKind.u64.wrap s1.Fore) ||| BitVec.ofInt IntKind.u64.bits (IntKind.u64.wrap ((IntKind.u64.wrap s1.Back) * 2 ^ 4))).toNat) ||| BitVec.ofInt IntKind.u64.bits 256).toNat) ||| BitVec.ofInt IntKind.u64.bits 512).toNat)) σ)
      else
      bif s1.Turned then (
        K (.int .u64 (IntKind.u64.wrap (BitVec.ofInt IntKind.u64.bits (IntKind.u64.wrap (BitVec.ofInt IntKind.u64.bits (IntKind.u64.wrap (BitVec.ofInt IntKind.u64.bits (IntKind.u64.wrap s1.Fore) ||| BitVec.ofInt IntKind.u64.bits (IntKind.u64.wrap ((IntKind.u64.wrap s1.Back) * 2 ^ 4))).toNat) ||| BitVec.ofInt IntKind.u64.bits 256).toNat) ||| BitVec.ofInt IntKind.u64.bits 1024).toNat)) σ)
      else
      K (.int .u64 (IntKind.u64.wrap (BitVec.ofInt IntKind.u64.bits (IntKind.u64.wrap (BitVec.ofInt IntKind.u64.bits (IntKind.u64.wrap s1.Fore) ||| BitVec.ofInt IntKind.u64.bits (IntKind.u64.wrap ((IntKind.u64.wrap s1.Back) * 2 ^ 4))).toNat) ||| BitVec.ofInt IntKind.u64.bits 256).toNat)) σ)
    else
    bif s1.Under then (
      bif s1.Turned then (
        K (.int .u64 (IntKind.u64.wrap (BitVec.ofInt IntKind.u64.bits (IntKind.u64.wrap (BitVec.ofInt IntKind.u64.bits (IntKind.u64.wrap (BitVec.ofInt IntKind.u64.bits (IntKind.u64.wrap s1.Fore) ||| BitVec.ofInt IntKind.u64.bits (IntKind.u64.wrap ((IntKind.u64.wrap s1.Back) * 2 ^ 4))).toNat) ||| BitVec.ofInt IntKind.u64.bits 512).toNat) ||| BitVec.ofInt IntKind.u64.bits 1024).toNat)) σ)
      else
      K (.int .u64 (IntKind.u64.wrap (BitVec.ofInt IntKind.u64.bits (IntKind.u64.wrap (BitVec.ofInt IntKind.u64.bits (IntKind.u64.wrap s1.Fore) ||| BitVec.ofInt IntKind.u64.bits (IntKind.u64.wrap ((IntKind.u64.wrap s1.Back) * 2 ^ 4))).toNat) ||| BitVec.ofInt IntKind.u64.bits 512).toNat)) σ)
    else
    bif s1.Turned then (
      K (.int .u64 (IntKind.u64.wrap (BitVec.ofInt IntKind.u64.bits (IntKind.u64.wrap (BitVec.ofInt IntKind.u64.bits (IntKind.u64.wrap s1.Fore) ||| BitVec.ofInt IntKind.u64.bits (IntKind.u64.wrap ((IntKind.u64.wrap s1.Back) * 2 ^ 4))).toNat) ||| BitVec.ofInt IntKind.u64.bits 1024).toNat)) σ)
    else
    K (.int .u64 (IntKind.u64.wrap (BitVec.ofInt IntKind.u64.bits (IntKind.u64.wrap s1.Fore) ||| BitVec.ofInt IntKind.u64.bits (IntKind.u64.wrap ((IntKind.u64.wrap s1.Back) * 2 ^ 4))).toNat)) σ := by kernel_rfl
/-! cell_PutStyle -/
set_option maxRecDepth 100000 in
theorem cell_PutStyle_eq {R : Type} (w : C_cell_PutStyle) (L : Nat) (b1 : Sl) (s2 : api_Style) (σ : Heap) (K : AVal → Heap → Option R) :
    callC T (O_cell_PutStyle w) L 2 32 [.slice b1.b b1.o b1.n 1, .agg [.bool s2.Bold, .bool s2.Under, .bool s2.Turned, .int .i64 s2.Fore, .int .i64 s2.Back]] σ K =
    (w.cell_bits s2 σ).bind fun q3 =>
    alloc q3.2 [.int .u64 q3.1] fun b4 σ5 =>
    (w.vary_Put b1 ⟨(some b4), 0, 1⟩ σ5).bind fun q6 =>
    K (.slice q6.1.b q6.1.o q6.1.n 1) q6.2 := by kernel_rfl
/-! vary_Take -/
noncomputable def vary_Take_L3 {R : Type} (L fu0 : Nat) (n_1 : Int) (b1 : Sl) (x_2 : Int) (σ : Heap) (K : AVal → Heap → Option R) : Option R :=
  loopAt T known0 L 1 77 Tryd.f77 [1, 1, 0, 1, 0] [] fu0
    (List.replicate 4 .undef ++ [.int .u64 n_1, .undef, .undef, .slice b1.b b1.o b1.n 1, .int .i64 (b1.n : Int), .int .i64 x_2] ++ List.replicate 34 .undef)
    (List.replicate 44 .none) σ K
set_option maxRecDepth 100000 in
theorem vary_Take_L3_eq {R : Type} (L fu0 : Nat) (n_1 : Int) (b1 : Sl) (x_2 : Int) (σ : Heap) (K : AVal → Heap → Option R) :
    vary_Take_L3 L (fu0 + 1) n_1 b1 x_2 σ K =
    bif (decide (x_2 < (b1.n : Int))) then (
      bif ((decide (0 ≤ x_2)) && (decide (x_2 < (b1.n : Int)))) then (
        (b1.b).bind fun b2 =>
        (int? (Heap.cell? σ b2 (b1.o + x_2.toNat * 1)) .u8).bind fun x3 =>
        bif (x_2 == 9) then (
          bif (decide (x3 > 1)) then (
            K (.tuple [.int .u64 0, .int .i64 0]) σ)
          else
          bif (decide (x_2 > 9)) then (
            K (.tuple [.int .u64 0, .int .i64 0]) σ)
          else
          if (IntKind.i64.wrap (7 * x_2)) < 0 then (
            none)
          else (
            bif (decide (x3 < 128)) then (
              bif (x3 == 0) then (
                bif (decide (x_2 > 0)) then (
                  K (.tuple [.int .u64 0, .int .i64 0]) σ)
                else
                K (.tuple [.int .u64 (IntKind.u64.wrap (BitVec.ofInt IntKind.u64.bits n_1 ||| BitVec.ofInt IntKind.u64.bits (IntKind.u64.wrap ((IntKind.u64.wrap (IntKind.u8.wrap (BitVec.ofInt IntKind.u8.bits x3 &&& BitVec.ofInt IntKind.u8.bits 127).toNat)) * 2 ^ (min (IntKind.i64.wrap (7 * x_2)).toNat IntKind.u64.bits)))).toNat), .int .i64 (IntKind.i64.wrap (x_2 + 1))]) σ)
              else K (.tuple [.int .u64 (IntKind.u64.wrap (BitVec.ofInt IntKind.u64.bits n_1 ||| BitVec.ofInt IntKind.u64.bits (IntKind.u64.wrap ((IntKind.u64.wrap (IntKind.u8.wrap (BitVec.ofInt IntKind.u8.bits x3 &&& BitVec.ofInt IntKind.u8.bits 127).toNat)) * 2 ^ (min (IntKind.i64.wrap (7 * x_2)).toNat IntKind.u64.bits)))).toNat), .int .i64 (IntKind.i64.wrap (x_2 + 1))]) σ)
            else vary_Take_L3 L fu0 (IntKind.u64.wrap (BitVec.ofInt IntKind.u64.bits n_1 ||| BitVec.ofInt IntKind.u64.bits (IntKind.u64.wrap ((IntKind.u64.wrap (IntKind.u8.wrap (BitVec.ofInt IntKind.u8.bits x3 &&& BitVec.ofInt IntKind.u8.bits 127).toNat)) * 2 ^ (min (IntKind.i64.wrap (7 * x_2)).toNat IntKind.u64.bits)))).toNat) b1 (IntKind.i64.wrap (x_2 + 1)) σ K))
        else
        bif (decide (x_2 > 9)) then (
          K (.tuple [.int .u64 0, .int .i64 0]) σ)
        else
        if (IntKind.i64.wrap (7 * x_2)) < 0 then (
          none)
        else (
          bif (decide (x3 < 128)) then (
            bif (x3 == 0) then (
              bif (decide (x_2 > 0)) then (
                K (.tuple [.int .u64 0, .int .i64 0]) σ)
              else
              K (.tuple [.int .u64 (IntKind.u64.wrap (BitVec.ofInt IntKind.u64.bits n_1 ||| BitVec.ofInt IntKind.u64.bits (IntKind.u64.wrap ((IntKind.u64.wrap (IntKind.u8.wrap (BitVec.ofInt IntKind.u8.bits x3 &&& BitVec.ofInt IntKind.u8.bits 127).toNat)) * 2 ^ (min (IntKind.i64.wrap (7 * x_2)).toNat IntKind.u64.bits)))).toNat), .int .i64 (IntKind.i64.wrap (x_2 + 1))]) σ)
            else K (.tuple [.int .u64 (IntKind.u64.wrap (BitVec.ofInt IntKind.u64.bits n_1 ||| BitVec.ofInt IntKind.u64.bits (IntKind.u64.wrap ((IntKind.u64.wrap (IntKind.u8.wrap (BitVec.ofInt IntKind.u8.bits x3 &&& BitVec.ofInt IntKind.u8.bits 127).toNat)) * 2 ^ (min (IntKind.i64.wrap (7 * x_2)).toNat IntKind.u64.bits)))).toNat), .int .i64 (IntKind.i64.wrap (x_2 + 1))]) σ)
          else vary_Take_L3 L fu0 (IntKind.u64.wrap (BitVec.ofInt IntKind.u64.bits n_1 ||| BitVec.ofInt IntKind.u64.bits (IntKind.u64.wrap ((IntKind.u64.wrap (IntKind.u8.wrap (BitVec.ofInt IntKind.u8.bits x3 &&& BitVec.ofInt IntKind.u8.bits 127).toNat)) * 2 ^ (min (IntKind.i64.wrap (7 * x_2)).toNat IntKind.u64.bits)))).toNat) b1 (IntKind.i64.wrap (x_2 + 1)) σ K))
      else none)
    else K (.tuple [.int .u64 0, .int .i64 0]) σ := by kernel_rfl
set_option maxRecDepth 100000 in
theorem vary_Take_eq {R : Type} (L : Nat) (b1 : Sl) (σ : Heap) (K : AVal → Heap → Option R) :
    callC T known0 L 2 77 [.slice b1.b b1.o b1.n 1] σ K =
    vary_Take_L3 L L 0 b1 0 σ K := by kernel_rfl
/-! vary_Reader_Num -/
set_option maxRecDepth 100000 in
theorem vary_Reader_Num_eq {R : Type} (w : C_vary_Reader_Num) (L : Nat) (r1 : Pt) (limit2 : Int) (σ : Heap) (K : AVal → Heap → Option R) :
    callC T (O_vary_Reader_Num w) L 2 62 [.ptr r1, .int .i64 limit2] σ K =
    (r1).bind fun q3 =>
    (slice? (Heap.cell? σ q3.1 q3.2) 1).bind fun x4 =>
    (w.vary_Take ⟨x4.1, x4.2.1, x4.2.2⟩ σ).bind fun q5 =>
    (r1).bind fun q6 =>
    (bool? (Heap.cell? q5.2 q6.1 (q6.2 + 1))).bind fun x7 =>
    bif x7 then (
      (r1).bind fun q8 =>
      (Heap.store q5.2 q8.1 (q8.2 + 1) [.bool true]).bind fun σ9 =>
      K (.int .i64 0) σ9)
    else
    bif (q5.1.2 == 0) then (
      (r1).bind fun q10 =>
      (Heap.store q5.2 q10.1 (q10.2 + 1) [.bool true]).bind fun σ11 =>
      K (.int .i64 0) σ11)
    else
    bif (decide (q5.1.1 > 9223372036854775807)) then (
      (r1).bind fun q12 =>
      (Heap.store q5.2 q12.1 (q12.2 + 1) [.bool true]).bind fun σ13 =>
      K (.int .i64 0) σ13)
    else
    bif (decide (limit2 > 0)) then (
      bif (decide (q5.1.1 ≥ (IntKind.u64.wrap limit2))) then (
        (r1).bind fun q14 =>
        (Heap.store q5.2 q14.1 (q14.2 + 1) [.bool true]).bind fun σ15 =>
        K (.int .i64 0) σ15)
      else
      (r1).bind fun q16 =>
      (slice? (Heap.cell? q5.2 q16.1 q16.2) 1).bind fun x17 =>
      bif (((decide (0 ≤ q5.1.2)) && (decide (q5.1.2 ≤ (x17.2.2 : Int)))) && (decide ((x17.2.2 : Int) ≤ (x17.2.2 : Int)))) then (
        (r1).bind fun q18 =>
        (Heap.store q5.2 q18.1 q18.2 [.slice x17.1 (x17.2.1 + q5.1.2.toNat * 1) (x17.2.2 - q5.1.2.toNat) 1]).bind fun σ19 =>
        K (.int .i64 (IntKind.i64.wrap q5.1.1)) σ19)
      else none)
    else
    (r1).bind fun q20 =>
    (slice? (Heap.cell? q5.2 q20.1 q20.2) 1).bind fun x21 =>
    bif (((decide (0 ≤ q5.1.2)) && (decide (q5.1.2 ≤ (x21.2.2 : Int)))) && (decide ((x21.2.2 : Int) ≤ (x21.2.2 : Int)))) then (
      (r1).bind fun q22 =>
      (Heap.store q5.2 q22.1 q22.2 [.slice x21.1 (x21.2.1 + q5.1.2.toNat * 1) (x21.2.2 - q5.1.2.toNat) 1]).bind fun σ23 =>
      K (.int .i64 (IntKind.i64.wrap q5.1.1)) σ23)
    else none := by kernel_rfl
/-! vary_Reader_Good -/
set_option maxRecDepth 100000 in
theorem vary_Reader_Good_eq {R : Type} (L : Nat) (r1 : Pt) (σ : Heap) (K : AVal → Heap → Option R) :
    callC T known0 L 2 63 [.ptr r1] σ K =
    (r1).bind fun q2 =>
    (bool? (Heap.cell? σ q2.1 (q2.2 + 1))).bind fun x3 =>
    K (.bool (!x3)) σ := by kernel_rfl
/-! cell_TakeStyle -/
set_option maxRecDepth 100000 in
theorem cell_TakeStyle_eq {R : Type} (w : C_cell_TakeStyle) (L : Nat) (r1 : Pt) (σ : Heap) (K : AVal → Heap → Option R) :
    callC T (O_cell_TakeStyle w) L 2 33 [.ptr r1] σ K =
    (w.vary_Reader_Num r1 2048 σ).bind fun q2 =>
    (w.vary_Reader_Good r1 q2.2).bind fun q3 =>
    bif (!q3.1) then (
      K (.tuple [.agg [.bool false, .bool false, .bool false, .int .i64 0, .int .i64 0], .bool false]) q3.2)
    else
    (w.cell_Style ⟨(decide ((IntKind.i64.wrap (BitVec.ofInt IntKind.i64.bits q2.1 &&& BitVec.ofInt IntKind.i64.bits 256).toNat) > 0)), (decide ((IntKind.i64.wrap (BitVec.ofInt IntKind.i64.bits q2.1 &&& BitVec.ofInt IntKind.i64.bits 512).toNat) > 0)), (decide ((IntKind.i64.wrap (BitVec.ofInt IntKind.i64.bits q2.1 &&& BitVec.ofInt IntKind.i64.bits 1024).toNat) > 0)), (IntKind.i64.wrap (BitVec.ofInt IntKind.i64.bits q2.1 &&& BitVec.ofInt IntKind.i64.bits 15).toNat), (IntKind.i64.wrap (BitVec.ofInt IntKind.i64.bits (Int.fdiv q2.1 (2 ^ 4)) &&& BitVec.ofInt IntKind.i64.bits 15).toNat)⟩ q3.2).bind fun q4 =>
    bif (!q4.1) then (
      K (.tuple [.agg [.bool false, .bool false, .bool false, .int .i64 0, .int .i64 0], .bool false]) q4.2)
    else
    K (.tuple [.agg [.bool (decide ((IntKind.i64.wrap (BitVec.ofInt IntKind.i64.bits q2.1 &&& BitVec.ofInt IntKind.i64.bits 256).toNat) > 0)), .bool (decide ((IntKind.i64.wrap (BitVec.ofInt IntKind.i64.bits q2.1 &&& BitVec.ofInt IntKind.i64.bits 512).toNat) > 0)), .bool (decide ((IntKind.i64.wrap (BitVec.ofInt IntKind.i64.bits q2.1 &&& BitVec.ofInt IntKind.i64.bits 1024).toNat) > 0)), .int .i64 (IntKind.i64.wrap (BitVec.ofInt IntKind.i64.bits q2.1 &&& BitVec.ofInt IntKind.i64.bits 15).toNat), .int .i64 (IntKind.i64.wrap (BitVec.ofInt IntKind.i64.bits (Int.fdiv q2.1 (2 ^ 4)) &&& BitVec.ofInt IntKind.i64.bits 15).toNat)], .bool true]) q4.2 := by kernel_rfl
/-! grid_Grid_there -/
set_option maxRecDepth 100000 in
theorem grid_Grid_there_eq {R : Type} (L : Nat) (g1 : Pt) (x2 : Int) (y3 : Int) (σ : Heap) (K : AVal → Heap → Option R) :
    callC T known0 L 2 65 [.ptr g1, .int .i64 x2, .int .i64 y3] σ K =
    bif (decide (x2 ≥ 0)) then (
      bif (decide (y3 ≥ 0)) then (
        (g1).bind fun q4 =>
        (int? (Heap.cell? σ q4.1 q4.2) .i64).bind fun x5 =>
        bif (decide (x2 < x5)) then (
          (g1).bind fun q6 =>
          (int? (Heap.cell? σ q6.1 (q6.2 + 1)) .i64).bind fun x7 =>
          K (.bool (decide (y3 < x7))) σ)
        else K (.bool false) σ)
      else K (.bool false) σ)
    else K (.bool false) σ := by kernel_rfl
/-! grid_Grid_Text -/
noncomputable def grid_Grid_Text_L6 {R : Type} (w : C_grid_Grid_Text) (L fu0 : Nat) (out_2 : Sl) (n_3 : Int) (x7 : Option Nat × Nat × Nat) (x_1 : Int) (σ : Heap) (K : AVal → Heap → Option R) : Option R :=
  loopAt T (O_grid_Grid_Text w) L 1 37 Tryd.f37 [1, 1, 1, 1, 0, 1, 0] [] fu0
    (List.replicate 5 .undef ++ [.slice out_2.b out_2.o out_2.n 1, .int .i64 n_3] ++ List.replicate 12 .undef ++ [.slice x7.1 x7.2.1 x7.2.2 6, .int .i64 (x7.2.2 : Int), .int .i64 x_1] ++ List.replicate 21 .undef)
    (List.replicate 43 .none) σ K
set_option maxRecDepth 100000 in
theorem grid_Grid_Text_L6_eq {R : Type} (w : C_grid_Grid_Text) (L fu0 : Nat) (out_2 : Sl) (n_3 : Int) (x7 : Option Nat × Nat × Nat) (x_1 : Int) (σ : Heap) (K : AVal → Heap → Option R) :
    grid_Grid_Text_L6 w L (fu0 + 1) out_2 n_3 x7 x_1 σ K =
    bif (decide (x_1 < (x7.2.2 : Int))) then (
      bif ((decide (0 ≤ x_1)) && (decide (x_1 < (x7.2.2 : Int)))) then (
        (x7.1).bind fun b8 =>
        (int? (Heap.cell? σ b8 (x7.2.1 + x_1.toNat * 6)) .i32).bind fun x9 =>
        (bool? (Heap.cell? σ b8 ((x7.2.1 + x_1.toNat * 6) + 1))).bind fun _ =>
        (bool? (Heap.cell? σ b8 ((x7.2.1 + x_1.toNat * 6) + 2))).bind fun _ =>
        (bool? (Heap.cell? σ b8 ((x7.2.1 + x_1.toNat * 6) + 3))).bind fun _ =>
        (int? (Heap.cell? σ b8 ((x7.2.1 + x_1.toNat * 6) + 4)) .i64).bind fun _ =>
        (int? (Heap.cell? σ b8 ((x7.2.1 + x_1.toNat * 6) + 5)) .i64).bind fun _ =>
        bif (x9 == 0) then (
          grid_Grid_Text_L6 w L fu0 out_2 n_3 x7 (IntKind.i64.wrap (x_1 + 1)) σ K)
        else
        (Heap.append σ out_2.b out_2.o out_2.n 1 4 [.int .i32 x9] 1).bind fun q15 =>
        bif (x9 != 32) then (
          grid_Grid_Text_L6 w L fu0 ⟨q15.1.1, q15.1.2.1, q15.1.2.2⟩ (q15.1.2.2 : Int) x7 (IntKind.i64.wrap (x_1 + 1)) q15.2 K)
        else
        grid_Grid_Text_L6 w L fu0 ⟨q15.1.1, q15.1.2.1, q15.1.2.2⟩ n_3 x7 (IntKind.i64.wrap (x_1 + 1)) q15.2 K)
      else none)
    else
    bif ((decide (0 ≤ n_3)) && (decide (n_3 ≤ (out_2.n : Int)))) then (
      (Heap.read σ out_2.b out_2.o n_3.toNat 1).bind fun cs16 =>
      (runesIn cs16).bind fun rs17 =>
      K (.str (encodeAll rs17)) σ)
    else none := by kernel_rfl
set_option maxRecDepth 100000 in
theorem grid_Grid_Text_eq {R : Type} (w : C_grid_Grid_Text) (L : Nat) (g1 : Pt) (y2 : Int) (σ : Heap) (K : AVal → Heap → Option R) :
    callC T (O_grid_Grid_Text w) L 2 37 [.ptr g1, .int .i64 y2] σ K =
    (w.grid_Grid_there g1 0 y2 σ).bind fun q3 =>
    bif (!q3.1) then (
      K (.str (⟨#[]⟩ : ByteArray)) q3.2)
    else
    (g1).bind fun q4 =>
    (slice? (Heap.cell? q3.2 q4.1 (q4.2 + 2)) 1).bind fun x5 =>
    bif ((decide (0 ≤ y2)) && (decide (y2 < (x5.2.2 : Int)))) then (
      (x5.1).bind fun b6 =>
      (slice? (Heap.cell? q3.2 b6 (x5.2.1 + y2.toNat * 1)) 6).bind fun x7 =>
      grid_Grid_Text_L6 w L L ⟨none, 0, 0⟩ 0 x7 0 q3.2 K)
    else none := by kernel_rfl
/-! grid_Grid_some -/
set_option maxRecDepth 100000 in
theorem grid_Grid_some_eq {R : Type} (L : Nat) (g1 : Pt) (top2 : Int) (end3 : Int) (n4 : Int) (σ : Heap) (K : AVal → Heap → Option R) :
    callC T known0 L 2 66 [.ptr g1, .int .i64 top2, .int .i64 end3, .int .i64 n4] σ K =
    (g1).bind fun q5 =>
    (int? (Heap.cell? σ q5.1 (q5.2 + 1)) .i64).bind fun x6 =>
    (g1).bind fun q7 =>
    (int? (Heap.cell? σ q7.1 (q7.2 + 1)) .i64).bind fun x8 =>
    K (.tuple [.int .i64 (if x6 < (if 0 > top2 then 0 else top2) then x6 else (if 0 > top2 then 0 else top2)), .int .i64 (if x8 < (if 0 > end3 then 0 else end3) then x8 else (if 0 > end3 then 0 else end3)), .int .i64 (if (if 0 > (IntKind.i64.wrap ((if x8 < (if 0 > end3 then 0 else end3) then x8 else (if 0 > end3 then 0 else end3)) - (if x6 < (if 0 > top2 then 0 else top2) then x6 else (if 0 > top2 then 0 else top2)))) then 0 else (IntKind.i64.wrap ((if x8 < (if 0 > end3 then 0 else end3) then x8 else (if 0 > end3 then 0 else end3)) - (if x6 < (if 0 > top2 then 0 else top2) then x6 else (if 0 > top2 then 0 else top2))))) < (if 0 > n4 then 0 else n4) then (if 0 > (IntKind.i64.wrap ((if x8 < (if 0 > end3 then 0 else end3) then x8 else (if 0 > end3 then 0 else end3)) - (if x6 < (if 0 > top2 then 0 else top2) then x6 else (if 0 > top2 then 0 else top2)))) then 0 else (IntKind.i64.wrap ((if x8 < (if 0 > end3 then 0 else end3) then x8 else (if 0 > end3 then 0 else end3)) - (if x6 < (if 0 > top2 then 0 else top2) then x6 else (if 0 > top2 then 0 else top2))))) else (if 0 > n4 then 0 else n4))]) σ := by kernel_rfl
/-! math_bits_Mul64 -/
set_option maxRecDepth 100000 in
theorem math_bits_Mul64_eq {R : Type} (L : Nat) (x1 : Int) (y2 : Int) (σ : Heap) (K : AVal → Heap → Option R) :
    callC T known0 L 2 81 [.int .u64 x1, .int .u64 y2] σ K =
    K (.tuple [.int .u64 (IntKind.u64.wrap ((IntKind.u64.wrap ((IntKind.u64.wrap ((Int.fdiv x1 (2 ^ 32)) * (Int.fdiv y2 (2 ^ 32)))) + (Int.fdiv (IntKind.u64.wrap ((IntKind.u64.wrap ((Int.fdiv x1 (2 ^ 32)) * (IntKind.u64.wrap (BitVec.ofInt IntKind.u64.bits y2 &&& BitVec.ofInt IntKind.u64.bits 4294967295).toNat))) + (Int.fdiv (IntKind.u64.wrap ((IntKind.u64.wrap (BitVec.ofInt IntKind.u64.bits x1 &&& BitVec.ofInt IntKind.u64.bits 4294967295).toNat) * (IntKind.u64.wrap (BitVec.ofInt IntKind.u64.bits y2 &&& BitVec.ofInt IntKind.u64.bits 4294967295).toNat))) (2 ^ 32)))) (2 ^ 32)))) + (Int.fdiv (IntKind.u64.wrap ((IntKind.u64.wrap (BitVec.ofInt IntKind.u64.bits (IntKind.u64.wrap ((IntKind.u64.wrap ((Int.fdiv x1 (2 ^ 32)) * (IntKind.u64.wrap (BitVec.ofInt IntKind.u64.bits y2 &&& BitVec.ofInt IntKind.u64.bits 4294967295).toNat))) + (Int.fdiv (IntKind.u64.wrap ((IntKind.u64.wrap (BitVec.ofInt IntKind.u64.bits x1 &&& BitVec.ofInt IntKind.u64.bits 4294967295).toNat) * (IntKind.u64.wrap (BitVec.ofInt IntKind.u64.bits y2 &&& BitVec.ofInt IntKind.u64.bits 4294967295).toNat))) (2 ^ 32)))) &&& BitVec.ofInt IntKind.u64.bits 4294967295).toNat) + (IntKind.u64.wrap ((IntKind.u64.wrap (BitVec.ofInt IntKind.u64.bits x1 &&& BitVec.ofInt IntKind.u64.bits 4294967295).toNat) * (Int.fdiv y2 (2 ^ 32)))))) (2 ^ 32)))), .int .u64 (IntKind.u64.wrap (x1 * y2))]) σ := by kernel_rfl
/-! math_bits_Mul -/
set_option maxRecDepth 100000 in
theorem math_bits_Mul_eq {R : Type} (w : C_math_bits_Mul) (L : Nat) (x1 : Int) (y2 : Int) (σ : Heap) (K : AVal → Heap → Option R) :
    callC T (O_math_bits_Mul w) L 2 79 [.int .u64 x1, .int .u64 y2] σ K =
    (w.math_bits_Mul64 x1 y2 σ).bind fun q3 =>
    K (.tuple [.int .u64 q3.1.1, .int .u64 q3.1.2]) q3.2 := by kernel_rfl
/-! slices_Repeat -/
noncomputable def slices_Repeat_L8 {R : Type} (w : C_slices_Repeat) (L fu0 : Nat) (newslice_1 : Sl) (n_2 : Int) (σ : Heap) (K : AVal → Heap → Option R) : Option R :=
  loopAt T (O_slices_Repeat w) L 1 78 Tryd.f78 [1, 1, 1, 1, 1, 1, 0, 0] [] fu0
    (List.replicate 7 .undef ++ [.slice newslice_1.b newslice_1.o newslice_1.n 6, .int .i64 n_2] ++ List.replicate 39 .undef)
    (List.replicate 48 .none) σ K
set_option maxRecDepth 100000 in
theorem slices_Repeat_L8_eq {R : Type} (w : C_slices_Repeat) (L fu0 : Nat) (newslice_1 : Sl) (n_2 : Int) (σ : Heap) (K : AVal → Heap → Option R) :
    slices_Repeat_L8 w L (fu0 + 1) newslice_1 n_2 σ K =
    bif (decide (n_2 < (newslice_1.n : Int))) then (
      bif (((decide (0 ≤ n_2)) && (decide (n_2 ≤ (newslice_1.n : Int)))) && (decide ((newslice_1.n : Int) ≤ (newslice_1.n : Int)))) then (
        bif ((decide (0 ≤ n_2)) && (decide (n_2 ≤ (newslice_1.n : Int)))) then (
          (Heap.read σ newslice_1.b newslice_1.o (min n_2.toNat (newslice_1.n - n_2.toNat)) 6).bind fun vs8 =>
          (match newslice_1.b with
          | none =>
            slices_Repeat_L8 w L fu0 newslice_1 (IntKind.i64.wrap (n_2 + (((min n_2.toNat (newslice_1.n - n_2.toNat)) : Nat) : Int))) σ K
          | some b9 =>
            (Heap.store σ b9 (newslice_1.o + n_2.toNat * 6) vs8).bind fun σ10 =>
            slices_Repeat_L8 w L fu0 newslice_1 (IntKind.i64.wrap (n_2 + (((min n_2.toNat (newslice_1.n - n_2.toNat)) : Nat) : Int))) σ10 K))
        else none)
      else none)
    else K (.slice newslice_1.b newslice_1.o newslice_1.n 6) σ := by kernel_rfl
set_option maxRecDepth 100000 in
theorem slices_Repeat_eq {R : Type} (w : C_slices_Repeat) (L : Nat) (x1 : Sl) (count2 : Int) (σ : Heap) (K : AVal → Heap → Option R) :
    callC T (O_slices_Repeat w) L 2 78 [.slice x1.b x1.o x1.n 6, .int .i64 count2] σ K =
    bif (decide (count2 < 0)) then (
      none)
    else
    (w.math_bits_Mul (IntKind.u64.wrap (x1.n : Int)) (IntKind.u64.wrap count2) σ).bind fun q3 =>
    bif (decide (q3.1.1 > 0)) then (
      none)
    else
    bif (decide (q3.1.2 > 9223372036854775807)) then (
      none)
    else
    bif ((((decide (0 ≤ (IntKind.i64.wrap q3.1.2))) && (decide ((IntKind.i64.wrap q3.1.2) ≤ (IntKind.i64.wrap q3.1.2)))) && (decide (32 * (IntKind.i64.wrap q3.1.2) ≤ 70368744177664))) && (decide ((IntKind.i64.wrap q3.1.2) ≤ 70368744177664))) then (
      alloc q3.2 ((List.replicate ((IntKind.i64.wrap q3.1.2).toNat) [.int .i32 0, .bool false, .bool false, .bool false, .int .i64 0, .int .i64 0]).flatten) fun b4 σ5 =>
      (Heap.read σ5 x1.b x1.o (min x1.n (IntKind.i64.wrap q3.1.2).toNat) 6).bind fun vs6 =>
      (Heap.store σ5 b4 0 vs6).bind fun σ7 =>
      slices_Repeat_L8 w L L ⟨(some b4), 0, (IntKind.i64.wrap q3.1.2).toNat⟩ (((min x1.n (IntKind.i64.wrap q3.1.2).toNat) : Nat) : Int) σ7 K)
    else none := by kernel_rfl
/-! grid_blank -/
set_option maxRecDepth 100000 in
theorem grid_blank_eq {R : Type} (w : C_grid_blank) (L : Nat) (w1 : Int) (s2 : api_Style) (σ : Heap) (K : AVal → Heap → Option R) :
    callC T (O_grid_blank w) L 2 67 [.int .i64 w1, .agg [.bool s2.Bold, .bool s2.Under, .bool s2.Turned, .int .i64 s2.Fore, .int .i64 s2.Back]] σ K =
    (w.cell_Blank s2 σ).bind fun q3 =>
    alloc q3.2 [.int .i32 q3.1.Rune, .bool q3.1.Style.Bold, .bool q3.1.Style.Under, .bool q3.1.Style.Turned, .int .i64 q3.1.Style.Fore, .int .i64 q3.1.Style.Back] fun b4 σ5 =>
    (w.slices_Repeat ⟨(some b4), 0, 1⟩ w1 σ5).bind fun q6 =>
    K (.slice q6.1.b q6.1.o q6.1.n 6) q6.2 := by kernel_rfl
/-! grid_Grid_Up -/
noncomputable def grid_Grid_Up_L4 {R : Type} (w : C_grid_Grid_Up) (L fu0 : Nat) (g1 : Pt) (top_1 : Int) (end_2 : Int) (out_4 : Sl) (x_3 : Int) (x_5 : Int) (s5 : api_Style) (σ : Heap) (K : AVal → Heap → Option R) : Option R :=
  loopAt T (O_grid_Grid_Up w) L 1 40 Tryd.f40 [1, 1, 1, 0, 1, 0] [] fu0
    ([.ptr g1, .int .i64 top_1, .int .i64 end_2] ++ List.replicate 6 .undef ++ [.lptr 9 0, .undef, .slice out_4.b out_4.o out_4.n 1] ++ List.replicate 9 .undef ++ [.int .i64 x_3, .int .i64 x_5] ++ List.replicate 43 .undef)
    (List.replicate 9 .none ++ [.cells [.bool s5.Bold, .bool s5.Under, .bool s5.Turned, .int .i64 s5.Fore, .int .i64 s5.Back]] ++ List.replicate 56 .none) σ K
set_option maxRecDepth 100000 in
theorem grid_Grid_Up_L4_eq {R : Type} (w : C_grid_Grid_Up) (L fu0 : Nat) (g1 : Pt) (top_1 : Int) (end_2 : Int) (out_4 : Sl) (x_3 : Int) (x_5 : Int) (s5 : api_Style) (σ : Heap) (K : AVal → Heap → Option R) :
    grid_Grid_Up_L4 w L (fu0 + 1) g1 top_1 end_2 out_4 x_3 x_5 s5 σ K =
    bif (decide (x_5 < x_3)) then (
      (g1).bind fun q7 =>
      (slice? (Heap.cell? σ q7.1 (q7.2 + 2)) 1).bind fun x8 =>
      bif ((decide (0 ≤ top_1)) && (decide (top_1 < (x8.2.2 : Int)))) then (
        (x8.1).bind fun b9 =>
        (slice? (Heap.cell? σ b9 (x8.2.1 + top_1.toNat * 1)) 6).bind fun x10 =>
        (Heap.append σ out_4.b out_4.o out_4.n 1 24 [.slice x10.1 x10.2.1 x10.2.2 6] 1).bind fun q11 =>
        (g1).bind fun q12 =>
        (slice? (Heap.cell? q11.2 q12.1 (q12.2 + 2)) 1).bind fun x13 =>
        bif (((decide (0 ≤ top_1)) && (decide (top_1 ≤ (IntKind.i64.wrap (end_2 - 1))))) && (decide ((IntKind.i64.wrap (end_2 - 1)) ≤ (x13.2.2 : Int)))) then (
          (g1).bind fun q14 =>
          (slice? (Heap.cell? q11.2 q14.1 (q14.2 + 2)) 1).bind fun x15 =>
          bif (((decide (0 ≤ (IntKind.i64.wrap (top_1 + 1)))) && (decide ((IntKind.i64.wrap (top_1 + 1)) ≤ end_2))) && (decide (end_2 ≤ (x15.2.2 : Int)))) then (
            (Heap.read q11.2 x15.1 (x15.2.1 + ((IntKind.i64.wrap (top_1 + 1)).toNat) * 1) (min (end_2.toNat - (IntKind.i64.wrap (top_1 + 1)).toNat) ((IntKind.i64.wrap (end_2 - 1)).toNat - top_1.toNat)) 1).bind fun vs16 =>
            (match x13.1 with
            | none =>
              (g1).bind fun q18 =>
              (slice? (Heap.cell? q11.2 q18.1 (q18.2 + 2)) 1).bind fun x19 =>
              (g1).bind fun q20 =>
              (int? (Heap.cell? q11.2 q20.1 q20.2) .i64).bind fun x21 =>
              (w.grid_blank x21 s5 (Heap.frz q11.2)).bind fun q22 =>
              bif ((decide (0 ≤ (IntKind.i64.wrap (end_2 - 1)))) && (decide ((IntKind.i64.wrap (end_2 - 1)) < (x19.2.2 : Int)))) then (
                (x19.1).bind fun b23 =>
                (Heap.store (Heap.back q11.2 q22.2) b23 (x19.2.1 + ((IntKind.i64.wrap (end_2 - 1)).toNat) * 1) [.slice q22.1.b q22.1.o q22.1.n 6]).bind fun σ24 =>
                grid_Grid_Up_L4 w L fu0 g1 top_1 end_2 ⟨q11.1.1, q11.1.2.1, q11.1.2.2⟩ x_3 (IntKind.i64.wrap (x_5 + 1)) s5 σ24 K)
              else none
            | some b17 =>
              (Heap.store q11.2 b17 (x13.2.1 + top_1.toNat * 1) vs16).bind fun σ25 =>
              (g1).bind fun q26 =>
              (slice? (Heap.cell? σ25 q26.1 (q26.2 + 2)) 1).bind fun x27 =>
              (g1).bind fun q28 =>
              (int? (Heap.cell? σ25 q28.1 q28.2) .i64).bind fun x29 =>
              (w.grid_blank x29 s5 (Heap.frz σ25)).bind fun q30 =>
              bif ((decide (0 ≤ (IntKind.i64.wrap (end_2 - 1)))) && (decide ((IntKind.i64.wrap (end_2 - 1)) < (x27.2.2 : Int)))) then (
                (x27.1).bind fun b31 =>
                (Heap.store (Heap.back σ25 q30.2) b31 (x27.2.1 + ((IntKind.i64.wrap (end_2 - 1)).toNat) * 1) [.slice q30.1.b q30.1.o q30.1.n 6]).bind fun σ32 =>
                grid_Grid_Up_L4 w L fu0 g1 top_1 end_2 ⟨q11.1.1, q11.1.2.1, q11.1.2.2⟩ x_3 (IntKind.i64.wrap (x_5 + 1)) s5 σ32 K)
              else none))
          else none)
        else none)
      else none)
    else K (.slice out_4.b out_4.o out_4.n 1) σ := by kernel_rfl
set_option maxRecDepth 100000 in
theorem grid_Grid_Up_eq {R : Type} (w : C_grid_Grid_Up) (L : Nat) (g1 : Pt) (top2 : Int) (end3 : Int) (n4 : Int) (s5 : api_Style) (σ : Heap) (K : AVal → Heap → Option R) :
    callC T (O_grid_Grid_Up w) L 2 40 [.ptr g1, .int .i64 top2, .int .i64 end3, .int .i64 n4, .agg [.bool s5.Bold, .bool s5.Under, .bool s5.Turned, .int .i64 s5.Fore, .int .i64 s5.Back]] σ K =
    (w.grid_Grid_some g1 top2 end3 n4 σ).bind fun q6 =>
    grid_Grid_Up_L4 w L L g1 q6.1.1 q6.1.2.1 ⟨none, 0, 0⟩ q6.1.2.2 0 s5 q6.2 K := by kernel_rfl
/-! grid_Grid_At -/
set_option maxRecDepth 100000 in
theorem grid_Grid_At_eq {R : Type} (w : C_grid_Grid_At) (L : Nat) (g1 : Pt) (x2 : Int) (y3 : Int) (σ : Heap) (K : AVal → Heap → Option R) :
    callC T (O_grid_Grid_At w) L 2 48 [.ptr g1, .int .i64 x2, .int .i64 y3] σ K =
    (w.grid_Grid_there g1 x2 y3 σ).bind fun q4 =>
    bif (!q4.1) then (
      K (.agg [.int .i32 0, .bool false, .bool false, .bool false, .int .i64 0, .int .i64 0]) q4.2)
    else
    (g1).bind fun q5 =>
    (slice? (Heap.cell? q4.2 q5.1 (q5.2 + 2)) 1).bind fun x6 =>
    bif ((decide (0 ≤ y3)) && (decide (y3 < (x6.2.2 : Int)))) then (
      (x6.1).bind fun b7 =>
      (slice? (Heap.cell? q4.2 b7 (x6.2.1 + y3.toNat * 1)) 6).bind fun x8 =>
      bif ((decide (0 ≤ x2)) && (decide (x2 < (x8.2.2 : Int)))) then (
        (x8.1).bind fun b9 =>
        (int? (Heap.cell? q4.2 b9 (x8.2.1 + x2.toNat * 6)) .i32).bind fun x10 =>
        (bool? (Heap.cell? q4.2 b9 ((x8.2.1 + x2.toNat * 6) + 1))).bind fun x11 =>
        (bool? (Heap.cell? q4.2 b9 ((x8.2.1 + x2.toNat * 6) + 2))).bind fun x12 =>
        (bool? (Heap.cell? q4.2 b9 ((x8.2.1 + x2.toNat * 6) + 3))).bind fun x13 =>
        (int? (Heap.cell? q4.2 b9 ((x8.2.1 + x2.toNat * 6) + 4)) .i64).bind fun x14 =>
        (int? (Heap.cell? q4.2 b9 ((x8.2.1 + x2.toNat * 6) + 5)) .i64).bind fun x15 =>
        K (.agg [.int .i32 x10, .bool x11, .bool x12, .bool x13, .int .i64 x14, .int .i64 x15]) q4.2)
      else none)
    else none := by kernel_rfl
/-! grid_bring -/
set_option maxRecDepth 100000 in
theorem grid_bring_eq {R : Type} (L : Nat) (n1 : Int) (σ : Heap) (K : AVal → Heap → Option R) :
    callC T known0 L 2 68 [.int .i64 n1] σ K =
    K (.int .i64 (if 60 < (if 1 > n1 then 1 else n1) then 60 else (if 1 > n1 then 1 else n1))) σ := by kernel_rfl
/-! grid_New -/
noncomputable def grid_New_L3 {R : Type} (w : C_grid_New) (L fu0 : Nat) (b5 : Nat) (x7 : Int) (x_1 : Int) (σ : Heap) (K : AVal → Heap → Option R) : Option R :=
  loopAt T (O_grid_New w) L 1 53 Tryd.f53 [1, 1, 0, 1, 0] [] fu0
    (List.replicate 5 .undef ++ [.ptr (some (b5, 0))] ++ List.replicate 9 .undef ++ [.int .i64 x7, .int .i64 x_1] ++ List.replicate 18 .undef)
    (List.replicate 35 .none) σ K
set_option maxRecDepth 100000 in
theorem grid_New_L3_eq {R : Type} (w : C_grid_New) (L fu0 : Nat) (b5 : Nat) (x7 : Int) (x_1 : Int) (σ : Heap) (K : AVal → Heap → Option R) :
    grid_New_L3 w L (fu0 + 1) b5 x7 x_1 σ K =
    bif (decide (x_1 < x7)) then (
      (slice? (Heap.cell? σ b5 2) 1).bind fun x8 =>
      (int? (Heap.cell? σ b5 0) .i64).bind fun x9 =>
      (w.grid_blank x9 ⟨false, false, false, 0, 0⟩ (Heap.frz σ)).bind fun q10 =>
      (Heap.append (Heap.back (Heap.back σ q10.2) (Heap.frz (Heap.back σ q10.2))) x8.1 x8.2.1 x8.2.2 1 24 [.slice q10.1.b q10.1.o q10.1.n 6] 1).bind fun q11 =>
      (Heap.store q11.2 b5 2 [.slice q11.1.1 q11.1.2.1 q11.1.2.2 1]).bind fun σ12 =>
      grid_New_L3 w L fu0 b5 x7 (IntKind.i64.wrap (x_1 + 1)) σ12 K)
    else K (.ptr (some (b5, 0))) σ := by kernel_rfl
set_option maxRecDepth 100000 in
theorem grid_New_eq {R : Type} (w : C_grid_New) (L : Nat) (w1 : Int) (h2 : Int) (σ : Heap) (K : AVal → Heap → Option R) :
    callC T (O_grid_New w) L 2 53 [.int .i64 w1, .int .i64 h2] σ K =
    (w.grid_bring w1 σ).bind fun q3 =>
    (w.grid_bring h2 q3.2).bind fun q4 =>
    alloc q4.2 [.int .i64 q3.1, .int .i64 q4.1, .slice none 0 0 1] fun b5 σ6 =>
    (int? (Heap.cell? σ6 b5 1) .i64).bind fun x7 =>
    grid_New_L3 w L L b5 x7 0 σ6 K := by kernel_rfl
/-! grid_Grid_Put -/
set_option maxRecDepth 100000 in
theorem grid_Grid_Put_eq {R : Type} (w : C_grid_Grid_Put) (L : Nat) (g1 : Pt) (x2 : Int) (y3 : Int) (c4 : api_Cell) (σ : Heap) (K : AVal → Heap → Option R) :
    callC T (O_grid_Grid_Put w) L 2 64 [.ptr g1, .int .i64 x2, .int .i64 y3, .agg [.int .i32 c4.Rune, .bool c4.Style.Bold, .bool c4.Style.Under, .bool c4.Style.Turned, .int .i64 c4.Style.Fore, .int .i64 c4.Style.Back]] σ K =
    (w.grid_Grid_there g1 x2 y3 σ).bind fun q5 =>
    bif (!q5.1) then (
      K (.tuple []) q5.2)
    else
    (w.cell_Right c4 q5.2).bind fun q6 =>
    bif (!q6.1) then (
      K (.tuple []) q6.2)
    else
    (g1).bind fun q7 =>
    (slice? (Heap.cell? q6.2 q7.1 (q7.2 + 2)) 1).bind fun x8 =>
    bif ((decide (0 ≤ y3)) && (decide (y3 < (x8.2.2 : Int)))) then (
      (x8.1).bind fun b9 =>
      (slice? (Heap.cell? q6.2 b9 (x8.2.1 + y3.toNat * 1)) 6).bind fun x10 =>
      bif ((decide (0 ≤ x2)) && (decide (x2 < (x10.2.2 : Int)))) then (
        (x10.1).bind fun b11 =>
        (Heap.store q6.2 b11 (x10.2.1 + x2.toNat * 6) [.int .i32 c4.Rune, .bool c4.Style.Bold, .bool c4.Style.Under, .bool c4.Style.Turned, .int .i64 c4.Style.Fore, .int .i64 c4.Style.Back]).bind fun σ12 =>
        (w.glyph_Wide c4.Rune σ12).bind fun q13 =>
        bif q13.1 then (
          (g1).bind fun q14 =>
          (int? (Heap.cell? q13.2 q14.1 q14.2) .i64).bind fun x15 =>
          bif (decide ((IntKind.i64.wrap (x2 + 1)) < x15)) then (
            bif ((decide (0 ≤ (IntKind.i64.wrap (x2 + 1)))) && (decide ((IntKind.i64.wrap (x2 + 1)) < (x10.2.2 : Int)))) then (
              (x10.1).bind fun b16 =>
              (Heap.store q13.2 b16 (x10.2.1 + ((IntKind.i64.wrap (x2 + 1)).toNat) * 6) [.int .i32 0, .bool c4.Style.Bold, .bool c4.Style.Under, .bool c4.Style.Turned, .int .i64 c4.Style.Fore, .int .i64 c4.Style.Back]).bind fun σ17 =>
              (g1).bind fun q18 =>
              (slice? (Heap.cell? σ17 q18.1 (q18.2 + 2)) 1).bind fun x19 =>
              (w.cell_Mend ⟨x10.1, x10.2.1, x10.2.2⟩ (Heap.frz σ17)).bind fun q20 =>
              bif ((decide (0 ≤ y3)) && (decide (y3 < (x19.2.2 : Int)))) then (
                (x19.1).bind fun b21 =>
                (Heap.store (Heap.back σ17 q20.2) b21 (x19.2.1 + y3.toNat * 1) [.slice q20.1.b q20.1.o q20.1.n 6]).bind fun σ22 =>
                K (.tuple []) σ22)
              else none)
            else none)
          else
          (g1).bind fun q23 =>
          (slice? (Heap.cell? q13.2 q23.1 (q23.2 + 2)) 1).bind fun x24 =>
          (w.cell_Mend ⟨x10.1, x10.2.1, x10.2.2⟩ (Heap.frz q13.2)).bind fun q25 =>
          bif ((decide (0 ≤ y3)) && (decide (y3 < (x24.2.2 : Int)))) then (
            (x24.1).bind fun b26 =>
            (Heap.store (Heap.back q13.2 q25.2) b26 (x24.2.1 + y3.toNat * 1) [.slice q25.1.b q25.1.o q25.1.n 6]).bind fun σ27 =>
            K (.tuple []) σ27)
          else none)
        else
        (g1).bind fun q28 =>
        (slice? (Heap.cell? q13.2 q28.1 (q28.2 + 2)) 1).bind fun x29 =>
        (w.cell_Mend ⟨x10.1, x10.2.1, x10.2.2⟩ (Heap.frz q13.2)).bind fun q30 =>
        bif ((decide (0 ≤ y3)) && (decide (y3 < (x29.2.2 : Int)))) then (
          (x29.1).bind fun b31 =>
          (Heap.store (Heap.back q13.2 q30.2) b31 (x29.2.1 + y3.toNat * 1) [.slice q30.1.b q30.1.o q30.1.n 6]).bind fun σ32 =>
          K (.tuple []) σ32)
        else none)
      else none)
    else none := by kernel_rfl
end Go.Abs.TA
