/-
Lifted functions: what the machine does, one equation for each entry and each loop (printed by lift.py).
-/
import Derived.Test.YtnoplfndpemmpaaGreatDoorSigE
namespace Go.Abs.TE
open Go Go.Abs Go.Proofs
/-! vary_Of -/
set_option maxRecDepth 100000 in
theorem vary_Of_eq {R : Type} (L : Nat) (b1 : Sl) (σ : Heap) (K : AVal → Heap → Option R) :
    callC T known0 L 2 12 [.slice b1.b b1.o b1.n 1] σ K =
    alloc σ [.slice b1.b b1.o b1.n 1, .bool false] fun b2 σ3 =>
    K (.ptr (some (b2, 0))) σ3 := by kernel_rfl
/-! vary_Reader_Done -/
set_option maxRecDepth 100000 in
theorem vary_Reader_Done_eq {R : Type} (L : Nat) (r1 : Pt) (σ : Heap) (K : AVal → Heap → Option R) :
    callC T known0 L 2 30 [.ptr r1] σ K =
    (r1).bind fun q2 =>
    (bool? (Heap.cell? σ q2.1 (q2.2 + 1))).bind fun x3 =>
    bif (!x3) then (
      (r1).bind fun q4 =>
      (slice? (Heap.cell? σ q4.1 q4.2) 1).bind fun x5 =>
      K (.bool ((x5.2.2 : Int) == 0)) σ)
    else K (.bool false) σ := by kernel_rfl
/-! vary_Take -/
noncomputable def vary_Take_L3 {R : Type} (L fu0 : Nat) (n_1 : Int) (b1 : Sl) (x_2 : Int) (σ : Heap) (K : AVal → Heap → Option R) : Option R :=
  loopAt T known0 L 1 51 Tryz.f51 [1, 1, 0, 1, 0] [] fu0
    (List.replicate 4 .undef ++ [.int .u64 n_1, .undef, .undef, .slice b1.b b1.o b1.n 1, .int .i64 (b1.n : Int), .int .i64 x_2] ++ List.replicate 34 .undef)
    (List.replicate 44 .none) σ K
set_option maxRecDepth 100000 in
theorem vary_Take_L3_eq {R : Type} (L fu0 : Nat) (n_1 : Int) (b1 : Sl) (x_2 : Int) (σ : Heap) (K : AVal → Heap → Option R) :
    vary_Take_L3 L (fu0 + 1) n_1 b1 x_2 σ K =
    bif (decide (x_2 < (b1.n : Int))) then (
      bif ((decide (0 ≤ x_2)) && (decide (x_2 < (b1.n : Int)))) then (
        (b1.b).bind fun b2 =>
        (int? (Heap.cell? σ b2 (b1.o + x_2.toNat * 1)) .u8).bind fun x3 =>
        bif (x_2 == 9) then (
          bif (decide (x3 > 1)) then (
            K (.tuple [.int .u64 0, .int .i64 0]) σ)
          else
          bif (decide (x_2 > 9)) then (
            K (.tuple [.int .u64 0, .int .i64 0]) σ)
          else
          if (IntKind.i64.wrap (7 * x_2)) < 0 then (
            none)
          else (
            bif (decide (x3 < 128)) then (
              bif (x3 == 0) then (
                bif (decide (x_2 > 0)) then (
                  K (.tuple [.int .u64 0, .int .i64 0]) σ)
                else
                K (.tuple [.int .u64 (IntKind.u64.wrap (BitVec.ofInt IntKind.u64.bits n_1 ||| BitVec.ofInt IntKind.u64.bits (IntKind.u64.wrap ((IntKind.u64.wrap (IntKind.u8.wrap (BitVec.ofInt IntKind.u8.bits x3 &&& BitVec.ofInt IntKind.u8.bits 127).toNat)) * 2 ^ (min (IntKind.i64.wrap (7 * x_2)).toNat IntKind.u64.bits)))).toNat), .int .i64 (IntKind.i64.wrap (x_2 + 1))]) σ)
              else K (.tuple [.int .u64 (IntKind.u64.wrap (BitVec.ofInt IntKind.u64.bits n_1 ||| BitVec.ofInt IntKind.u64.bits (IntKind.u64.wrap ((IntKind.u64.wrap (IntKind.u8.wrap (BitVec.ofInt IntKind.u8.bits x3 &&& BitVec.ofInt IntKind.u8.bits 127).toNat)) * 2 ^ (min (IntKind.i64.wrap (7 * x_2)).toNat IntKind.u64.bits)))).toNat), .int .i64 (IntKind.i64.wrap (x_2 + 1))]) σ)
            else vary_Take_L3 L fu0 (IntKind.u64.wrap (BitVec.ofInt IntKind.u64.bits n_1 ||| BitVec.ofInt IntKind.u64.bits (IntKind.u64.wrap ((IntKind.u64.wrap (IntKind.u8.wrap (BitVec.ofInt IntKind.u8.bits x3 &&& BitVec.ofInt IntKind.u8.bits 127).toNat)) * 2 ^ (min (IntKind.i64.wrap (7 * x_2)).toNat IntKind.u64.bits)))).toNat) b1 (IntKind.i64.wrap (x_2 + 1)) σ K))
        else
        bif (decide (x_2 > 9)) then (
          K (.tuple [.int .u64 0, .int .i64 0]) σ)
        else
        if (IntKind.i64.wrap (7 * x_2)) < 0 then (
          none)
        else (
          bif (decide (x3 < 128)) then (
            bif (x3 == 0) then (
              bif (decide (x_2 > 0)) then (
                K (.tuple [.int .u64 0, .int .i64 0]) σ)
              else
              K (.tuple [.int .u64 (IntKind.u64.wrap (BitVec.ofInt IntKind.u64.bits n_1 ||| BitVec.ofInt IntKind.u64.bits (IntKind.u64.wrap ((IntKind.u64.wrap (IntKind.u8.wrap (BitVec.ofInt IntKind.u8.bits x3 &&& BitVec.ofInt IntKind.u8.bits 127).toNat)) * 2 ^ (min (IntKind.i64.wrap (7 * x_2)).toNat IntKind.u64.bits)))).toNat), .int .i64 (IntKind.i64.wrap (x_2 + 1))]) σ)
            else K (.tuple [.int .u64 (IntKind.u64.wrap (BitVec.ofInt IntKind.u64.bits n_1 ||| BitVec.ofInt IntKind.u64.bits (IntKind.u64.wrap ((IntKind.u64.wrap (IntKind.u8.wrap (BitVec.ofInt IntKind.u8.bits x3 &&& BitVec.ofInt IntKind.u8.bits 127).toNat)) * 2 ^ (min (IntKind.i64.wrap (7 * x_2)).toNat IntKind.u64.bits)))).toNat), .int .i64 (IntKind.i64.wrap (x_2 + 1))]) σ)
          else vary_Take_L3 L fu0 (IntKind.u64.wrap (BitVec.ofInt IntKind.u64.bits n_1 ||| BitVec.ofInt IntKind.u64.bits (IntKind.u64.wrap ((IntKind.u64.wrap (IntKind.u8.wrap (BitVec.ofInt IntKind.u8.bits x3 &&& BitVec.ofInt IntKind.u8.bits 127).toNat)) * 2 ^ (min (IntKind.i64.wrap (7 * x_2)).toNat IntKind.u64.bits)))).toNat) b1 (IntKind.i64.wrap (x_2 + 1)) σ K))
      else none)
    else K (.tuple [.int .u64 0, .int .i64 0]) σ := by kernel_rfl
set_option maxRecDepth 100000 in
theorem vary_Take_eq {R : Type} (L : Nat) (b1 : Sl) (σ : Heap) (K : AVal → Heap → Option R) :
    callC T known0 L 2 51 [.slice b1.b b1.o b1.n 1] σ K =
    vary_Take_L3 L L 0 b1 0 σ K := by kernel_rfl
/-! vary_Reader_Num -/
set_option maxRecDepth 100000 in
theorem vary_Reader_Num_eq {R : Type} (w : C_vary_Reader_Num) (L : Nat) (r1 : Pt) (limit2 : Int) (σ : Heap) (K : AVal → Heap → Option R) :
    callC T (O_vary_Reader_Num w) L 2 32 [.ptr r1, .int .i64 limit2] σ K =
    (r1).bind fun q3 =>
    (slice? (Heap.cell? σ q3.1 q3.2) 1).bind fun x4 =>
    (w.vary_Take ⟨x4.1, x4.2.1, x4.2.2⟩ σ).bind fun q5 =>
    (r1).bind fun q6 =>
    (bool? (Heap.cell? q5.2 q6.1 (q6.2 + 1))).bind fun x7 =>
    bif x7 then (
      (r1).bind fun q8 =>
      (Heap.store q5.2 q8.1 (q8.2 + 1) [.bool true]).bind fun σ9 =>
      K (.int .i64 0) σ9)
    else
    bif (q5.1.2 == 0) then (
      (r1).bind fun q10 =>
      (Heap.store q5.2 q10.1 (q10.2 + 1) [.bool true]).bind fun σ11 =>
      K (.int .i64 0) σ11)
    else
    bif (decide (q5.1.1 > 9223372036854775807)) then (
      (r1).bind fun q12 =>
      (Heap.store q5.2 q12.1 (q12.2 + 1) [.bool true]).bind fun σ13 =>
      K (.int .i64 0) σ13)
    else
    bif (decide (limit2 > 0)) then (
      bif (decide (q5.1.1 ≥ (IntKind.u64.wrap limit2))) then (
        (r1).bind fun q14 =>
        (Heap.store q5.2 q14.1 (q14.2 + 1) [.bool true]).bind fun σ15 =>
        K (.int .i64 0) σ15)
      else
      (r1).bind fun q16 =>
      (slice? (Heap.cell? q5.2 q16.1 q16.2) 1).bind fun x17 =>
      bif (((decide (0 ≤ q5.1.2)) && (decide (q5.1.2 ≤ (x17.2.2 : Int)))) && (decide ((x17.2.2 : Int) ≤ (x17.2.2 : Int)))) then (
        (r1).bind fun q18 =>
        (Heap.store q5.2 q18.1 q18.2 [.slice x17.1 (x17.2.1 + q5.1.2.toNat * 1) (x17.2.2 - q5.1.2.toNat) 1]).bind fun σ19 =>
        K (.int .i64 (IntKind.i64.wrap q5.1.1)) σ19)
      else none)
    else
    (r1).bind fun q20 =>
    (slice? (Heap.cell? q5.2 q20.1 q20.2) 1).bind fun x21 =>
    bif (((decide (0 ≤ q5.1.2)) && (decide (q5.1.2 ≤ (x21.2.2 : Int)))) && (decide ((x21.2.2 : Int) ≤ (x21.2.2 : Int)))) then (
      (r1).bind fun q22 =>
      (Heap.store q5.2 q22.1 q22.2 [.slice x21.1 (x21.2.1 + q5.1.2.toNat * 1) (x21.2.2 - q5.1.2.toNat) 1]).bind fun σ23 =>
      K (.int .i64 (IntKind.i64.wrap q5.1.1)) σ23)
    else none := by kernel_rfl
/-! vary_Reader_Good -/
set_option maxRecDepth 100000 in
theorem vary_Reader_Good_eq {R : Type} (L : Nat) (r1 : Pt) (σ : Heap) (K : AVal → Heap → Option R) :
    callC T known0 L 2 34 [.ptr r1] σ K =
    (r1).bind fun q2 =>
    (bool? (Heap.cell? σ q2.1 (q2.2 + 1))).bind fun x3 =>
    K (.bool (!x3)) σ := by kernel_rfl
/-! math_bits_Mul64 -/
set_option maxRecDepth 100000 in
theorem math_bits_Mul64_eq {R : Type} (L : Nat) (x1 : Int) (y2 : Int) (σ : Heap) (K : AVal → Heap → Option R) :
    callC T known0 L 2 243 [.int .u64 x1, .int .u64 y2] σ K =
    K (.tuple [.int .u64 (IntKind.u64.wrap ((IntKind.u64.wrap ((IntKind.u64.wrap ((Int.fdiv x1 (2 ^ 32)) * (Int.fdiv y2 (2 ^ 32)))) + (Int.fdiv (IntKind.u64.wrap ((IntKind.u64.wrap ((Int.fdiv x1 (2 ^ 32)) * (IntKind.u64.wrap (BitVec.ofInt IntKind.u64.bits y2 &&& BitVec.ofInt IntKind.u64.bits 4294967295).toNat))) + (Int.fdiv (IntKind.u64.wrap ((IntKind.u64.wrap (BitVec.ofInt IntKind.u64.bits x1 &&& BitVec.ofInt IntKind.u64.bits 4294967295).toNat) * (IntKind.u64.wrap (BitVec.ofInt IntKind.u64.bits y2 &&& BitVec.ofInt IntKind.u64.bits 4294967295).toNat))) (2 ^ 32)))) (2 ^ 32)))) + (Int.fdiv (IntKind.u64.wrap ((IntKind.u64.wrap (BitVec.ofInt IntKind.u64.bits (IntKind.u64.wrap ((IntKind.u64.wrap ((Int.fdiv x1 (2 ^ 32)) * (IntKind.u64.wrap (BitVec.ofInt IntKind.u64.bits y2 &&& BitVec.ofInt IntKind.u64.bits 4294967295).toNat))) + (Int.fdiv (IntKind.u64.wrap ((IntKind.u64.wrap (BitVec.ofInt IntKind.u64.bits x1 &&& BitVec.ofInt IntKind.u64.bits 4294967295).toNat) * (IntKind.u64.wrap (BitVec.ofInt IntKind.u64.bits y2 &&& BitVec.ofInt IntKind.u64.bits 4294967295).toNat))) (2 ^ 32)))) &&& BitVec.ofInt IntKind.u64.bits 4294967295).toNat) + (IntKind.u64.wrap ((IntKind.u64.wrap (BitVec.ofInt IntKind.u64.bits x1 &&& BitVec.ofInt IntKind.u64.bits 4294967295).toNat) * (Int.fdiv y2 (2 ^ 32)))))) (2 ^ 32)))), .int .u64 (IntKind.u64.wrap (x1 * y2))]) σ := by kernel_rfl
/-! math_bits_Mul -/
set_option maxRecDepth 100000 in
theorem math_bits_Mul_eq {R : Type} (w : C_math_bits_Mul) (L : Nat) (x1 : Int) (y2 : Int) (σ : Heap) (K : AVal → Heap → Option R) :
    callC T (O_math_bits_Mul w) L 2 178 [.int .u64 x1, .int .u64 y2] σ K =
    (w.math_bits_Mul64 x1 y2 σ).bind fun q3 =>
    K (.tuple [.int .u64 q3.1.1, .int .u64 q3.1.2]) q3.2 := by kernel_rfl
/-! slices_Repeat -/
noncomputable def slices_Repeat_L8 {R : Type} (w : C_slices_Repeat) (L fu0 : Nat) (newslice_1 : Sl) (n_2 : Int) (σ : Heap) (K : AVal → Heap → Option R) : Option R :=
  loopAt T (O_slices_Repeat w) L 1 120 Tryz.f120 [1, 1, 1, 1, 1, 1, 0, 0] [] fu0
    (List.replicate 7 .undef ++ [.slice newslice_1.b newslice_1.o newslice_1.n 6, .int .i64 n_2] ++ List.replicate 39 .undef)
    (List.replicate 48 .none) σ K
set_option maxRecDepth 100000 in
theorem slices_Repeat_L8_eq {R : Type} (w : C_slices_Repeat) (L fu0 : Nat) (newslice_1 : Sl) (n_2 : Int) (σ : Heap) (K : AVal → Heap → Option R) :
    slices_Repeat_L8 w L (fu0 + 1) newslice_1 n_2 σ K =
    bif (decide (n_2 < (newslice_1.n : Int))) then (
      bif (((decide (0 ≤ n_2)) && (decide (n_2 ≤ (newslice_1.n : Int)))) && (decide ((newslice_1.n : Int) ≤ (newslice_1.n : Int)))) then (
        bif ((decide (0 ≤ n_2)) && (decide (n_2 ≤ (newslice_1.n : Int)))) then (
          (Heap.read σ newslice_1.b newslice_1.o (min n_2.toNat (newslice_1.n - n_2.toNat)) 6).bind fun vs8 =>
          (match newslice_1.b with
          | none =>
            slices_Repeat_L8 w L fu0 newslice_1 (IntKind.i64.wrap (n_2 + (((min n_2.toNat (newslice_1.n - n_2.toNat)) : Nat) : Int))) σ K
          | some b9 =>
            (Heap.store σ b9 (newslice_1.o + n_2.toNat * 6) vs8).bind fun σ10 =>
            slices_Repeat_L8 w L fu0 newslice_1 (IntKind.i64.wrap (n_2 + (((min n_2.toNat (newslice_1.n - n_2.toNat)) : Nat) : Int))) σ10 K))
        else none)
      else none)
    else K (.slice newslice_1.b newslice_1.o newslice_1.n 6) σ := by kernel_rfl
set_option maxRecDepth 100000 in
theorem slices_Repeat_eq {R : Type} (w : C_slices_Repeat) (L : Nat) (x1 : Sl) (count2 : Int) (σ : Heap) (K : AVal → Heap → Option R) :
    callC T (O_slices_Repeat w) L 2 120 [.slice x1.b x1.o x1.n 6, .int .i64 count2] σ K =
    bif (decide (count2 < 0)) then (
      none)
    else
    (w.math_bits_Mul (IntKind.u64.wrap (x1.n : Int)) (IntKind.u64.wrap count2) σ).bind fun q3 =>
    bif (decide (q3.1.1 > 0)) then (
      none)
    else
    bif (decide (q3.1.2 > 9223372036854775807)) then (
      none)
    else
    bif ((((decide (0 ≤ (IntKind.i64.wrap q3.1.2))) && (decide ((IntKind.i64.wrap q3.1.2) ≤ (IntKind.i64.wrap q3.1.2)))) && (decide (32 * (IntKind.i64.wrap q3.1.2) ≤ 70368744177664))) && (decide ((IntKind.i64.wrap q3.1.2) ≤ 70368744177664))) then (
      alloc q3.2 ((List.replicate ((IntKind.i64.wrap q3.1.2).toNat) [.int .i32 0, .bool false, .bool false, .bool false, .int .i64 0, .int .i64 0]).flatten) fun b4 σ5 =>
      (Heap.read σ5 x1.b x1.o (min x1.n (IntKind.i64.wrap q3.1.2).toNat) 6).bind fun vs6 =>
      (Heap.store σ5 b4 0 vs6).bind fun σ7 =>
      slices_Repeat_L8 w L L ⟨(some b4), 0, (IntKind.i64.wrap q3.1.2).toNat⟩ (((min x1.n (IntKind.i64.wrap q3.1.2).toNat) : Nat) : Int) σ7 K)
    else none := by kernel_rfl
/-! cell_Blank -/
set_option maxRecDepth 100000 in
theorem cell_Blank_eq {R : Type} (L : Nat) (s1 : api_Style) (σ : Heap) (K : AVal → Heap → Option R) :
    callC T known0 L 2 121 [.agg [.bool s1.Bold, .bool s1.Under, .bool s1.Turned, .int .i64 s1.Fore, .int .i64 s1.Back]] σ K =
    K (.agg [.int .i32 32, .bool false, .bool false, .bool false, .int .i64 0, .int .i64 s1.Back]) σ := by kernel_rfl
/-! grid_blank -/
set_option maxRecDepth 100000 in
theorem grid_blank_eq {R : Type} (w : C_grid_blank) (L : Nat) (w1 : Int) (s2 : api_Style) (σ : Heap) (K : AVal → Heap → Option R) :
    callC T (O_grid_blank w) L 2 82 [.int .i64 w1, .agg [.bool s2.Bold, .bool s2.Under, .bool s2.Turned, .int .i64 s2.Fore, .int .i64 s2.Back]] σ K =
    (w.cell_Blank s2 σ).bind fun q3 =>
    alloc q3.2 [.int .i32 q3.1.Rune, .bool q3.1.Style.Bold, .bool q3.1.Style.Under, .bool q3.1.Style.Turned, .int .i64 q3.1.Style.Fore, .int .i64 q3.1.Style.Back] fun b4 σ5 =>
    (w.slices_Repeat ⟨(some b4), 0, 1⟩ w1 σ5).bind fun q6 =>
    K (.slice q6.1.b q6.1.o q6.1.n 6) q6.2 := by kernel_rfl
/-! vary_Put -/
noncomputable def vary_Put_L2 {R : Type} (L fu0 : Nat) (b_3 : Sl) (l2 : Sl) (x_4 : Int) (σ : Heap) (K : AVal → Heap → Option R) : Option R :=
  loopAt T known0 L 1 28 Tryz.f28 [1, 0, 1, 0] [] fu0
    ([.slice b_3.b b_3.o b_3.n 1] ++ List.replicate 6 .undef ++ [.slice l2.b l2.o l2.n 1, .int .i64 (l2.n : Int), .int .i64 x_4] ++ List.replicate 20 .undef)
    (List.replicate 30 .none) σ K
noncomputable def vary_Put_L4 {R : Type} (L fu0 fu1 : Nat) (b_1 : Sl) (n_2 : Int) (l2 : Sl) (x_4 : Int) (σ : Heap) (K : AVal → Heap → Option R) : Option R :=
  loopAt T known0 L 1 28 Tryz.f28 [1, 0, 1, 0, 0, 1, 1, 0, 0, 1, 0, 0] [fu0] fu1
    ([.slice b_1.b b_1.o b_1.n 1] ++ List.replicate 5 .undef ++ [.int .u64 n_2, .slice l2.b l2.o l2.n 1, .int .i64 (l2.n : Int), .int .i64 x_4] ++ List.replicate 20 .undef)
    (List.replicate 30 .none) σ K
set_option maxRecDepth 100000 in
theorem vary_Put_L2_eq {R : Type} (L fu0 : Nat) (b_3 : Sl) (l2 : Sl) (x_4 : Int) (σ : Heap) (K : AVal → Heap → Option R) :
    vary_Put_L2 L (fu0 + 1) b_3 l2 x_4 σ K =
    bif (decide (x_4 < (l2.n : Int))) then (
      bif ((decide (0 ≤ x_4)) && (decide (x_4 < (l2.n : Int)))) then (
        (l2.b).bind fun b3 =>
        (int? (Heap.cell? σ b3 (l2.o + x_4.toNat * 1)) .u64).bind fun x4 =>
        vary_Put_L4 L fu0 L b_3 x4 l2 x_4 σ K)
      else none)
    else K (.slice b_3.b b_3.o b_3.n 1) σ := by kernel_rfl
set_option maxRecDepth 100000 in
theorem vary_Put_L4_eq {R : Type} (L fu0 fu1 : Nat) (b_1 : Sl) (n_2 : Int) (l2 : Sl) (x_4 : Int) (σ : Heap) (K : AVal → Heap → Option R) :
    vary_Put_L4 L fu0 (fu1 + 1) b_1 n_2 l2 x_4 σ K =
    bif (decide (n_2 ≥ 128)) then (
      (Heap.append σ b_1.b b_1.o b_1.n 1 1 [.int .u8 (IntKind.u8.wrap (BitVec.ofInt IntKind.u8.bits (IntKind.u8.wrap n_2) ||| BitVec.ofInt IntKind.u8.bits 128).toNat)] 1).bind fun q5 =>
      vary_Put_L4 L fu0 fu1 ⟨q5.1.1, q5.1.2.1, q5.1.2.2⟩ (Int.fdiv n_2 (2 ^ 7)) l2 x_4 q5.2 K)
    else
    (Heap.append σ b_1.b b_1.o b_1.n 1 1 [.int .u8 (IntKind.u8.wrap n_2)] 1).bind fun q6 =>
    vary_Put_L2 L fu0 ⟨q6.1.1, q6.1.2.1, q6.1.2.2⟩ l2 (IntKind.i64.wrap (x_4 + 1)) q6.2 K := by kernel_rfl
set_option maxRecDepth 100000 in
theorem vary_Put_eq {R : Type} (L : Nat) (b1 : Sl) (l2 : Sl) (σ : Heap) (K : AVal → Heap → Option R) :
    callC T known0 L 2 28 [.slice b1.b b1.o b1.n 1, .slice l2.b l2.o l2.n 1] σ K =
    vary_Put_L2 L L b1 l2 0 σ K := by kernel_rfl
/-! state_flags -/
noncomputable def state_flags_L3 {R : Type} (L fu0 : Nat) (n_1 : Int) (l1 : Sl) (x_2 : Int) (σ : Heap) (K : AVal → Heap → Option R) : Option R :=
  loopAt T known0 L 1 199 Tryz.f199 [1, 1, 0, 1, 0] [] fu0
    ([.undef, .undef, .undef, .int .u64 n_1, .undef, .undef, .slice l1.b l1.o l1.n 1, .int .i64 (l1.n : Int), .int .i64 x_2] ++ List.replicate 11 .undef)
    (List.replicate 20 .none) σ K
set_option maxRecDepth 100000 in
theorem state_flags_L3_eq {R : Type} (L fu0 : Nat) (n_1 : Int) (l1 : Sl) (x_2 : Int) (σ : Heap) (K : AVal → Heap → Option R) :
    state_flags_L3 L (fu0 + 1) n_1 l1 x_2 σ K =
    bif (decide (x_2 < (l1.n : Int))) then (
      bif ((decide (0 ≤ x_2)) && (decide (x_2 < (l1.n : Int)))) then (
        (l1.b).bind fun b2 =>
        (bool? (Heap.cell? σ b2 (l1.o + x_2.toNat * 1))).bind fun x3 =>
        bif x3 then (
          if x_2 < 0 then (
            none)
          else (
            state_flags_L3 L fu0 (IntKind.u64.wrap (BitVec.ofInt IntKind.u64.bits n_1 ||| BitVec.ofInt IntKind.u64.bits (IntKind.u64.wrap (1 * 2 ^ (min x_2.toNat IntKind.u64.bits)))).toNat) l1 (IntKind.i64.wrap (x_2 + 1)) σ K))
        else state_flags_L3 L fu0 n_1 l1 (IntKind.i64.wrap (x_2 + 1)) σ K)
      else none)
    else K (.int .u64 n_1) σ := by kernel_rfl
set_option maxRecDepth 100000 in
theorem state_flags_eq {R : Type} (L : Nat) (l1 : Sl) (σ : Heap) (K : AVal → Heap → Option R) :
    callC T known0 L 2 199 [.slice l1.b l1.o l1.n 1] σ K =
    state_flags_L3 L L 0 l1 0 σ K := by kernel_rfl
end Go.Abs.TE
