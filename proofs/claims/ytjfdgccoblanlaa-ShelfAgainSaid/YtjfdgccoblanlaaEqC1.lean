/-
Lifted functions: what the machine does, one equation for each entry and each loop (printed by lift.py).
-/
import Derived.Test.YtjfdgccoblanlaaSigC
namespace Go.Abs.TC
open Go Go.Abs Go.Proofs
/-! law04_FileRooms -/
noncomputable def law04_FileRooms_L8 {R : Type} (w : C_law04_FileRooms) (L fu0 : Nat) (s_1 : Pt) (quota1 : Int) (calls2 : Sl) (x_2 : Int) (σ : Heap) (K : AVal → Heap → Option R) : Option R :=
  loopAt T (O_law04_FileRooms w) L 1 5 Try.f5 [1, 1, 1, 1, 1, 0, 1, 0] [] fu0
    (List.replicate 5 .undef ++ [.ptr s_1, .int .i64 (if 0 > quota1 then 0 else quota1)] ++ List.replicate 14 .undef ++ [.slice calls2.b calls2.o calls2.n 5, .int .i64 (calls2.n : Int), .int .i64 x_2] ++ List.replicate 43 .undef)
    (List.replicate 67 .none) σ K
set_option maxRecDepth 100000 in
theorem law04_FileRooms_L8_eq {R : Type} (w : C_law04_FileRooms) (L fu0 : Nat) (s_1 : Pt) (quota1 : Int) (calls2 : Sl) (x_2 : Int) (σ : Heap) (K : AVal → Heap → Option R) :
    law04_FileRooms_L8 w L (fu0 + 1) s_1 quota1 calls2 x_2 σ K =
    bif (decide (x_2 < (calls2.n : Int))) then (
      bif ((decide (0 ≤ x_2)) && (decide (x_2 < (calls2.n : Int)))) then (
        (calls2.b).bind fun b6 =>
        (int? (Heap.cell? σ b6 (calls2.o + x_2.toNat * 5)) .i64).bind fun x7 =>
        (int? (Heap.cell? σ b6 ((calls2.o + x_2.toNat * 5) + 1)) .i64).bind fun x8 =>
        (str? (Heap.cell? σ b6 ((calls2.o + x_2.toNat * 5) + 2))).bind fun x9 =>
        (str? (Heap.cell? σ b6 ((calls2.o + x_2.toNat * 5) + 3))).bind fun x10 =>
        (slice? (Heap.cell? σ b6 ((calls2.o + x_2.toNat * 5) + 4)) 1).bind fun x11 =>
        (w.file_Store_Used s_1 σ).bind fun q12 =>
        (w.file_Store_Up s_1 q12.2).bind fun q13 =>
        (w.law04_do s_1 ⟨x7, x8, x9, x10, ⟨x11.1, x11.2.1, x11.2.2⟩⟩ q13.2).bind fun q14 =>
        (w.law04_Call_kind ⟨x7, x8, x9, x10, ⟨x11.1, x11.2.1, x11.2.2⟩⟩ q14.2).bind fun q15 =>
        bif (decide (q15.1 < 2)) then (
          bif q13.1 then (
            (w.law04_right x9 q15.2).bind fun q16 =>
            bif q16.1 then (
              bif (!((q14.1 == 5) == (decide ((x11.2.2 : Int) > (IntKind.i64.wrap ((if 0 > quota1 then 0 else quota1) - q12.1)))))) then (
                K (.bool false) q16.2)
              else
              (w.file_Store_Used s_1 q16.2).bind fun q17 =>
              bif (decide (q17.1 > (if 0 > quota1 then 0 else quota1))) then (
                K (.bool false) q17.2)
              else
              (w.file_Store_Used s_1 q17.2).bind fun q18 =>
              bif (decide (q18.1 < 0)) then (
                K (.bool false) q18.2)
              else
              law04_FileRooms_L8 w L fu0 s_1 quota1 calls2 (IntKind.i64.wrap (x_2 + 1)) q18.2 K)
            else
            (w.file_Store_Used s_1 q16.2).bind fun q19 =>
            bif (decide (q19.1 > (if 0 > quota1 then 0 else quota1))) then (
              K (.bool false) q19.2)
            else
            (w.file_Store_Used s_1 q19.2).bind fun q20 =>
            bif (decide (q20.1 < 0)) then (
              K (.bool false) q20.2)
            else
            law04_FileRooms_L8 w L fu0 s_1 quota1 calls2 (IntKind.i64.wrap (x_2 + 1)) q20.2 K)
          else
          (w.file_Store_Used s_1 q15.2).bind fun q21 =>
          bif (decide (q21.1 > (if 0 > quota1 then 0 else quota1))) then (
            K (.bool false) q21.2)
          else
          (w.file_Store_Used s_1 q21.2).bind fun q22 =>
          bif (decide (q22.1 < 0)) then (
            K (.bool false) q22.2)
          else
          law04_FileRooms_L8 w L fu0 s_1 quota1 calls2 (IntKind.i64.wrap (x_2 + 1)) q22.2 K)
        else
        (w.file_Store_Used s_1 q15.2).bind fun q23 =>
        bif (decide (q23.1 > (if 0 > quota1 then 0 else quota1))) then (
          K (.bool false) q23.2)
        else
        (w.file_Store_Used s_1 q23.2).bind fun q24 =>
        bif (decide (q24.1 < 0)) then (
          K (.bool false) q24.2)
        else
        law04_FileRooms_L8 w L fu0 s_1 quota1 calls2 (IntKind.i64.wrap (x_2 + 1)) q24.2 K)
      else none)
    else K (.bool true) σ := by kernel_rfl
set_option maxRecDepth 100000 in
theorem law04_FileRooms_eq {R : Type} (w : C_law04_FileRooms) (L : Nat) (quota1 : Int) (calls2 : Sl) (σ : Heap) (K : AVal → Heap → Option R) :
    callC T (O_law04_FileRooms w) L 2 5 [.int .i64 quota1, .slice calls2.b calls2.o calls2.n 5] σ K =
    (w.law04_fit σ).bind fun q3 =>
    bif (!q3.1) then (
      K (.bool false) q3.2)
    else
    (w.law04_short calls2 q3.2).bind fun q4 =>
    bif (!q4.1) then (
      K (.bool true) q4.2)
    else
    (w.file_New quota1 q4.2).bind fun q5 =>
    law04_FileRooms_L8 w L L q5.1 quota1 calls2 0 q5.2 K := by kernel_rfl
/-! law04_model_crash -/
noncomputable def law04_model_crash_L1 {R : Type} (L fu0 : Nat) (m1 : Pt) (keep2 : Sl) (x4 : Option Nat × Nat × Nat) (x_3 : Int) (σ : Heap) (K : AVal → Heap → Option R) : Option R :=
  loopAt T known0 L 1 45 Try.f45 [0, 1, 0] [] fu0
    ([.ptr m1, .slice keep2.b keep2.o keep2.n 1] ++ List.replicate 9 .undef ++ [.slice x4.1 x4.2.1 x4.2.2 3, .int .i64 (x4.2.2 : Int), .int .i64 x_3] ++ List.replicate 55 .undef)
    (List.replicate 69 .none) σ K
noncomputable def law04_model_crash_L5 {R : Type} (L fu0 fu1 : Nat) (m1 : Pt) (keep2 : Sl) (x_3 : Int) (n_1 : Int) (k_2 : Int) (x4 : Option Nat × Nat × Nat) (x6 : ByteArray) (x7 : ByteArray) (x8 : Int) (σ : Heap) (K : AVal → Heap → Option R) : Option R :=
  loopAt T known0 L 1 45 Try.f45 [0, 1, 0, 0, 1, 1, 0, 0, 1, 1, 0, 1, 0] [fu0] fu1
    ([.ptr m1, .slice keep2.b keep2.o keep2.n 1, .undef, .undef, .int .i64 x_3, .lptr 5 0, .int .i64 n_1, .int .i64 k_2, .undef, .undef, .undef, .slice x4.1 x4.2.1 x4.2.2 3, .int .i64 (x4.2.2 : Int), .int .i64 x_3] ++ List.replicate 55 .undef)
    (List.replicate 5 .none ++ [.cells [.str x6, .str x7, .int .i64 x8]] ++ List.replicate 63 .none) σ K
set_option maxRecDepth 100000 in
theorem law04_model_crash_L1_eq {R : Type} (L fu0 : Nat) (m1 : Pt) (keep2 : Sl) (x4 : Option Nat × Nat × Nat) (x_3 : Int) (σ : Heap) (K : AVal → Heap → Option R) :
    law04_model_crash_L1 L (fu0 + 1) m1 keep2 x4 x_3 σ K =
    bif (decide (x_3 < (x4.2.2 : Int))) then (
      bif ((decide (0 ≤ x_3)) && (decide (x_3 < (x4.2.2 : Int)))) then (
        (x4.1).bind fun b5 =>
        (str? (Heap.cell? σ b5 (x4.2.1 + x_3.toNat * 3))).bind fun x6 =>
        (str? (Heap.cell? σ b5 ((x4.2.1 + x_3.toNat * 3) + 1))).bind fun x7 =>
        (int? (Heap.cell? σ b5 ((x4.2.1 + x_3.toNat * 3) + 2)) .i64).bind fun x8 =>
        law04_model_crash_L5 L fu0 L m1 keep2 x_3 x8 0 x4 x6 x7 x8 σ K)
      else none)
    else
    (m1).bind fun q9 =>
    (Heap.store σ q9.1 (q9.2 + 2) [.int .i64 (-1)]).bind fun σ10 =>
    (m1).bind fun q11 =>
    (Heap.store σ10 q11.1 (q11.2 + 3) [.bool false]).bind fun σ12 =>
    K (.tuple []) σ12 := by kernel_rfl
set_option maxRecDepth 100000 in
theorem law04_model_crash_L5_eq {R : Type} (L fu0 fu1 : Nat) (m1 : Pt) (keep2 : Sl) (x_3 : Int) (n_1 : Int) (k_2 : Int) (x4 : Option Nat × Nat × Nat) (x6 : ByteArray) (x7 : ByteArray) (x8 : Int) (σ : Heap) (K : AVal → Heap → Option R) :
    law04_model_crash_L5 L fu0 (fu1 + 1) m1 keep2 x_3 n_1 k_2 x4 x6 x7 x8 σ K =
    bif (decide (x_3 < (keep2.n : Int))) then (
      bif ((decide (0 ≤ x_3)) && (decide (x_3 < (keep2.n : Int)))) then (
        (keep2.b).bind fun b13 =>
        (int? (Heap.cell? σ b13 (keep2.o + x_3.toNat * 1)) .i64).bind fun x14 =>
        bif (decide (k_2 < x14)) then (
          bif (decide (n_1 < (x7.size : Int))) then (
            law04_model_crash_L5 L fu0 fu1 m1 keep2 x_3 (IntKind.i64.wrap (n_1 + 1)) (IntKind.i64.wrap (k_2 + 1)) x4 x6 x7 x8 σ K)
          else
          (m1).bind fun q15 =>
          (slice? (Heap.cell? σ q15.1 q15.2) 3).bind fun x16 =>
          (m1).bind fun q17 =>
          (slice? (Heap.cell? σ q17.1 q17.2) 3).bind fun x18 =>
          bif ((decide (0 ≤ n_1)) && (decide (n_1 ≤ (x7.size : Int)))) then (
            bif ((decide (0 ≤ x_3)) && (decide (x_3 < (x16.2.2 : Int)))) then (
              (x16.1).bind fun b19 =>
              (Heap.store σ b19 ((x16.2.1 + x_3.toNat * 3) + 1) [.str (x7.extract 0 n_1.toNat)]).bind fun σ20 =>
              bif ((decide (0 ≤ x_3)) && (decide (x_3 < (x18.2.2 : Int)))) then (
                (x18.1).bind fun b21 =>
                (Heap.store σ20 b21 ((x18.2.1 + x_3.toNat * 3) + 2) [.int .i64 n_1]).bind fun σ22 =>
                law04_model_crash_L1 L fu0 m1 keep2 x4 (IntKind.i64.wrap (x_3 + 1)) σ22 K)
              else none)
            else none)
          else none)
        else
        (m1).bind fun q23 =>
        (slice? (Heap.cell? σ q23.1 q23.2) 3).bind fun x24 =>
        (m1).bind fun q25 =>
        (slice? (Heap.cell? σ q25.1 q25.2) 3).bind fun x26 =>
        bif ((decide (0 ≤ n_1)) && (decide (n_1 ≤ (x7.size : Int)))) then (
          bif ((decide (0 ≤ x_3)) && (decide (x_3 < (x24.2.2 : Int)))) then (
            (x24.1).bind fun b27 =>
            (Heap.store σ b27 ((x24.2.1 + x_3.toNat * 3) + 1) [.str (x7.extract 0 n_1.toNat)]).bind fun σ28 =>
            bif ((decide (0 ≤ x_3)) && (decide (x_3 < (x26.2.2 : Int)))) then (
              (x26.1).bind fun b29 =>
              (Heap.store σ28 b29 ((x26.2.1 + x_3.toNat * 3) + 2) [.int .i64 n_1]).bind fun σ30 =>
              law04_model_crash_L1 L fu0 m1 keep2 x4 (IntKind.i64.wrap (x_3 + 1)) σ30 K)
            else none)
          else none)
        else none)
      else none)
    else
    (m1).bind fun q31 =>
    (slice? (Heap.cell? σ q31.1 q31.2) 3).bind fun x32 =>
    (m1).bind fun q33 =>
    (slice? (Heap.cell? σ q33.1 q33.2) 3).bind fun x34 =>
    bif ((decide (0 ≤ n_1)) && (decide (n_1 ≤ (x7.size : Int)))) then (
      bif ((decide (0 ≤ x_3)) && (decide (x_3 < (x32.2.2 : Int)))) then (
        (x32.1).bind fun b35 =>
        (Heap.store σ b35 ((x32.2.1 + x_3.toNat * 3) + 1) [.str (x7.extract 0 n_1.toNat)]).bind fun σ36 =>
        bif ((decide (0 ≤ x_3)) && (decide (x_3 < (x34.2.2 : Int)))) then (
          (x34.1).bind fun b37 =>
          (Heap.store σ36 b37 ((x34.2.1 + x_3.toNat * 3) + 2) [.int .i64 n_1]).bind fun σ38 =>
          law04_model_crash_L1 L fu0 m1 keep2 x4 (IntKind.i64.wrap (x_3 + 1)) σ38 K)
        else none)
      else none)
    else none := by kernel_rfl
set_option maxRecDepth 100000 in
theorem law04_model_crash_eq {R : Type} (L : Nat) (m1 : Pt) (keep2 : Sl) (σ : Heap) (K : AVal → Heap → Option R) :
    callC T known0 L 2 45 [.ptr m1, .slice keep2.b keep2.o keep2.n 1] σ K =
    (m1).bind fun q3 =>
    (slice? (Heap.cell? σ q3.1 q3.2) 3).bind fun x4 =>
    law04_model_crash_L1 L L m1 keep2 x4 0 σ K := by kernel_rfl
/-! law04_model_at -/
noncomputable def law04_model_at_L2 {R : Type} (L fu0 : Nat) (m1 : Pt) (name2 : ByteArray) (i_1 : Int) (σ : Heap) (K : AVal → Heap → Option R) : Option R :=
  loopAt T known0 L 1 46 Try.f46 [1, 1, 0, 0] [] fu0
    ([.ptr m1, .str name2] ++ List.replicate 4 .undef ++ [.int .i64 i_1] ++ List.replicate 41 .undef)
    (List.replicate 48 .none) σ K
set_option maxRecDepth 100000 in
theorem law04_model_at_L2_eq {R : Type} (L fu0 : Nat) (m1 : Pt) (name2 : ByteArray) (i_1 : Int) (σ : Heap) (K : AVal → Heap → Option R) :
    law04_model_at_L2 L (fu0 + 1) m1 name2 i_1 σ K =
    (m1).bind fun q3 =>
    (slice? (Heap.cell? σ q3.1 q3.2) 3).bind fun x4 =>
    bif (decide (i_1 < (x4.2.2 : Int))) then (
      (m1).bind fun q5 =>
      (slice? (Heap.cell? σ q5.1 q5.2) 3).bind fun x6 =>
      bif ((decide (0 ≤ i_1)) && (decide (i_1 < (x6.2.2 : Int)))) then (
        (x6.1).bind fun b7 =>
        (str? (Heap.cell? σ b7 (x6.2.1 + i_1.toNat * 3))).bind fun x8 =>
        bif (Op.bytesLess x8.toList name2.toList) then (
          law04_model_at_L2 L fu0 m1 name2 (IntKind.i64.wrap (i_1 + 1)) σ K)
        else
        (m1).bind fun q9 =>
        (slice? (Heap.cell? σ q9.1 q9.2) 3).bind fun x10 =>
        bif (decide (i_1 < (x10.2.2 : Int))) then (
          (m1).bind fun q11 =>
          (slice? (Heap.cell? σ q11.1 q11.2) 3).bind fun x12 =>
          bif ((decide (0 ≤ i_1)) && (decide (i_1 < (x12.2.2 : Int)))) then (
            (x12.1).bind fun b13 =>
            (str? (Heap.cell? σ b13 (x12.2.1 + i_1.toNat * 3))).bind fun x14 =>
            K (.tuple [.int .i64 i_1, .bool (x14.toList == name2.toList)]) σ)
          else none)
        else K (.tuple [.int .i64 i_1, .bool false]) σ)
      else none)
    else
    (m1).bind fun q15 =>
    (slice? (Heap.cell? σ q15.1 q15.2) 3).bind fun x16 =>
    bif (decide (i_1 < (x16.2.2 : Int))) then (
      (m1).bind fun q17 =>
      (slice? (Heap.cell? σ q17.1 q17.2) 3).bind fun x18 =>
      bif ((decide (0 ≤ i_1)) && (decide (i_1 < (x18.2.2 : Int)))) then (
        (x18.1).bind fun b19 =>
        (str? (Heap.cell? σ b19 (x18.2.1 + i_1.toNat * 3))).bind fun x20 =>
        K (.tuple [.int .i64 i_1, .bool (x20.toList == name2.toList)]) σ)
      else none)
    else K (.tuple [.int .i64 i_1, .bool false]) σ := by kernel_rfl
set_option maxRecDepth 100000 in
theorem law04_model_at_eq {R : Type} (L : Nat) (m1 : Pt) (name2 : ByteArray) (σ : Heap) (K : AVal → Heap → Option R) :
    callC T known0 L 2 46 [.ptr m1, .str name2] σ K =
    law04_model_at_L2 L L m1 name2 0 σ K := by kernel_rfl
/-! law04_model_used -/
noncomputable def law04_model_used_L3 {R : Type} (L fu0 : Nat) (n_1 : Int) (x3 : Option Nat × Nat × Nat) (x_2 : Int) (σ : Heap) (K : AVal → Heap → Option R) : Option R :=
  loopAt T known0 L 1 50 Try.f50 [1, 1, 0, 1, 0] [] fu0
    ([.undef, .undef, .undef, .int .i64 n_1] ++ List.replicate 5 .undef ++ [.slice x3.1 x3.2.1 x3.2.2 3, .int .i64 (x3.2.2 : Int), .int .i64 x_2] ++ List.replicate 10 .undef)
    (List.replicate 22 .none) σ K
set_option maxRecDepth 100000 in
theorem law04_model_used_L3_eq {R : Type} (L fu0 : Nat) (n_1 : Int) (x3 : Option Nat × Nat × Nat) (x_2 : Int) (σ : Heap) (K : AVal → Heap → Option R) :
    law04_model_used_L3 L (fu0 + 1) n_1 x3 x_2 σ K =
    bif (decide (x_2 < (x3.2.2 : Int))) then (
      bif ((decide (0 ≤ x_2)) && (decide (x_2 < (x3.2.2 : Int)))) then (
        (x3.1).bind fun b4 =>
        (str? (Heap.cell? σ b4 (x3.2.1 + x_2.toNat * 3))).bind fun _ =>
        (str? (Heap.cell? σ b4 ((x3.2.1 + x_2.toNat * 3) + 1))).bind fun x6 =>
        (int? (Heap.cell? σ b4 ((x3.2.1 + x_2.toNat * 3) + 2)) .i64).bind fun _ =>
        law04_model_used_L3 L fu0 (IntKind.i64.wrap (n_1 + (x6.size : Int))) x3 (IntKind.i64.wrap (x_2 + 1)) σ K)
      else none)
    else K (.int .i64 n_1) σ := by kernel_rfl
set_option maxRecDepth 100000 in
theorem law04_model_used_eq {R : Type} (L : Nat) (m1 : Pt) (σ : Heap) (K : AVal → Heap → Option R) :
    callC T known0 L 2 50 [.ptr m1] σ K =
    (m1).bind fun q2 =>
    (slice? (Heap.cell? σ q2.1 q2.2) 3).bind fun x3 =>
    law04_model_used_L3 L L 0 x3 0 σ K := by kernel_rfl
/-! law04_model_wrong -/
set_option maxRecDepth 100000 in
theorem law04_model_wrong_eq {R : Type} (w : C_law04_model_wrong) (L : Nat) (m1 : Pt) (c2 : law04_Call) (there3 : Bool) (σ : Heap) (K : AVal → Heap → Option R) :
    callC T (O_law04_model_wrong w) L 2 47 [.ptr m1, .agg [.int .i64 c2.Kind, .int .i64 c2.N, .str c2.Name, .str c2.To, .slice c2.Data.b c2.Data.o c2.Data.n 1], .bool there3] σ K =
    (w.law04_Call_kind c2 σ).bind fun q4 =>
    (m1).bind fun q5 =>
    (bool? (Heap.cell? q4.2 q5.1 (q5.2 + 3))).bind fun x6 =>
    bif x6 then (
      K (.int .i64 8) q4.2)
    else
    bif (decide (q4.1 < 2)) then (
      (w.law04_right c2.Name q4.2).bind fun q7 =>
      bif (!q7.1) then (
        K (.int .i64 3) q7.2)
      else
      bif (q4.1 == 3) then (
        (w.law04_right c2.To q7.2).bind fun q8 =>
        bif (!q8.1) then (
          K (.int .i64 3) q8.2)
        else
        bif (decide (q4.1 < 2)) then (
          (w.law04_model_used m1 (Heap.frz q8.2)).bind fun q9 =>
          (m1).bind fun q10 =>
          (int? (Heap.cell? (Heap.back q8.2 q9.2) q10.1 (q10.2 + 1)) .i64).bind fun x11 =>
          bif (decide ((IntKind.i64.wrap (q9.1 + (c2.Data.n : Int))) > x11)) then (
            K (.int .i64 5) (Heap.back q8.2 q9.2))
          else
          bif (decide (q4.1 ≥ 2)) then (
            bif (!there3) then (
              K (.int .i64 4) (Heap.back q8.2 q9.2))
            else
            K (.int .i64 0) (Heap.back q8.2 q9.2))
          else K (.int .i64 0) (Heap.back q8.2 q9.2))
        else
        bif (decide (q4.1 ≥ 2)) then (
          bif (!there3) then (
            K (.int .i64 4) q8.2)
          else
          K (.int .i64 0) q8.2)
        else K (.int .i64 0) q8.2)
      else
      bif (decide (q4.1 < 2)) then (
        (w.law04_model_used m1 (Heap.frz q7.2)).bind fun q12 =>
        (m1).bind fun q13 =>
        (int? (Heap.cell? (Heap.back q7.2 q12.2) q13.1 (q13.2 + 1)) .i64).bind fun x14 =>
        bif (decide ((IntKind.i64.wrap (q12.1 + (c2.Data.n : Int))) > x14)) then (
          K (.int .i64 5) (Heap.back q7.2 q12.2))
        else
        bif (decide (q4.1 ≥ 2)) then (
          bif (!there3) then (
            K (.int .i64 4) (Heap.back q7.2 q12.2))
          else
          K (.int .i64 0) (Heap.back q7.2 q12.2))
        else K (.int .i64 0) (Heap.back q7.2 q12.2))
      else
      bif (decide (q4.1 ≥ 2)) then (
        bif (!there3) then (
          K (.int .i64 4) q7.2)
        else
        K (.int .i64 0) q7.2)
      else K (.int .i64 0) q7.2)
    else
    bif (q4.1 == 3) then (
      (w.law04_right c2.To q4.2).bind fun q15 =>
      bif (!q15.1) then (
        K (.int .i64 3) q15.2)
      else
      bif (decide (q4.1 < 2)) then (
        (w.law04_model_used m1 (Heap.frz q15.2)).bind fun q16 =>
        (m1).bind fun q17 =>
        (int? (Heap.cell? (Heap.back q15.2 q16.2) q17.1 (q17.2 + 1)) .i64).bind fun x18 =>
        bif (decide ((IntKind.i64.wrap (q16.1 + (c2.Data.n : Int))) > x18)) then (
          K (.int .i64 5) (Heap.back q15.2 q16.2))
        else
        bif (decide (q4.1 ≥ 2)) then (
          bif (!there3) then (
            K (.int .i64 4) (Heap.back q15.2 q16.2))
          else
          K (.int .i64 0) (Heap.back q15.2 q16.2))
        else K (.int .i64 0) (Heap.back q15.2 q16.2))
      else
      bif (decide (q4.1 ≥ 2)) then (
        bif (!there3) then (
          K (.int .i64 4) q15.2)
        else
        K (.int .i64 0) q15.2)
      else K (.int .i64 0) q15.2)
    else
    bif (decide (q4.1 < 2)) then (
      (w.law04_model_used m1 (Heap.frz q4.2)).bind fun q19 =>
      (m1).bind fun q20 =>
      (int? (Heap.cell? (Heap.back q4.2 q19.2) q20.1 (q20.2 + 1)) .i64).bind fun x21 =>
      bif (decide ((IntKind.i64.wrap (q19.1 + (c2.Data.n : Int))) > x21)) then (
        K (.int .i64 5) (Heap.back q4.2 q19.2))
      else
      bif (decide (q4.1 ≥ 2)) then (
        bif (!there3) then (
          K (.int .i64 4) (Heap.back q4.2 q19.2))
        else
        K (.int .i64 0) (Heap.back q4.2 q19.2))
      else K (.int .i64 0) (Heap.back q4.2 q19.2))
    else
    bif (decide (q4.1 ≥ 2)) then (
      bif (!there3) then (
        K (.int .i64 4) q4.2)
      else
      K (.int .i64 0) q4.2)
    else K (.int .i64 0) q4.2 := by kernel_rfl
/-! law04_model_drop -/
set_option maxRecDepth 100000 in
theorem law04_model_drop_eq {R : Type} (L : Nat) (m1 : Pt) (i2 : Int) (σ : Heap) (K : AVal → Heap → Option R) :
    callC T known0 L 2 48 [.ptr m1, .int .i64 i2] σ K =
    (m1).bind fun q3 =>
    (slice? (Heap.cell? σ q3.1 q3.2) 3).bind fun x4 =>
    bif ((decide (0 ≤ i2)) && (decide (i2 ≤ (x4.2.2 : Int)))) then (
      (Heap.read (Heap.frz σ) x4.1 x4.2.1 i2.toNat 3).bind fun vs5 =>
      (Heap.append (Heap.frz σ) none 0 0 3 40 vs5 i2.toNat).bind fun q6 =>
      (m1).bind fun q7 =>
      (slice? (Heap.cell? (Heap.back σ q6.2) q7.1 q7.2) 3).bind fun x8 =>
      bif (((decide (0 ≤ (IntKind.i64.wrap (i2 + 1)))) && (decide ((IntKind.i64.wrap (i2 + 1)) ≤ (x8.2.2 : Int)))) && (decide ((x8.2.2 : Int) ≤ (x8.2.2 : Int)))) then (
        (Heap.read (Heap.back σ q6.2) x8.1 (x8.2.1 + ((IntKind.i64.wrap (i2 + 1)).toNat) * 3) (x8.2.2 - (IntKind.i64.wrap (i2 + 1)).toNat) 3).bind fun vs9 =>
        (Heap.append (Heap.back σ q6.2) q6.1.1 q6.1.2.1 q6.1.2.2 3 40 vs9 (x8.2.2 - (IntKind.i64.wrap (i2 + 1)).toNat)).bind fun q10 =>
        (m1).bind fun q11 =>
        (Heap.store q10.2 q11.1 q11.2 [.slice q10.1.1 q10.1.2.1 q10.1.2.2 3]).bind fun σ12 =>
        K (.tuple []) σ12)
      else none)
    else none := by kernel_rfl
/-! law04_model_put -/
set_option maxRecDepth 100000 in
theorem law04_model_put_eq {R : Type} (L : Nat) (m1 : Pt) (i2 : Int) (f3 : law04_one) (σ : Heap) (K : AVal → Heap → Option R) :
    callC T known0 L 2 49 [.ptr m1, .int .i64 i2, .agg [.str f3.name, .str f3.data, .int .i64 f3.sure]] σ K =
    (m1).bind fun q4 =>
    (slice? (Heap.cell? σ q4.1 q4.2) 3).bind fun x5 =>
    bif ((decide (0 ≤ i2)) && (decide (i2 ≤ (x5.2.2 : Int)))) then (
      (Heap.read (Heap.frz σ) x5.1 x5.2.1 i2.toNat 3).bind fun vs6 =>
      (Heap.append (Heap.frz σ) none 0 0 3 40 vs6 i2.toNat).bind fun q7 =>
      (Heap.append (Heap.back (Heap.back σ q7.2) (Heap.frz (Heap.back σ q7.2))) q7.1.1 q7.1.2.1 q7.1.2.2 3 40 [.str f3.name, .str f3.data, .int .i64 f3.sure] 1).bind fun q8 =>
      (keep? (Heap.back (Heap.back σ q7.2) (Heap.frz (Heap.back σ q7.2))) q8.2).bind fun _ =>
      (m1).bind fun q10 =>
      (slice? (Heap.cell? q8.2 q10.1 q10.2) 3).bind fun x11 =>
      bif (((decide (0 ≤ i2)) && (decide (i2 ≤ (x11.2.2 : Int)))) && (decide ((x11.2.2 : Int) ≤ (x11.2.2 : Int)))) then (
        (Heap.read q8.2 x11.1 (x11.2.1 + i2.toNat * 3) (x11.2.2 - i2.toNat) 3).bind fun vs12 =>
        (Heap.append q8.2 q8.1.1 q8.1.2.1 q8.1.2.2 3 40 vs12 (x11.2.2 - i2.toNat)).bind fun q13 =>
        (m1).bind fun q14 =>
        (Heap.store q13.2 q14.1 q14.2 [.slice q13.1.1 q13.1.2.1 q13.1.2.2 3]).bind fun σ15 =>
        K (.tuple []) σ15)
      else none)
    else none := by kernel_rfl
/-! law04_model_do -/
set_option maxRecDepth 100000 in
theorem law04_model_do_eq {R : Type} (w : C_law04_model_do) (L : Nat) (m1 : Pt) (c2 : law04_Call) (σ : Heap) (K : AVal → Heap → Option R) :
    callC T (O_law04_model_do w) L 2 26 [.ptr m1, .agg [.int .i64 c2.Kind, .int .i64 c2.N, .str c2.Name, .str c2.To, .slice c2.Data.b c2.Data.o c2.Data.n 1]] σ K =
    (w.law04_Call_kind c2 σ).bind fun q3 =>
    bif (q3.1 == 6) then (
      (m1).bind fun q4 =>
      (Heap.store q3.2 q4.1 (q4.2 + 2) [.int .i64 (if (-1) > c2.N then (-1) else c2.N)]).bind fun σ5 =>
      K (.int .i64 0) σ5)
    else
    bif (q3.1 == 7) then (
      (w.law04_Call_keeps c2 q3.2).bind fun q6 =>
      (w.law04_model_crash m1 q6.1 q6.2).bind fun q7 =>
      K (.int .i64 0) q7.2)
    else
    (w.law04_model_at m1 c2.Name q3.2).bind fun q8 =>
    (w.law04_model_wrong m1 c2 q8.1.2 q8.2).bind fun q9 =>
    bif (q9.1 != 0) then (
      K (.int .i64 q9.1) q9.2)
    else
    (m1).bind fun q10 =>
    (int? (Heap.cell? q9.2 q10.1 (q10.2 + 2)) .i64).bind fun x11 =>
    bif (x11 == 0) then (
      (m1).bind fun q12 =>
      (Heap.store q9.2 q12.1 (q12.2 + 3) [.bool true]).bind fun σ13 =>
      K (.int .i64 8) σ13)
    else
    (m1).bind fun q14 =>
    (int? (Heap.cell? q9.2 q14.1 (q14.2 + 2)) .i64).bind fun x15 =>
    bif (decide (x15 > 0)) then (
      (m1).bind fun q16 =>
      (int? (Heap.cell? q9.2 q16.1 (q16.2 + 2)) .i64).bind fun x17 =>
      (m1).bind fun q18 =>
      (Heap.store q9.2 q18.1 (q18.2 + 2) [.int .i64 (IntKind.i64.wrap (x17 - 1))]).bind fun σ19 =>
      bif (q3.1 == 2) then (
        (m1).bind fun q20 =>
        (slice? (Heap.cell? σ19 q20.1 q20.2) 3).bind fun x21 =>
        (m1).bind fun q22 =>
        (slice? (Heap.cell? σ19 q22.1 q22.2) 3).bind fun x23 =>
        bif ((decide (0 ≤ q8.1.1)) && (decide (q8.1.1 < (x23.2.2 : Int)))) then (
          (x23.1).bind fun b24 =>
          (str? (Heap.cell? σ19 b24 ((x23.2.1 + q8.1.1.toNat * 3) + 1))).bind fun x25 =>
          bif ((decide (0 ≤ q8.1.1)) && (decide (q8.1.1 < (x21.2.2 : Int)))) then (
            (x21.1).bind fun b26 =>
            (Heap.store σ19 b26 ((x21.2.1 + q8.1.1.toNat * 3) + 2) [.int .i64 (x25.size : Int)]).bind fun σ27 =>
            K (.int .i64 0) σ27)
          else none)
        else none)
      else
      bif (q3.1 == 3) then (
        (m1).bind fun q28 =>
        (slice? (Heap.cell? σ19 q28.1 q28.2) 3).bind fun x29 =>
        bif ((decide (0 ≤ q8.1.1)) && (decide (q8.1.1 < (x29.2.2 : Int)))) then (
          (x29.1).bind fun b30 =>
          (str? (Heap.cell? σ19 b30 (x29.2.1 + q8.1.1.toNat * 3))).bind fun _ =>
          (str? (Heap.cell? σ19 b30 ((x29.2.1 + q8.1.1.toNat * 3) + 1))).bind fun x32 =>
          (int? (Heap.cell? σ19 b30 ((x29.2.1 + q8.1.1.toNat * 3) + 2)) .i64).bind fun x33 =>
          (w.law04_model_drop m1 q8.1.1 σ19).bind fun q34 =>
          (w.law04_model_at m1 c2.To q34.2).bind fun q35 =>
          bif q35.1.2 then (
            (w.law04_model_drop m1 q35.1.1 q35.2).bind fun q36 =>
            (w.law04_model_put m1 q35.1.1 ⟨c2.To, x32, x33⟩ q36.2).bind fun q37 =>
            K (.int .i64 0) q37.2)
          else
          (w.law04_model_put m1 q35.1.1 ⟨c2.To, x32, x33⟩ q35.2).bind fun q38 =>
          K (.int .i64 0) q38.2)
        else none)
      else
      bif (q3.1 == 4) then (
        (w.law04_model_drop m1 q8.1.1 σ19).bind fun q39 =>
        K (.int .i64 0) q39.2)
      else
      bif (q3.1 == 5) then (
        (m1).bind fun q40 =>
        (slice? (Heap.cell? σ19 q40.1 q40.2) 3).bind fun x41 =>
        bif ((decide (0 ≤ q8.1.1)) && (decide (q8.1.1 < (x41.2.2 : Int)))) then (
          (x41.1).bind fun b42 =>
          (str? (Heap.cell? σ19 b42 ((x41.2.1 + q8.1.1.toNat * 3) + 1))).bind fun x43 =>
          (m1).bind fun q44 =>
          (slice? (Heap.cell? σ19 q44.1 q44.2) 3).bind fun x45 =>
          (m1).bind fun q46 =>
          (slice? (Heap.cell? σ19 q46.1 q46.2) 3).bind fun x47 =>
          (m1).bind fun q48 =>
          (slice? (Heap.cell? σ19 q48.1 q48.2) 3).bind fun x49 =>
          bif ((decide (0 ≤ q8.1.1)) && (decide (q8.1.1 < (x49.2.2 : Int)))) then (
            (x49.1).bind fun b50 =>
            (str? (Heap.cell? σ19 b50 ((x49.2.1 + q8.1.1.toNat * 3) + 1))).bind fun x51 =>
            bif ((decide (0 ≤ (if (x43.size : Int) < (if 0 > c2.N then 0 else c2.N) then (x43.size : Int) else (if 0 > c2.N then 0 else c2.N)))) && (decide ((if (x43.size : Int) < (if 0 > c2.N then 0 else c2.N) then (x43.size : Int) else (if 0 > c2.N then 0 else c2.N)) ≤ (x51.size : Int)))) then (
              (m1).bind fun q52 =>
              (slice? (Heap.cell? σ19 q52.1 q52.2) 3).bind fun x53 =>
              bif ((decide (0 ≤ q8.1.1)) && (decide (q8.1.1 < (x53.2.2 : Int)))) then (
                (x53.1).bind fun b54 =>
                (int? (Heap.cell? σ19 b54 ((x53.2.1 + q8.1.1.toNat * 3) + 2)) .i64).bind fun x55 =>
                bif ((decide (0 ≤ q8.1.1)) && (decide (q8.1.1 < (x45.2.2 : Int)))) then (
                  (x45.1).bind fun b56 =>
                  (Heap.store σ19 b56 ((x45.2.1 + q8.1.1.toNat * 3) + 1) [.str (x51.extract 0 (if (x43.size : Int) < (if 0 > c2.N then 0 else c2.N) then (x43.size : Int) else (if 0 > c2.N then 0 else c2.N)).toNat)]).bind fun σ57 =>
                  bif ((decide (0 ≤ q8.1.1)) && (decide (q8.1.1 < (x47.2.2 : Int)))) then (
                    (x47.1).bind fun b58 =>
                    (Heap.store σ57 b58 ((x47.2.1 + q8.1.1.toNat * 3) + 2) [.int .i64 (if (if (x43.size : Int) < (if 0 > c2.N then 0 else c2.N) then (x43.size : Int) else (if 0 > c2.N then 0 else c2.N)) < x55 then (if (x43.size : Int) < (if 0 > c2.N then 0 else c2.N) then (x43.size : Int) else (if 0 > c2.N then 0 else c2.N)) else x55)]).bind fun σ59 =>
                    K (.int .i64 0) σ59)
                  else none)
                else none)
              else none)
            else none)
          else none)
        else none)
      else
      bif (!q8.1.2) then (
        (w.law04_model_put m1 q8.1.1 ⟨c2.Name, (⟨#[]⟩ : ByteArray), 0⟩ σ19).bind fun q60 =>
        (m1).bind fun q61 =>
        (slice? (Heap.cell? q60.2 q61.1 q61.2) 3).bind fun x62 =>
        bif ((decide (0 ≤ q8.1.1)) && (decide (q8.1.1 < (x62.2.2 : Int)))) then (
          (x62.1).bind fun b63 =>
          (str? (Heap.cell? q60.2 b63 ((x62.2.1 + q8.1.1.toNat * 3) + 1))).bind fun x64 =>
          (Heap.read q60.2 c2.Data.b c2.Data.o c2.Data.n 1).bind fun cs65 =>
          (bytesOf cs65).bind fun bs66 =>
          if x64.size + (⟨bs66.toArray⟩ : ByteArray).size ≤ 9223372036854775807 then (
            bif ((decide (0 ≤ q8.1.1)) && (decide (q8.1.1 < (x62.2.2 : Int)))) then (
              (x62.1).bind fun b67 =>
              (Heap.store q60.2 b67 ((x62.2.1 + q8.1.1.toNat * 3) + 1) [.str (x64 ++ (⟨bs66.toArray⟩ : ByteArray))]).bind fun σ68 =>
              K (.int .i64 0) σ68)
            else none)
          else (
            none))
        else none)
      else
      (m1).bind fun q69 =>
      (slice? (Heap.cell? σ19 q69.1 q69.2) 3).bind fun x70 =>
      bif ((decide (0 ≤ q8.1.1)) && (decide (q8.1.1 < (x70.2.2 : Int)))) then (
        (x70.1).bind fun b71 =>
        (str? (Heap.cell? σ19 b71 ((x70.2.1 + q8.1.1.toNat * 3) + 1))).bind fun x72 =>
        (Heap.read σ19 c2.Data.b c2.Data.o c2.Data.n 1).bind fun cs73 =>
        (bytesOf cs73).bind fun bs74 =>
        if x72.size + (⟨bs74.toArray⟩ : ByteArray).size ≤ 9223372036854775807 then (
          bif ((decide (0 ≤ q8.1.1)) && (decide (q8.1.1 < (x70.2.2 : Int)))) then (
            (x70.1).bind fun b75 =>
            (Heap.store σ19 b75 ((x70.2.1 + q8.1.1.toNat * 3) + 1) [.str (x72 ++ (⟨bs74.toArray⟩ : ByteArray))]).bind fun σ76 =>
            K (.int .i64 0) σ76)
          else none)
        else (
          none))
      else none)
    else
    bif (q3.1 == 2) then (
      (m1).bind fun q77 =>
      (slice? (Heap.cell? q9.2 q77.1 q77.2) 3).bind fun x78 =>
      (m1).bind fun q79 =>
      (slice? (Heap.cell? q9.2 q79.1 q79.2) 3).bind fun x80 =>
      bif ((decide (0 ≤ q8.1.1)) && (decide (q8.1.1 < (x80.2.2 : Int)))) then (
        (x80.1).bind fun b81 =>
        (str? (Heap.cell? q9.2 b81 ((x80.2.1 + q8.1.1.toNat * 3) + 1))).bind fun x82 =>
        bif ((decide (0 ≤ q8.1.1)) && (decide (q8.1.1 < (x78.2.2 : Int)))) then (
          (x78.1).bind fun b83 =>
          (Heap.store q9.2 b83 ((x78.2.1 + q8.1.1.toNat * 3) + 2) [.int .i64 (x82.size : Int)]).bind fun σ84 =>
          K (.int .i64 0) σ84)
        else none)
      else none)
    else
    bif (q3.1 == 3) then (
      (m1).bind fun q85 =>
      (slice? (Heap.cell? q9.2 q85.1 q85.2) 3).bind fun x86 =>
      bif ((decide (0 ≤ q8.1.1)) && (decide (q8.1.1 < (x86.2.2 : Int)))) then (
        (x86.1).bind fun b87 =>
        (str? (Heap.cell? q9.2 b87 (x86.2.1 + q8.1.1.toNat * 3))).bind fun _ =>
        (str? (Heap.cell? q9.2 b87 ((x86.2.1 + q8.1.1.toNat * 3) + 1))).bind fun x89 =>
        (int? (Heap.cell? q9.2 b87 ((x86.2.1 + q8.1.1.toNat * 3) + 2)) .i64).bind fun x90 =>
        (w.law04_model_drop m1 q8.1.1 q9.2).bind fun q91 =>
        (w.law04_model_at m1 c2.To q91.2).bind fun q92 =>
        bif q92.1.2 then (
          (w.law04_model_drop m1 q92.1.1 q92.2).bind fun q93 =>
          (w.law04_model_put m1 q92.1.1 ⟨c2.To, x89, x90⟩ q93.2).bind fun q94 =>
          K (.int .i64 0) q94.2)
        else
        (w.law04_model_put m1 q92.1.1 ⟨c2.To, x89, x90⟩ q92.2).bind fun q95 =>
        K (.int .i64 0) q95.2)
      else none)
    else
    bif (q3.1 == 4) then (
      (w.law04_model_drop m1 q8.1.1 q9.2).bind fun q96 =>
      K (.int .i64 0) q96.2)
    else
    bif (q3.1 == 5) then (
      (m1).bind fun q97 =>
      (slice? (Heap.cell? q9.2 q97.1 q97.2) 3).bind fun x98 =>
      bif ((decide (0 ≤ q8.1.1)) && (decide (q8.1.1 < (x98.2.2 : Int)))) then (
        (x98.1).bind fun b99 =>
        (str? (Heap.cell? q9.2 b99 ((x98.2.1 + q8.1.1.toNat * 3) + 1))).bind fun x100 =>
        (m1).bind fun q101 =>
        (slice? (Heap.cell? q9.2 q101.1 q101.2) 3).bind fun x102 =>
        (m1).bind fun q103 =>
        (slice? (Heap.cell? q9.2 q103.1 q103.2) 3).bind fun x104 =>
        (m1).bind fun q105 =>
        (slice? (Heap.cell? q9.2 q105.1 q105.2) 3).bind fun x106 =>
        bif ((decide (0 ≤ q8.1.1)) && (decide (q8.1.1 < (x106.2.2 : Int)))) then (
          (x106.1).bind fun b107 =>
          (str? (Heap.cell? q9.2 b107 ((x106.2.1 + q8.1.1.toNat * 3) + 1))).bind fun x108 =>
          bif ((decide (0 ≤ (if (x100.size : Int) < (if 0 > c2.N then 0 else c2.N) then (x100.size : Int) else (if 0 > c2.N then 0 else c2.N)))) && (decide ((if (x100.size : Int) < (if 0 > c2.N then 0 else c2.N) then (x100.size : Int) else (if 0 > c2.N then 0 else c2.N)) ≤ (x108.size : Int)))) then (
            (m1).bind fun q109 =>
            (slice? (Heap.cell? q9.2 q109.1 q109.2) 3).bind fun x110 =>
            bif ((decide (0 ≤ q8.1.1)) && (decide (q8.1.1 < (x110.2.2 : Int)))) then (
              (x110.1).bind fun b111 =>
              (int? (Heap.cell? q9.2 b111 ((x110.2.1 + q8.1.1.toNat * 3) + 2)) .i64).bind fun x112 =>
              bif ((decide (0 ≤ q8.1.1)) && (decide (q8.1.1 < (x102.2.2 : Int)))) then (
                (x102.1).bind fun b113 =>
                (Heap.store q9.2 b113 ((x102.2.1 + q8.1.1.toNat * 3) + 1) [.str (x108.extract 0 (if (x100.size : Int) < (if 0 > c2.N then 0 else c2.N) then (x100.size : Int) else (if 0 > c2.N then 0 else c2.N)).toNat)]).bind fun σ114 =>
                bif ((decide (0 ≤ q8.1.1)) && (decide (q8.1.1 < (x104.2.2 : Int)))) then (
                  (x104.1).bind fun b115 =>
                  (Heap.store σ114 b115 ((x104.2.1 + q8.1.1.toNat * 3) + 2) [.int .i64 (if (if (x100.size : Int) < (if 0 > c2.N then 0 else c2.N) then (x100.size : Int) else (if 0 > c2.N then 0 else c2.N)) < x112 then (if (x100.size : Int) < (if 0 > c2.N then 0 else c2.N) then (x100.size : Int) else (if 0 > c2.N then 0 else c2.N)) else x112)]).bind fun σ116 =>
                  K (.int .i64 0) σ116)
                else none)
              else none)
            else none)
          else none)
        else none)
      else none)
    else
    bif (!q8.1.2) then (
      (w.law04_model_put m1 q8.1.1 ⟨c2.Name, (⟨#[]⟩ : ByteArray), 0⟩ q9.2).bind fun q117 =>
      (m1).bind fun q118 =>
      (slice? (Heap.cell? q117.2 q118.1 q118.2) 3).bind fun x119 =>
      bif ((decide (0 ≤ q8.1.1)) && (decide (q8.1.1 < (x119.2.2 : Int)))) then (
        (x119.1).bind fun b120 =>
        (str? (Heap.cell? q117.2 b120 ((x119.2.1 + q8.1.1.toNat * 3) + 1))).bind fun x121 =>
        (Heap.read q117.2 c2.Data.b c2.Data.o c2.Data.n 1).bind fun cs122 =>
        (bytesOf cs122).bind fun bs123 =>
        if x121.size + (⟨bs123.toArray⟩ : ByteArray).size ≤ 9223372036854775807 then (
          bif ((decide (0 ≤ q8.1.1)) && (decide (q8.1.1 < (x119.2.2 : Int)))) then (
            (x119.1).bind fun b124 =>
            (Heap.store q117.2 b124 ((x119.2.1 + q8.1.1.toNat * 3) + 1) [.str (x121 ++ (⟨bs123.toArray⟩ : ByteArray))]).bind fun σ125 =>
            K (.int .i64 0) σ125)
          else none)
        else (
          none))
      else none)
    else
    (m1).bind fun q126 =>
    (slice? (Heap.cell? q9.2 q126.1 q126.2) 3).bind fun x127 =>
    bif ((decide (0 ≤ q8.1.1)) && (decide (q8.1.1 < (x127.2.2 : Int)))) then (
      (x127.1).bind fun b128 =>
      (str? (Heap.cell? q9.2 b128 ((x127.2.1 + q8.1.1.toNat * 3) + 1))).bind fun x129 =>
      (Heap.read q9.2 c2.Data.b c2.Data.o c2.Data.n 1).bind fun cs130 =>
      (bytesOf cs130).bind fun bs131 =>
      if x129.size + (⟨bs131.toArray⟩ : ByteArray).size ≤ 9223372036854775807 then (
        bif ((decide (0 ≤ q8.1.1)) && (decide (q8.1.1 < (x127.2.2 : Int)))) then (
          (x127.1).bind fun b132 =>
          (Heap.store q9.2 b132 ((x127.2.1 + q8.1.1.toNat * 3) + 1) [.str (x129 ++ (⟨bs131.toArray⟩ : ByteArray))]).bind fun σ133 =>
          K (.int .i64 0) σ133)
        else none)
      else (
        none))
    else none := by kernel_rfl
/-! file_Store_Sure -/
set_option maxRecDepth 100000 in
theorem file_Store_Sure_eq {R : Type} (L : Nat) (s1 : Pt) (name2 : ByteArray) (σ : Heap) (K : AVal → Heap → Option R) :
    callC T known0 L 2 28 [.ptr s1, .str name2] σ K =
    (s1).bind fun q3 =>
    (map? (Heap.cell? σ q3.1 q3.2)).bind fun x4 =>
    (Heap.look σ x4 (.str name2) (.ptr none)).bind fun v5 =>
    (ptr? (some v5)).bind fun x6 =>
    bif (!(Option.isNone x6)) then (
      (x6).bind fun q7 =>
      (int? (Heap.cell? σ q7.1 (q7.2 + 1)) .i64).bind fun x8 =>
      K (.int .i64 x8) σ)
    else K (.int .i64 0) σ := by kernel_rfl
end Go.Abs.TC
