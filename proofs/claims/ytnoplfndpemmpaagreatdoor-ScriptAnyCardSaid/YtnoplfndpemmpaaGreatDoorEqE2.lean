/-
Lifted functions: what the machine does, one equation for each entry and each loop (printed by lift.py).
-/
import Derived.Test.YtnoplfndpemmpaaGreatDoorSigE
namespace Go.Abs.TE
open Go Go.Abs Go.Proofs
/-! law25_Tame -/
noncomputable def law25_Tame_L3 {R : Type} (L fu0 : Nat) (out_1 : Sl) (l1 : Sl) (x_2 : Int) (σ : Heap) (K : AVal → Heap → Option R) : Option R :=
  loopAt T known0 L 1 8 Tryz.f8 [1, 1, 0, 1, 0] [] fu0
    ([.undef, .undef, .undef, .slice out_1.b out_1.o out_1.n 7, .undef, .undef, .slice l1.b l1.o l1.n 7, .int .i64 (l1.n : Int), .int .i64 x_2] ++ List.replicate 42 .undef)
    (List.replicate 51 .none) σ K
set_option maxRecDepth 100000 in
theorem law25_Tame_L3_eq {R : Type} (L fu0 : Nat) (out_1 : Sl) (l1 : Sl) (x_2 : Int) (σ : Heap) (K : AVal → Heap → Option R) :
    law25_Tame_L3 L (fu0 + 1) out_1 l1 x_2 σ K =
    bif (decide (x_2 < (l1.n : Int))) then (
      bif ((decide (0 ≤ x_2)) && (decide (x_2 < (l1.n : Int)))) then (
        (l1.b).bind fun b2 =>
        (int? (Heap.cell? σ b2 (l1.o + x_2.toNat * 7)) .i64).bind fun x3 =>
        (int? (Heap.cell? σ b2 ((l1.o + x_2.toNat * 7) + 1)) .i64).bind fun x4 =>
        (int? (Heap.cell? σ b2 ((l1.o + x_2.toNat * 7) + 2)) .i64).bind fun x5 =>
        (int? (Heap.cell? σ b2 ((l1.o + x_2.toNat * 7) + 3)) .i64).bind fun x6 =>
        (int? (Heap.cell? σ b2 ((l1.o + x_2.toNat * 7) + 4)) .i64).bind fun x7 =>
        (int? (Heap.cell? σ b2 ((l1.o + x_2.toNat * 7) + 5)) .i64).bind fun x8 =>
        (str? (Heap.cell? σ b2 ((l1.o + x_2.toNat * 7) + 6))).bind fun x9 =>
        bif ((decide (0 ≤ (if 401 < (x9.size : Int) then 401 else (x9.size : Int)))) && (decide ((if 401 < (x9.size : Int) then 401 else (x9.size : Int)) ≤ (x9.size : Int)))) then (
          (Heap.append σ out_1.b out_1.o out_1.n 7 64 [.int .i64 (Int.tmod (IntKind.i64.wrap (BitVec.ofInt IntKind.i64.bits x3 &&& BitVec.ofInt IntKind.i64.bits 65535).toNat) 9), .int .i64 (IntKind.i64.wrap (BitVec.ofInt IntKind.i64.bits x4 &&& BitVec.ofInt IntKind.i64.bits 1023).toNat), .int .i64 (IntKind.i64.wrap (BitVec.ofInt IntKind.i64.bits x5 &&& BitVec.ofInt IntKind.i64.bits 1023).toNat), .int .i64 (IntKind.i64.wrap (BitVec.ofInt IntKind.i64.bits x6 &&& BitVec.ofInt IntKind.i64.bits 9223372036854775807).toNat), .int .i64 (IntKind.i64.wrap (BitVec.ofInt IntKind.i64.bits x7 &&& BitVec.ofInt IntKind.i64.bits 1023).toNat), .int .i64 (IntKind.i64.wrap (BitVec.ofInt IntKind.i64.bits x8 &&& BitVec.ofInt IntKind.i64.bits 1023).toNat), .str (x9.extract 0 (if 401 < (x9.size : Int) then 401 else (x9.size : Int)).toNat)] 1).bind fun q10 =>
          law25_Tame_L3 L fu0 ⟨q10.1.1, q10.1.2.1, q10.1.2.2⟩ l1 (IntKind.i64.wrap (x_2 + 1)) q10.2 K)
        else none)
      else none)
    else K (.slice out_1.b out_1.o out_1.n 7) σ := by kernel_rfl
set_option maxRecDepth 100000 in
theorem law25_Tame_eq {R : Type} (L : Nat) (l1 : Sl) (σ : Heap) (K : AVal → Heap → Option R) :
    callC T known0 L 2 8 [.slice l1.b l1.o l1.n 7] σ K =
    law25_Tame_L3 L L ⟨none, 0, 0⟩ l1 0 σ K := by kernel_rfl
/-! script_Encode -/
noncomputable def script_Encode_L3 {R : Type} (w : C_script_Encode) (L fu0 : Nat) (b_1 : Sl) (l1 : Sl) (x_2 : Int) (σ : Heap) (K : AVal → Heap → Option R) : Option R :=
  loopAt T (O_script_Encode w) L 1 9 Tryz.f9 [1, 1, 0, 1, 0] [] fu0
    ([.undef, .undef, .undef, .slice b_1.b b_1.o b_1.n 1, .undef, .undef, .slice l1.b l1.o l1.n 7, .int .i64 (l1.n : Int), .int .i64 x_2] ++ List.replicate 30 .undef)
    (List.replicate 39 .none) σ K
set_option maxRecDepth 100000 in
theorem script_Encode_L3_eq {R : Type} (w : C_script_Encode) (L fu0 : Nat) (b_1 : Sl) (l1 : Sl) (x_2 : Int) (σ : Heap) (K : AVal → Heap → Option R) :
    script_Encode_L3 w L (fu0 + 1) b_1 l1 x_2 σ K =
    bif (decide (x_2 < (l1.n : Int))) then (
      bif ((decide (0 ≤ x_2)) && (decide (x_2 < (l1.n : Int)))) then (
        (l1.b).bind fun b2 =>
        (int? (Heap.cell? σ b2 (l1.o + x_2.toNat * 7)) .i64).bind fun x3 =>
        (int? (Heap.cell? σ b2 ((l1.o + x_2.toNat * 7) + 1)) .i64).bind fun x4 =>
        (int? (Heap.cell? σ b2 ((l1.o + x_2.toNat * 7) + 2)) .i64).bind fun x5 =>
        (int? (Heap.cell? σ b2 ((l1.o + x_2.toNat * 7) + 3)) .i64).bind fun x6 =>
        (int? (Heap.cell? σ b2 ((l1.o + x_2.toNat * 7) + 4)) .i64).bind fun x7 =>
        (int? (Heap.cell? σ b2 ((l1.o + x_2.toNat * 7) + 5)) .i64).bind fun x8 =>
        (str? (Heap.cell? σ b2 ((l1.o + x_2.toNat * 7) + 6))).bind fun x9 =>
        alloc σ [.int .u64 (IntKind.u64.wrap x3), .int .u64 (IntKind.u64.wrap x4), .int .u64 (IntKind.u64.wrap x5), .int .u64 (IntKind.u64.wrap x6), .int .u64 (IntKind.u64.wrap x7), .int .u64 (IntKind.u64.wrap x8)] fun b10 σ11 =>
        (w.vary_Put b_1 ⟨(some b10), 0, 6⟩ σ11).bind fun q12 =>
        (w.vary_PutText q12.1 x9 q12.2).bind fun q13 =>
        script_Encode_L3 w L fu0 q13.1 l1 (IntKind.i64.wrap (x_2 + 1)) q13.2 K)
      else none)
    else K (.slice b_1.b b_1.o b_1.n 1) σ := by kernel_rfl
set_option maxRecDepth 100000 in
theorem script_Encode_eq {R : Type} (w : C_script_Encode) (L : Nat) (l1 : Sl) (σ : Heap) (K : AVal → Heap → Option R) :
    callC T (O_script_Encode w) L 2 9 [.slice l1.b l1.o l1.n 7] σ K =
    script_Encode_L3 w L L ⟨none, 0, 0⟩ l1 0 σ K := by kernel_rfl
/-! law25_same -/
noncomputable def law25_same_L4 {R : Type} (L fu0 : Nat) (a1 : Sl) (b2 : Sl) (x_1 : Int) (σ : Heap) (K : AVal → Heap → Option R) : Option R :=
  loopAt T known0 L 1 10 Tryz.f10 [1, 1, 0, 1, 0] [] fu0
    ([.slice a1.b a1.o a1.n 7, .slice b2.b b2.o b2.n 7] ++ List.replicate 10 .undef ++ [.int .i64 (a1.n : Int), .int .i64 x_1] ++ List.replicate 12 .undef)
    (List.replicate 26 .none) σ K
set_option maxRecDepth 100000 in
theorem law25_same_L4_eq {R : Type} (L fu0 : Nat) (a1 : Sl) (b2 : Sl) (x_1 : Int) (σ : Heap) (K : AVal → Heap → Option R) :
    law25_same_L4 L (fu0 + 1) a1 b2 x_1 σ K =
    bif (decide (x_1 < (a1.n : Int))) then (
      bif ((decide (0 ≤ x_1)) && (decide (x_1 < (a1.n : Int)))) then (
        (a1.b).bind fun b3 =>
        (int? (Heap.cell? σ b3 (a1.o + x_1.toNat * 7)) .i64).bind fun x4 =>
        (int? (Heap.cell? σ b3 ((a1.o + x_1.toNat * 7) + 1)) .i64).bind fun x5 =>
        (int? (Heap.cell? σ b3 ((a1.o + x_1.toNat * 7) + 2)) .i64).bind fun x6 =>
        (int? (Heap.cell? σ b3 ((a1.o + x_1.toNat * 7) + 3)) .i64).bind fun x7 =>
        (int? (Heap.cell? σ b3 ((a1.o + x_1.toNat * 7) + 4)) .i64).bind fun x8 =>
        (int? (Heap.cell? σ b3 ((a1.o + x_1.toNat * 7) + 5)) .i64).bind fun x9 =>
        (str? (Heap.cell? σ b3 ((a1.o + x_1.toNat * 7) + 6))).bind fun x10 =>
        bif ((decide (0 ≤ x_1)) && (decide (x_1 < (b2.n : Int)))) then (
          (b2.b).bind fun b11 =>
          (int? (Heap.cell? σ b11 (b2.o + x_1.toNat * 7)) .i64).bind fun x12 =>
          (int? (Heap.cell? σ b11 ((b2.o + x_1.toNat * 7) + 1)) .i64).bind fun x13 =>
          (int? (Heap.cell? σ b11 ((b2.o + x_1.toNat * 7) + 2)) .i64).bind fun x14 =>
          (int? (Heap.cell? σ b11 ((b2.o + x_1.toNat * 7) + 3)) .i64).bind fun x15 =>
          (int? (Heap.cell? σ b11 ((b2.o + x_1.toNat * 7) + 4)) .i64).bind fun x16 =>
          (int? (Heap.cell? σ b11 ((b2.o + x_1.toNat * 7) + 5)) .i64).bind fun x17 =>
          (str? (Heap.cell? σ b11 ((b2.o + x_1.toNat * 7) + 6))).bind fun x18 =>
          bif (!(((x4 : Int) == x12) && (((x5 : Int) == x13) && (((x6 : Int) == x14) && (((x7 : Int) == x15) && (((x8 : Int) == x16) && (((x9 : Int) == x17) && ((x10.toList == x18.toList) && true)))))))) then (
            K (.bool false) σ)
          else
          law25_same_L4 L fu0 a1 b2 (IntKind.i64.wrap (x_1 + 1)) σ K)
        else none)
      else none)
    else K (.bool true) σ := by kernel_rfl
set_option maxRecDepth 100000 in
theorem law25_same_eq {R : Type} (L : Nat) (a1 : Sl) (b2 : Sl) (σ : Heap) (K : AVal → Heap → Option R) :
    callC T known0 L 2 10 [.slice a1.b a1.o a1.n 7, .slice b2.b b2.o b2.n 7] σ K =
    bif ((a1.n : Int) != (b2.n : Int)) then (
      K (.bool false) σ)
    else
    law25_same_L4 L L a1 b2 0 σ K := by kernel_rfl
/-! law25_ScriptBack -/
set_option maxRecDepth 100000 in
theorem law25_ScriptBack_eq {R : Type} (w : C_law25_ScriptBack) (L : Nat) (l1 : Sl) (cut2 : Int) (σ : Heap) (K : AVal → Heap → Option R) :
    callC T (O_law25_ScriptBack w) L 2 3 [.slice l1.b l1.o l1.n 7, .int .i64 cut2] σ K =
    (w.law25_fit σ).bind fun q3 =>
    bif (!q3.1) then (
      K (.bool false) q3.2)
    else
    bif (decide ((l1.n : Int) > 60)) then (
      K (.bool true) q3.2)
    else
    (w.law25_Tame l1 q3.2).bind fun q4 =>
    (w.script_Encode q4.1 q4.2).bind fun q5 =>
    (w.script_Decode q5.1 q5.2).bind fun q6 =>
    (w.law25_same q6.1 q4.1 q6.2).bind fun q7 =>
    bif (!q7.1) then (
      bif ((q4.1.n : Int) == 0) then (
        K (.bool ((q5.1.n : Int) == 0)) q7.2)
      else
      K (.bool false) q7.2)
    else
    bif ((q4.1.n : Int) == 0) then (
      bif ((q4.1.n : Int) == 0) then (
        K (.bool ((q5.1.n : Int) == 0)) q7.2)
      else
      K (.bool false) q7.2)
    else
    if (q5.1.n : Int) = 0 then (
      none)
    else (
      bif ((decide (0 ≤ (Int.tmod (IntKind.i64.wrap (BitVec.ofInt IntKind.i64.bits cut2 &&& BitVec.ofInt IntKind.i64.bits 16777215).toNat) (q5.1.n : Int)))) && (decide ((Int.tmod (IntKind.i64.wrap (BitVec.ofInt IntKind.i64.bits cut2 &&& BitVec.ofInt IntKind.i64.bits 16777215).toNat) (q5.1.n : Int)) ≤ (q5.1.n : Int)))) then (
        (w.script_Decode ⟨q5.1.b, q5.1.o, (Int.tmod (IntKind.i64.wrap (BitVec.ofInt IntKind.i64.bits cut2 &&& BitVec.ofInt IntKind.i64.bits 16777215).toNat) (q5.1.n : Int)).toNat⟩ q7.2).bind fun q8 =>
        bif (decide ((q8.1.n : Int) < (q4.1.n : Int))) then (
          bif ((decide (0 ≤ (q8.1.n : Int))) && (decide ((q8.1.n : Int) ≤ (q4.1.n : Int)))) then (
            (w.law25_same q8.1 ⟨q4.1.b, q4.1.o, q8.1.n⟩ q8.2).bind fun q9 =>
            bif q9.1 then (
              (w.script_Encode q4.1 q9.2).bind fun q10 =>
              (Heap.append q10.2 q10.1.b q10.1.o q10.1.n 1 1 [.int .u8 9] 1).bind fun q11 =>
              (w.script_Decode ⟨q11.1.1, q11.1.2.1, q11.1.2.2⟩ q11.2).bind fun q12 =>
              (w.law25_same q12.1 q4.1 q12.2).bind fun q13 =>
              K (.bool q13.1) q13.2)
            else K (.bool false) q9.2)
          else none)
        else K (.bool false) q8.2)
      else none) := by kernel_rfl
/-! law25_take -/
set_option maxRecDepth 100000 in
theorem law25_take_eq {R : Type} (w : C_law25_take) (L : Nat) (r1 : Pt) (σ : Heap) (K : AVal → Heap → Option R) :
    callC T (O_law25_take w) L 2 13 [.ptr r1] σ K =
    (w.vary_Reader_Num r1 9 σ).bind fun q2 =>
    (w.vary_Reader_Num r1 1024 q2.2).bind fun q3 =>
    (w.vary_Reader_Num r1 1024 q3.2).bind fun q4 =>
    (w.vary_Reader_Num r1 0 q4.2).bind fun q5 =>
    (w.vary_Reader_Num r1 1024 q5.2).bind fun q6 =>
    (w.vary_Reader_Num r1 1024 q6.2).bind fun q7 =>
    (w.vary_Reader_Text r1 401 q7.2).bind fun q8 =>
    (w.vary_Reader_Good r1 (Heap.frz q8.2)).bind fun q9 =>
    K (.tuple [.agg [.int .i64 q2.1, .int .i64 q3.1, .int .i64 q4.1, .int .i64 q5.1, .int .i64 q6.1, .int .i64 q7.1, .str q8.1], .bool q9.1]) (Heap.back q8.2 q9.2) := by kernel_rfl
/-! law25_ScriptAny -/
noncomputable def law25_ScriptAny_L8 {R : Type} (w : C_law25_ScriptAny) (L fu0 : Nat) (b1 : Sl) (l_1 : Sl) (r_2 : Pt) (x_3 : Sl) (x_4 : Int) (x_5 : Int) (σ : Heap) (K : AVal → Heap → Option R) : Option R :=
  loopAt T (O_law25_ScriptAny w) L 1 4 Tryz.f4 [1, 1, 1, 1, 1, 0, 1, 0] [] fu0
    ([.slice b1.b b1.o b1.n 1, .undef, .undef, .slice l_1.b l_1.o l_1.n 7, .ptr r_2] ++ List.replicate 16 .undef ++ [.slice x_3.b x_3.o x_3.n 7, .int .i64 x_4, .int .i64 x_5] ++ List.replicate 42 .undef)
    (List.replicate 66 .none) σ K
set_option maxRecDepth 100000 in
theorem law25_ScriptAny_L8_eq {R : Type} (w : C_law25_ScriptAny) (L fu0 : Nat) (b1 : Sl) (l_1 : Sl) (r_2 : Pt) (x_3 : Sl) (x_4 : Int) (x_5 : Int) (σ : Heap) (K : AVal → Heap → Option R) :
    law25_ScriptAny_L8 w L (fu0 + 1) b1 l_1 r_2 x_3 x_4 x_5 σ K =
    bif (decide (x_5 < x_4)) then (
      bif ((decide (0 ≤ x_5)) && (decide (x_5 < (x_3.n : Int)))) then (
        (x_3.b).bind fun b5 =>
        (int? (Heap.cell? σ b5 (x_3.o + x_5.toNat * 7)) .i64).bind fun x6 =>
        (int? (Heap.cell? σ b5 ((x_3.o + x_5.toNat * 7) + 1)) .i64).bind fun x7 =>
        (int? (Heap.cell? σ b5 ((x_3.o + x_5.toNat * 7) + 2)) .i64).bind fun x8 =>
        (int? (Heap.cell? σ b5 ((x_3.o + x_5.toNat * 7) + 3)) .i64).bind fun x9 =>
        (int? (Heap.cell? σ b5 ((x_3.o + x_5.toNat * 7) + 4)) .i64).bind fun x10 =>
        (int? (Heap.cell? σ b5 ((x_3.o + x_5.toNat * 7) + 5)) .i64).bind fun x11 =>
        (str? (Heap.cell? σ b5 ((x_3.o + x_5.toNat * 7) + 6))).bind fun x12 =>
        (w.law25_take r_2 σ).bind fun q13 =>
        bif (!q13.1.2) then (
          K (.bool false) q13.2)
        else
        bif (!(((q13.1.1.Kind : Int) == x6) && (((q13.1.1.Client : Int) == x7) && (((q13.1.1.Pane : Int) == x8) && (((q13.1.1.N : Int) == x9) && (((q13.1.1.W : Int) == x10) && (((q13.1.1.H : Int) == x11) && ((q13.1.1.Data.toList == x12.toList) && true)))))))) then (
          K (.bool false) q13.2)
        else
        law25_ScriptAny_L8 w L fu0 b1 l_1 r_2 x_3 x_4 (IntKind.i64.wrap (x_5 + 1)) q13.2 K)
      else none)
    else
    (w.script_Encode l_1 σ).bind fun q14 =>
    (w.law25_take r_2 q14.2).bind fun q15 =>
    bif (!q15.1.2) then (
      bif (decide ((q14.1.n : Int) ≤ (b1.n : Int))) then (
        bif ((decide (0 ≤ (q14.1.n : Int))) && (decide ((q14.1.n : Int) ≤ (b1.n : Int)))) then (
          (Heap.read q15.2 b1.b b1.o q14.1.n 1).bind fun cs16 =>
          (bytesOf cs16).bind fun bs17 =>
          (Heap.read q15.2 q14.1.b q14.1.o q14.1.n 1).bind fun cs18 =>
          (bytesOf cs18).bind fun bs19 =>
          K (.bool ((⟨bs17.toArray⟩ : ByteArray).toList == (⟨bs19.toArray⟩ : ByteArray).toList)) q15.2)
        else none)
      else K (.bool false) q15.2)
    else K (.bool false) q15.2 := by kernel_rfl
set_option maxRecDepth 100000 in
theorem law25_ScriptAny_eq {R : Type} (w : C_law25_ScriptAny) (L : Nat) (b1 : Sl) (σ : Heap) (K : AVal → Heap → Option R) :
    callC T (O_law25_ScriptAny w) L 2 4 [.slice b1.b b1.o b1.n 1] σ K =
    (w.law25_fit σ).bind fun q2 =>
    bif (!q2.1) then (
      K (.bool false) q2.2)
    else
    bif (decide ((b1.n : Int) > 1000)) then (
      K (.bool true) q2.2)
    else
    (w.script_Decode b1 q2.2).bind fun q3 =>
    (w.vary_Of b1 q3.2).bind fun q4 =>
    law25_ScriptAny_L8 w L L b1 q3.1 q4.1 q3.1 (q3.1.n : Int) 0 q4.2 K := by kernel_rfl
end Go.Abs.TE
