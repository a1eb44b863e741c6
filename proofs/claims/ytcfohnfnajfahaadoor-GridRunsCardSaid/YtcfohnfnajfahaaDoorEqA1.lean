/-
Lifted functions: what the machine does, one equation for each entry and each loop (printed by lift.py).
-/
import Derived.Test.YtcfohnfnajfahaaDoorSigA
namespace Go.Abs.TA
open Go Go.Abs Go.Proofs
/-! ref07_among -/
set_option maxRecDepth 100000 in
theorem ref07_among_eq {R : Type} (L : Nat) (r1 : Int) (first2 : Int) (last3 : Int) (σ : Heap) (K : AVal → Heap → Option R) :
    callC T known0 L 2 58 [.int .i32 r1, .int .i32 first2, .int .i32 last3] σ K =
    bif (decide (r1 ≥ first2)) then (
      K (.bool (decide (r1 ≤ last3))) σ)
    else
    K (.bool false) σ := by kernel_rfl
/-! ref07_Right -/
set_option maxRecDepth 100000 in
theorem ref07_Right_eq {R : Type} (w : C_ref07_Right) (L : Nat) (r1 : Int) (σ : Heap) (K : AVal → Heap → Option R) :
    callC T (O_ref07_Right w) L 2 29 [.int .i32 r1] σ K =
    (w.ref07_among r1 32 126 σ).bind fun q2 =>
    bif q2.1 then (
      K (.bool true) q2.2)
    else
    (w.ref07_among r1 128 55295 q2.2).bind fun q3 =>
    bif q3.1 then (
      K (.bool true) q3.2)
    else
    (w.ref07_among r1 57344 1114111 q3.2).bind fun q4 =>
    K (.bool q4.1) q4.2 := by kernel_rfl
/-! law08_Tame -/
noncomputable def law08_Tame_L3 {R : Type} (w : C_law08_Tame) (L fu0 : Nat) (out_1 : Sl) (l1 : Sl) (x_2 : Int) (σ : Heap) (K : AVal → Heap → Option R) : Option R :=
  loopAt T (O_law08_Tame w) L 1 23 Tryd.f23 [1, 1, 0, 1, 0] [] fu0
    ([.undef, .undef, .undef, .slice out_1.b out_1.o out_1.n 6, .undef, .undef, .slice l1.b l1.o l1.n 6, .int .i64 (l1.n : Int), .int .i64 x_2] ++ List.replicate 25 .undef)
    (List.replicate 34 .none) σ K
set_option maxRecDepth 100000 in
theorem law08_Tame_L3_eq {R : Type} (w : C_law08_Tame) (L fu0 : Nat) (out_1 : Sl) (l1 : Sl) (x_2 : Int) (σ : Heap) (K : AVal → Heap → Option R) :
    law08_Tame_L3 w L (fu0 + 1) out_1 l1 x_2 σ K =
    bif (decide (x_2 < (l1.n : Int))) then (
      bif ((decide (0 ≤ x_2)) && (decide (x_2 < (l1.n : Int)))) then (
        (l1.b).bind fun b2 =>
        (int? (Heap.cell? σ b2 (l1.o + x_2.toNat * 6)) .i32).bind fun x3 =>
        (bool? (Heap.cell? σ b2 ((l1.o + x_2.toNat * 6) + 1))).bind fun x4 =>
        (bool? (Heap.cell? σ b2 ((l1.o + x_2.toNat * 6) + 2))).bind fun x5 =>
        (bool? (Heap.cell? σ b2 ((l1.o + x_2.toNat * 6) + 3))).bind fun x6 =>
        (int? (Heap.cell? σ b2 ((l1.o + x_2.toNat * 6) + 4)) .i64).bind fun x7 =>
        (int? (Heap.cell? σ b2 ((l1.o + x_2.toNat * 6) + 5)) .i64).bind fun x8 =>
        (w.ref08_Style ⟨x4, x5, x6, x7, x8⟩ σ).bind fun q9 =>
        bif (!q9.1) then (
          bif (x3 != 0) then (
            (w.ref07_Right x3 q9.2).bind fun q10 =>
            bif (!q10.1) then (
              (Heap.append q10.2 out_1.b out_1.o out_1.n 6 32 [.int .i32 120, .bool false, .bool false, .bool false, .int .i64 0, .int .i64 0] 1).bind fun q11 =>
              law08_Tame_L3 w L fu0 ⟨q11.1.1, q11.1.2.1, q11.1.2.2⟩ l1 (IntKind.i64.wrap (x_2 + 1)) q11.2 K)
            else
            (Heap.append q10.2 out_1.b out_1.o out_1.n 6 32 [.int .i32 x3, .bool false, .bool false, .bool false, .int .i64 0, .int .i64 0] 1).bind fun q12 =>
            law08_Tame_L3 w L fu0 ⟨q12.1.1, q12.1.2.1, q12.1.2.2⟩ l1 (IntKind.i64.wrap (x_2 + 1)) q12.2 K)
          else
          (Heap.append q9.2 out_1.b out_1.o out_1.n 6 32 [.int .i32 x3, .bool false, .bool false, .bool false, .int .i64 0, .int .i64 0] 1).bind fun q13 =>
          law08_Tame_L3 w L fu0 ⟨q13.1.1, q13.1.2.1, q13.1.2.2⟩ l1 (IntKind.i64.wrap (x_2 + 1)) q13.2 K)
        else
        bif (x3 != 0) then (
          (w.ref07_Right x3 q9.2).bind fun q14 =>
          bif (!q14.1) then (
            (Heap.append q14.2 out_1.b out_1.o out_1.n 6 32 [.int .i32 120, .bool x4, .bool x5, .bool x6, .int .i64 x7, .int .i64 x8] 1).bind fun q15 =>
            law08_Tame_L3 w L fu0 ⟨q15.1.1, q15.1.2.1, q15.1.2.2⟩ l1 (IntKind.i64.wrap (x_2 + 1)) q15.2 K)
          else
          (Heap.append q14.2 out_1.b out_1.o out_1.n 6 32 [.int .i32 x3, .bool x4, .bool x5, .bool x6, .int .i64 x7, .int .i64 x8] 1).bind fun q16 =>
          law08_Tame_L3 w L fu0 ⟨q16.1.1, q16.1.2.1, q16.1.2.2⟩ l1 (IntKind.i64.wrap (x_2 + 1)) q16.2 K)
        else
        (Heap.append q9.2 out_1.b out_1.o out_1.n 6 32 [.int .i32 x3, .bool x4, .bool x5, .bool x6, .int .i64 x7, .int .i64 x8] 1).bind fun q17 =>
        law08_Tame_L3 w L fu0 ⟨q17.1.1, q17.1.2.1, q17.1.2.2⟩ l1 (IntKind.i64.wrap (x_2 + 1)) q17.2 K)
      else none)
    else K (.slice out_1.b out_1.o out_1.n 6) σ := by kernel_rfl
set_option maxRecDepth 100000 in
theorem law08_Tame_eq {R : Type} (w : C_law08_Tame) (L : Nat) (l1 : Sl) (σ : Heap) (K : AVal → Heap → Option R) :
    callC T (O_law08_Tame w) L 2 23 [.slice l1.b l1.o l1.n 6] σ K =
    law08_Tame_L3 w L L ⟨none, 0, 0⟩ l1 0 σ K := by kernel_rfl
/-! ref07_Wide -/
set_option maxRecDepth 100000 in
theorem ref07_Wide_eq {R : Type} (w : C_ref07_Wide) (L : Nat) (r1 : Int) (σ : Heap) (K : AVal → Heap → Option R) :
    callC T (O_ref07_Wide w) L 2 28 [.int .i32 r1] σ K =
    (w.ref07_among r1 4352 4447 σ).bind fun q2 =>
    bif q2.1 then (
      K (.bool true) q2.2)
    else
    (w.ref07_among r1 11904 12350 q2.2).bind fun q3 =>
    bif q3.1 then (
      K (.bool true) q3.2)
    else
    (w.ref07_among r1 12352 42191 q3.2).bind fun q4 =>
    bif q4.1 then (
      K (.bool true) q4.2)
    else
    (w.ref07_among r1 44032 55203 q4.2).bind fun q5 =>
    bif q5.1 then (
      K (.bool true) q5.2)
    else
    (w.ref07_among r1 63744 64255 q5.2).bind fun q6 =>
    bif q6.1 then (
      K (.bool true) q6.2)
    else
    (w.ref07_among r1 65072 65135 q6.2).bind fun q7 =>
    bif q7.1 then (
      K (.bool true) q7.2)
    else
    (w.ref07_among r1 65280 65376 q7.2).bind fun q8 =>
    bif q8.1 then (
      K (.bool true) q8.2)
    else
    (w.ref07_among r1 65504 65510 q8.2).bind fun q9 =>
    bif q9.1 then (
      K (.bool true) q9.2)
    else
    (w.ref07_among r1 127744 128591 q9.2).bind fun q10 =>
    bif q10.1 then (
      K (.bool true) q10.2)
    else
    (w.ref07_among r1 131072 262141 q10.2).bind fun q11 =>
    K (.bool q11.1) q11.2 := by kernel_rfl
/-! ref08_Mend -/
noncomputable def ref08_Mend_L3 {R : Type} (w : C_ref08_Mend) (L fu0 : Nat) (out_1 : Sl) (i_2 : Int) (σ : Heap) (K : AVal → Heap → Option R) : Option R :=
  loopAt T (O_ref08_Mend w) L 1 25 Tryd.f25 [1, 1, 0, 1, 0] [] fu0
    ([.undef, .undef, .undef, .slice out_1.b out_1.o out_1.n 6, .int .i64 i_2] ++ List.replicate 62 .undef)
    (List.replicate 67 .none) σ K
set_option maxRecDepth 100000 in
theorem ref08_Mend_L3_eq {R : Type} (w : C_ref08_Mend) (L fu0 : Nat) (out_1 : Sl) (i_2 : Int) (σ : Heap) (K : AVal → Heap → Option R) :
    ref08_Mend_L3 w L (fu0 + 1) out_1 i_2 σ K =
    bif (decide (i_2 < (out_1.n : Int))) then (
      bif ((decide (0 ≤ i_2)) && (decide (i_2 < (out_1.n : Int)))) then (
        (out_1.b).bind fun b4 =>
        (int? (Heap.cell? σ b4 (out_1.o + i_2.toNat * 6)) .i32).bind fun x5 =>
        (w.ref07_Wide x5 σ).bind fun q6 =>
        bif q6.1 then (
          bif (decide ((IntKind.i64.wrap (i_2 + 1)) < (out_1.n : Int))) then (
            bif ((decide (0 ≤ (IntKind.i64.wrap (i_2 + 1)))) && (decide ((IntKind.i64.wrap (i_2 + 1)) < (out_1.n : Int)))) then (
              (out_1.b).bind fun b7 =>
              (int? (Heap.cell? q6.2 b7 (out_1.o + ((IntKind.i64.wrap (i_2 + 1)).toNat) * 6)) .i32).bind fun x8 =>
              bif (x8 == 0) then (
                bif ((decide (0 ≤ (IntKind.i64.wrap (i_2 + 1)))) && (decide ((IntKind.i64.wrap (i_2 + 1)) < (out_1.n : Int)))) then (
                  (out_1.b).bind fun b9 =>
                  (bool? (Heap.cell? q6.2 b9 ((out_1.o + ((IntKind.i64.wrap (i_2 + 1)).toNat) * 6) + 1))).bind fun x10 =>
                  (bool? (Heap.cell? q6.2 b9 ((out_1.o + ((IntKind.i64.wrap (i_2 + 1)).toNat) * 6) + 2))).bind fun x11 =>
                  (bool? (Heap.cell? q6.2 b9 ((out_1.o + ((IntKind.i64.wrap (i_2 + 1)).toNat) * 6) + 3))).bind fun x12 =>
                  (int? (Heap.cell? q6.2 b9 ((out_1.o + ((IntKind.i64.wrap (i_2 + 1)).toNat) * 6) + 4)) .i64).bind fun x13 =>
                  (int? (Heap.cell? q6.2 b9 ((out_1.o + ((IntKind.i64.wrap (i_2 + 1)).toNat) * 6) + 5)) .i64).bind fun x14 =>
                  bif ((decide (0 ≤ i_2)) && (decide (i_2 < (out_1.n : Int)))) then (
                    (out_1.b).bind fun b15 =>
                    (bool? (Heap.cell? q6.2 b15 ((out_1.o + i_2.toNat * 6) + 1))).bind fun x16 =>
                    (bool? (Heap.cell? q6.2 b15 ((out_1.o + i_2.toNat * 6) + 2))).bind fun x17 =>
                    (bool? (Heap.cell? q6.2 b15 ((out_1.o + i_2.toNat * 6) + 3))).bind fun x18 =>
                    (int? (Heap.cell? q6.2 b15 ((out_1.o + i_2.toNat * 6) + 4)) .i64).bind fun x19 =>
                    (int? (Heap.cell? q6.2 b15 ((out_1.o + i_2.toNat * 6) + 5)) .i64).bind fun x20 =>
                    bif ((x10 == x16) && ((x11 == x17) && ((x12 == x18) && (((x13 : Int) == x19) && (((x14 : Int) == x20) && true))))) then (
                      ref08_Mend_L3 w L fu0 out_1 (IntKind.i64.wrap ((IntKind.i64.wrap (i_2 + 1)) + 1)) q6.2 K)
                    else
                    bif q6.1 then (
                      bif ((decide (0 ≤ i_2)) && (decide (i_2 < (out_1.n : Int)))) then (
                        (out_1.b).bind fun b21 =>
                        (Heap.store q6.2 b21 (out_1.o + i_2.toNat * 6) [.int .i32 32]).bind fun σ22 =>
                        ref08_Mend_L3 w L fu0 out_1 (IntKind.i64.wrap (i_2 + 1)) σ22 K)
                      else none)
                    else
                    bif ((decide (0 ≤ i_2)) && (decide (i_2 < (out_1.n : Int)))) then (
                      (out_1.b).bind fun b23 =>
                      (int? (Heap.cell? q6.2 b23 (out_1.o + i_2.toNat * 6)) .i32).bind fun x24 =>
                      bif (x24 == 0) then (
                        bif ((decide (0 ≤ i_2)) && (decide (i_2 < (out_1.n : Int)))) then (
                          (out_1.b).bind fun b25 =>
                          (Heap.store q6.2 b25 (out_1.o + i_2.toNat * 6) [.int .i32 32]).bind fun σ26 =>
                          ref08_Mend_L3 w L fu0 out_1 (IntKind.i64.wrap (i_2 + 1)) σ26 K)
                        else none)
                      else ref08_Mend_L3 w L fu0 out_1 (IntKind.i64.wrap (i_2 + 1)) q6.2 K)
                    else none)
                  else none)
                else none)
              else
              bif q6.1 then (
                bif ((decide (0 ≤ i_2)) && (decide (i_2 < (out_1.n : Int)))) then (
                  (out_1.b).bind fun b27 =>
                  (Heap.store q6.2 b27 (out_1.o + i_2.toNat * 6) [.int .i32 32]).bind fun σ28 =>
                  ref08_Mend_L3 w L fu0 out_1 (IntKind.i64.wrap (i_2 + 1)) σ28 K)
                else none)
              else
              bif ((decide (0 ≤ i_2)) && (decide (i_2 < (out_1.n : Int)))) then (
                (out_1.b).bind fun b29 =>
                (int? (Heap.cell? q6.2 b29 (out_1.o + i_2.toNat * 6)) .i32).bind fun x30 =>
                bif (x30 == 0) then (
                  bif ((decide (0 ≤ i_2)) && (decide (i_2 < (out_1.n : Int)))) then (
                    (out_1.b).bind fun b31 =>
                    (Heap.store q6.2 b31 (out_1.o + i_2.toNat * 6) [.int .i32 32]).bind fun σ32 =>
                    ref08_Mend_L3 w L fu0 out_1 (IntKind.i64.wrap (i_2 + 1)) σ32 K)
                  else none)
                else ref08_Mend_L3 w L fu0 out_1 (IntKind.i64.wrap (i_2 + 1)) q6.2 K)
              else none)
            else none)
          else
          bif q6.1 then (
            bif ((decide (0 ≤ i_2)) && (decide (i_2 < (out_1.n : Int)))) then (
              (out_1.b).bind fun b33 =>
              (Heap.store q6.2 b33 (out_1.o + i_2.toNat * 6) [.int .i32 32]).bind fun σ34 =>
              ref08_Mend_L3 w L fu0 out_1 (IntKind.i64.wrap (i_2 + 1)) σ34 K)
            else none)
          else
          bif ((decide (0 ≤ i_2)) && (decide (i_2 < (out_1.n : Int)))) then (
            (out_1.b).bind fun b35 =>
            (int? (Heap.cell? q6.2 b35 (out_1.o + i_2.toNat * 6)) .i32).bind fun x36 =>
            bif (x36 == 0) then (
              bif ((decide (0 ≤ i_2)) && (decide (i_2 < (out_1.n : Int)))) then (
                (out_1.b).bind fun b37 =>
                (Heap.store q6.2 b37 (out_1.o + i_2.toNat * 6) [.int .i32 32]).bind fun σ38 =>
                ref08_Mend_L3 w L fu0 out_1 (IntKind.i64.wrap (i_2 + 1)) σ38 K)
              else none)
            else ref08_Mend_L3 w L fu0 out_1 (IntKind.i64.wrap (i_2 + 1)) q6.2 K)
          else none)
        else
        bif q6.1 then (
          bif ((decide (0 ≤ i_2)) && (decide (i_2 < (out_1.n : Int)))) then (
            (out_1.b).bind fun b39 =>
            (Heap.store q6.2 b39 (out_1.o + i_2.toNat * 6) [.int .i32 32]).bind fun σ40 =>
            ref08_Mend_L3 w L fu0 out_1 (IntKind.i64.wrap (i_2 + 1)) σ40 K)
          else none)
        else
        bif ((decide (0 ≤ i_2)) && (decide (i_2 < (out_1.n : Int)))) then (
          (out_1.b).bind fun b41 =>
          (int? (Heap.cell? q6.2 b41 (out_1.o + i_2.toNat * 6)) .i32).bind fun x42 =>
          bif (x42 == 0) then (
            bif ((decide (0 ≤ i_2)) && (decide (i_2 < (out_1.n : Int)))) then (
              (out_1.b).bind fun b43 =>
              (Heap.store q6.2 b43 (out_1.o + i_2.toNat * 6) [.int .i32 32]).bind fun σ44 =>
              ref08_Mend_L3 w L fu0 out_1 (IntKind.i64.wrap (i_2 + 1)) σ44 K)
            else none)
          else ref08_Mend_L3 w L fu0 out_1 (IntKind.i64.wrap (i_2 + 1)) q6.2 K)
        else none)
      else none)
    else K (.slice out_1.b out_1.o out_1.n 6) σ := by kernel_rfl
set_option maxRecDepth 100000 in
theorem ref08_Mend_eq {R : Type} (w : C_ref08_Mend) (L : Nat) (l1 : Sl) (σ : Heap) (K : AVal → Heap → Option R) :
    callC T (O_ref08_Mend w) L 2 25 [.slice l1.b l1.o l1.n 6] σ K =
    (Heap.read σ l1.b l1.o l1.n 6).bind fun vs2 =>
    (Heap.append σ none 0 0 6 32 vs2 l1.n).bind fun q3 =>
    ref08_Mend_L3 w L L ⟨q3.1.1, q3.1.2.1, q3.1.2.2⟩ 0 q3.2 K := by kernel_rfl
/-! law08_Same -/
noncomputable def law08_Same_L4 {R : Type} (L fu0 : Nat) (a1 : Sl) (b2 : Sl) (x_1 : Int) (σ : Heap) (K : AVal → Heap → Option R) : Option R :=
  loopAt T known0 L 1 26 Tryd.f26 [1, 1, 0, 1, 0] [] fu0
    ([.slice a1.b a1.o a1.n 6, .slice b2.b b2.o b2.n 6] ++ List.replicate 10 .undef ++ [.int .i64 (a1.n : Int), .int .i64 x_1] ++ List.replicate 12 .undef)
    (List.replicate 26 .none) σ K
set_option maxRecDepth 100000 in
theorem law08_Same_L4_eq {R : Type} (L fu0 : Nat) (a1 : Sl) (b2 : Sl) (x_1 : Int) (σ : Heap) (K : AVal → Heap → Option R) :
    law08_Same_L4 L (fu0 + 1) a1 b2 x_1 σ K =
    bif (decide (x_1 < (a1.n : Int))) then (
      bif ((decide (0 ≤ x_1)) && (decide (x_1 < (a1.n : Int)))) then (
        (a1.b).bind fun b3 =>
        (int? (Heap.cell? σ b3 (a1.o + x_1.toNat * 6)) .i32).bind fun x4 =>
        (bool? (Heap.cell? σ b3 ((a1.o + x_1.toNat * 6) + 1))).bind fun x5 =>
        (bool? (Heap.cell? σ b3 ((a1.o + x_1.toNat * 6) + 2))).bind fun x6 =>
        (bool? (Heap.cell? σ b3 ((a1.o + x_1.toNat * 6) + 3))).bind fun x7 =>
        (int? (Heap.cell? σ b3 ((a1.o + x_1.toNat * 6) + 4)) .i64).bind fun x8 =>
        (int? (Heap.cell? σ b3 ((a1.o + x_1.toNat * 6) + 5)) .i64).bind fun x9 =>
        bif ((decide (0 ≤ x_1)) && (decide (x_1 < (b2.n : Int)))) then (
          (b2.b).bind fun b10 =>
          (int? (Heap.cell? σ b10 (b2.o + x_1.toNat * 6)) .i32).bind fun x11 =>
          (bool? (Heap.cell? σ b10 ((b2.o + x_1.toNat * 6) + 1))).bind fun x12 =>
          (bool? (Heap.cell? σ b10 ((b2.o + x_1.toNat * 6) + 2))).bind fun x13 =>
          (bool? (Heap.cell? σ b10 ((b2.o + x_1.toNat * 6) + 3))).bind fun x14 =>
          (int? (Heap.cell? σ b10 ((b2.o + x_1.toNat * 6) + 4)) .i64).bind fun x15 =>
          (int? (Heap.cell? σ b10 ((b2.o + x_1.toNat * 6) + 5)) .i64).bind fun x16 =>
          bif (!(((x4 : Int) == x11) && ((x5 == x12) && ((x6 == x13) && ((x7 == x14) && (((x8 : Int) == x15) && (((x9 : Int) == x16) && true))))))) then (
            K (.bool false) σ)
          else
          law08_Same_L4 L fu0 a1 b2 (IntKind.i64.wrap (x_1 + 1)) σ K)
        else none)
      else none)
    else K (.bool true) σ := by kernel_rfl
set_option maxRecDepth 100000 in
theorem law08_Same_eq {R : Type} (L : Nat) (a1 : Sl) (b2 : Sl) (σ : Heap) (K : AVal → Heap → Option R) :
    callC T known0 L 2 26 [.slice a1.b a1.o a1.n 6, .slice b2.b b2.o b2.n 6] σ K =
    bif ((a1.n : Int) != (b2.n : Int)) then (
      K (.bool false) σ)
    else
    law08_Same_L4 L L a1 b2 0 σ K := by kernel_rfl
/-! cell_Whole -/
noncomputable def cell_Whole_L2 {R : Type} (w : C_cell_Whole) (L fu0 : Nat) (l1 : Sl) (x_1 : Int) (σ : Heap) (K : AVal → Heap → Option R) : Option R :=
  loopAt T (O_cell_Whole w) L 1 27 Tryd.f27 [1, 0, 1, 0] [] fu0
    ([.slice l1.b l1.o l1.n 6] ++ List.replicate 4 .undef ++ [.slice l1.b l1.o l1.n 6, .int .i64 (l1.n : Int), .int .i64 x_1] ++ List.replicate 29 .undef)
    (List.replicate 37 .none) σ K
set_option maxRecDepth 100000 in
theorem cell_Whole_L2_eq {R : Type} (w : C_cell_Whole) (L fu0 : Nat) (l1 : Sl) (x_1 : Int) (σ : Heap) (K : AVal → Heap → Option R) :
    cell_Whole_L2 w L (fu0 + 1) l1 x_1 σ K =
    bif (decide (x_1 < (l1.n : Int))) then (
      bif ((decide (0 ≤ x_1)) && (decide (x_1 < (l1.n : Int)))) then (
        (l1.b).bind fun b2 =>
        (int? (Heap.cell? σ b2 (l1.o + x_1.toNat * 6)) .i32).bind fun x3 =>
        (bool? (Heap.cell? σ b2 ((l1.o + x_1.toNat * 6) + 1))).bind fun x4 =>
        (bool? (Heap.cell? σ b2 ((l1.o + x_1.toNat * 6) + 2))).bind fun x5 =>
        (bool? (Heap.cell? σ b2 ((l1.o + x_1.toNat * 6) + 3))).bind fun x6 =>
        (int? (Heap.cell? σ b2 ((l1.o + x_1.toNat * 6) + 4)) .i64).bind fun x7 =>
        (int? (Heap.cell? σ b2 ((l1.o + x_1.toNat * 6) + 5)) .i64).bind fun x8 =>
        bif (x3 == 0) then (
          (w.cell_paired l1 (IntKind.i64.wrap (x_1 - 1)) σ).bind fun q9 =>
          bif (!q9.1) then (
            K (.bool false) q9.2)
          else
          cell_Whole_L2 w L fu0 l1 (IntKind.i64.wrap (x_1 + 1)) q9.2 K)
        else
        (w.cell_Right ⟨x3, ⟨x4, x5, x6, x7, x8⟩⟩ σ).bind fun q10 =>
        bif (!q10.1) then (
          K (.bool false) q10.2)
        else
        (w.glyph_Wide x3 q10.2).bind fun q11 =>
        bif q11.1 then (
          (w.cell_paired l1 x_1 q11.2).bind fun q12 =>
          bif (!q12.1) then (
            K (.bool false) q12.2)
          else
          cell_Whole_L2 w L fu0 l1 (IntKind.i64.wrap (x_1 + 1)) q12.2 K)
        else cell_Whole_L2 w L fu0 l1 (IntKind.i64.wrap (x_1 + 1)) q11.2 K)
      else none)
    else K (.bool true) σ := by kernel_rfl
set_option maxRecDepth 100000 in
theorem cell_Whole_eq {R : Type} (w : C_cell_Whole) (L : Nat) (l1 : Sl) (σ : Heap) (K : AVal → Heap → Option R) :
    callC T (O_cell_Whole w) L 2 27 [.slice l1.b l1.o l1.n 6] σ K =
    cell_Whole_L2 w L L l1 0 σ K := by kernel_rfl
/-! vary_Of -/
set_option maxRecDepth 100000 in
theorem vary_Of_eq {R : Type} (L : Nat) (b1 : Sl) (σ : Heap) (K : AVal → Heap → Option R) :
    callC T known0 L 2 31 [.slice b1.b b1.o b1.n 1] σ K =
    alloc σ [.slice b1.b b1.o b1.n 1, .bool false] fun b2 σ3 =>
    K (.ptr (some (b2, 0))) σ3 := by kernel_rfl
/-! vary_Put -/
noncomputable def vary_Put_L2 {R : Type} (L fu0 : Nat) (b_3 : Sl) (l2 : Sl) (x_4 : Int) (σ : Heap) (K : AVal → Heap → Option R) : Option R :=
  loopAt T known0 L 1 60 Tryd.f60 [1, 0, 1, 0] [] fu0
    ([.slice b_3.b b_3.o b_3.n 1] ++ List.replicate 6 .undef ++ [.slice l2.b l2.o l2.n 1, .int .i64 (l2.n : Int), .int .i64 x_4] ++ List.replicate 20 .undef)
    (List.replicate 30 .none) σ K
noncomputable def vary_Put_L4 {R : Type} (L fu0 fu1 : Nat) (b_1 : Sl) (n_2 : Int) (l2 : Sl) (x_4 : Int) (σ : Heap) (K : AVal → Heap → Option R) : Option R :=
  loopAt T known0 L 1 60 Tryd.f60 [1, 0, 1, 0, 0, 1, 1, 0, 0, 1, 0, 0] [fu0] fu1
    ([.slice b_1.b b_1.o b_1.n 1] ++ List.replicate 5 .undef ++ [.int .u64 n_2, .slice l2.b l2.o l2.n 1, .int .i64 (l2.n : Int), .int .i64 x_4] ++ List.replicate 20 .undef)
    (List.replicate 30 .none) σ K
set_option maxRecDepth 100000 in
theorem vary_Put_L2_eq {R : Type} (L fu0 : Nat) (b_3 : Sl) (l2 : Sl) (x_4 : Int) (σ : Heap) (K : AVal → Heap → Option R) :
    vary_Put_L2 L (fu0 + 1) b_3 l2 x_4 σ K =
    bif (decide (x_4 < (l2.n : Int))) then (
      bif ((decide (0 ≤ x_4)) && (decide (x_4 < (l2.n : Int)))) then (
        (l2.b).bind fun b3 =>
        (int? (Heap.cell? σ b3 (l2.o + x_4.toNat * 1)) .u64).bind fun x4 =>
        vary_Put_L4 L fu0 L b_3 x4 l2 x_4 σ K)
      else none)
    else K (.slice b_3.b b_3.o b_3.n 1) σ := by kernel_rfl
set_option maxRecDepth 100000 in
theorem vary_Put_L4_eq {R : Type} (L fu0 fu1 : Nat) (b_1 : Sl) (n_2 : Int) (l2 : Sl) (x_4 : Int) (σ : Heap) (K : AVal → Heap → Option R) :
    vary_Put_L4 L fu0 (fu1 + 1) b_1 n_2 l2 x_4 σ K =
    bif (decide (n_2 ≥ 128)) then (
      (Heap.append σ b_1.b b_1.o b_1.n 1 1 [.int .u8 (IntKind.u8.wrap (BitVec.ofInt IntKind.u8.bits (IntKind.u8.wrap n_2) ||| BitVec.ofInt IntKind.u8.bits 128).toNat)] 1).bind fun q5 =>
      vary_Put_L4 L fu0 fu1 ⟨q5.1.1, q5.1.2.1, q5.1.2.2⟩ (Int.fdiv n_2 (2 ^ 7)) l2 x_4 q5.2 K)
    else
    (Heap.append σ b_1.b b_1.o b_1.n 1 1 [.int .u8 (IntKind.u8.wrap n_2)] 1).bind fun q6 =>
    vary_Put_L2 L fu0 ⟨q6.1.1, q6.1.2.1, q6.1.2.2⟩ l2 (IntKind.i64.wrap (x_4 + 1)) q6.2 K := by kernel_rfl
set_option maxRecDepth 100000 in
theorem vary_Put_eq {R : Type} (L : Nat) (b1 : Sl) (l2 : Sl) (σ : Heap) (K : AVal → Heap → Option R) :
    callC T known0 L 2 60 [.slice b1.b b1.o b1.n 1, .slice l2.b l2.o l2.n 1] σ K =
    vary_Put_L2 L L b1 l2 0 σ K := by kernel_rfl
end Go.Abs.TA
