/-
Lifted functions: what the machine does, one equation for each entry and each loop (printed by lift.py).
-/
import Derived.Test.YtjfdgccoblanlaaSigC
namespace Go.Abs.TC
open Go Go.Abs Go.Proofs
/-! law04_same -/
noncomputable def law04_same_L5 {R : Type} (w : C_law04_same) (L fu0 : Nat) (s1 : Pt) (m2 : Pt) (names_1 : Sl) (x12 : Option Nat × Nat × Nat) (x_2 : Int) (σ : Heap) (K : AVal → Heap → Option R) : Option R :=
  loopAt T (O_law04_same w) L 1 27 Try.f27 [1, 1, 1, 0, 1, 0] [] fu0
    ([.ptr s1, .ptr m2, .undef, .undef, .undef, .slice names_1.b names_1.o names_1.n 1] ++ List.replicate 33 .undef ++ [.slice x12.1 x12.2.1 x12.2.2 3, .int .i64 (x12.2.2 : Int), .int .i64 x_2] ++ List.replicate 59 .undef)
    (List.replicate 101 .none) σ K
set_option maxRecDepth 100000 in
theorem law04_same_L5_eq {R : Type} (w : C_law04_same) (L fu0 : Nat) (s1 : Pt) (m2 : Pt) (names_1 : Sl) (x12 : Option Nat × Nat × Nat) (x_2 : Int) (σ : Heap) (K : AVal → Heap → Option R) :
    law04_same_L5 w L (fu0 + 1) s1 m2 names_1 x12 x_2 σ K =
    bif (decide (x_2 < (x12.2.2 : Int))) then (
      bif ((decide (0 ≤ x_2)) && (decide (x_2 < (x12.2.2 : Int)))) then (
        (x12.1).bind fun b13 =>
        (str? (Heap.cell? σ b13 (x12.2.1 + x_2.toNat * 3))).bind fun x14 =>
        (str? (Heap.cell? σ b13 ((x12.2.1 + x_2.toNat * 3) + 1))).bind fun x15 =>
        (int? (Heap.cell? σ b13 ((x12.2.1 + x_2.toNat * 3) + 2)) .i64).bind fun x16 =>
        bif ((decide (0 ≤ x_2)) && (decide (x_2 < (names_1.n : Int)))) then (
          (names_1.b).bind fun b17 =>
          (str? (Heap.cell? σ b17 (names_1.o + x_2.toNat * 1))).bind fun x18 =>
          bif (!(x18.toList == x14.toList)) then (
            K (.bool false) σ)
          else
          (w.file_Store_Sure s1 x14 (Heap.frz σ)).bind fun q19 =>
          bif (q19.1 != x16) then (
            K (.bool false) (Heap.back σ q19.2))
          else
          (w.file_Store_Read s1 x14 (Heap.back σ q19.2)).bind fun q20 =>
          (m2).bind fun q21 =>
          (bool? (Heap.cell? q20.2 q21.1 (q21.2 + 3))).bind fun x22 =>
          bif x22 then (
            bif (q20.1.2 != 8) then (
              K (.bool false) q20.2)
            else
            bif ((q20.1.1.n : Int) != 0) then (
              K (.bool false) q20.2)
            else
            (m2).bind fun q23 =>
            (bool? (Heap.cell? q20.2 q23.1 (q23.2 + 3))).bind fun x24 =>
            bif (!x24) then (
              bif (q20.1.2 != 0) then (
                K (.bool false) q20.2)
              else
              (Heap.read q20.2 q20.1.1.b q20.1.1.o q20.1.1.n 1).bind fun cs25 =>
              (bytesOf cs25).bind fun bs26 =>
              bif (!((⟨bs26.toArray⟩ : ByteArray).toList == x15.toList)) then (
                K (.bool false) q20.2)
              else
              law04_same_L5 w L fu0 s1 m2 names_1 x12 (IntKind.i64.wrap (x_2 + 1)) q20.2 K)
            else law04_same_L5 w L fu0 s1 m2 names_1 x12 (IntKind.i64.wrap (x_2 + 1)) q20.2 K)
          else
          (m2).bind fun q27 =>
          (bool? (Heap.cell? q20.2 q27.1 (q27.2 + 3))).bind fun x28 =>
          bif (!x28) then (
            bif (q20.1.2 != 0) then (
              K (.bool false) q20.2)
            else
            (Heap.read q20.2 q20.1.1.b q20.1.1.o q20.1.1.n 1).bind fun cs29 =>
            (bytesOf cs29).bind fun bs30 =>
            bif (!((⟨bs30.toArray⟩ : ByteArray).toList == x15.toList)) then (
              K (.bool false) q20.2)
            else
            law04_same_L5 w L fu0 s1 m2 names_1 x12 (IntKind.i64.wrap (x_2 + 1)) q20.2 K)
          else law04_same_L5 w L fu0 s1 m2 names_1 x12 (IntKind.i64.wrap (x_2 + 1)) q20.2 K)
        else none)
      else none)
    else K (.bool true) σ := by kernel_rfl
set_option maxRecDepth 100000 in
theorem law04_same_eq {R : Type} (w : C_law04_same) (L : Nat) (s1 : Pt) (m2 : Pt) (σ : Heap) (K : AVal → Heap → Option R) :
    callC T (O_law04_same w) L 2 27 [.ptr s1, .ptr m2] σ K =
    (w.file_Store_Names s1 σ).bind fun q3 =>
    (m2).bind fun q4 =>
    (slice? (Heap.cell? q3.2 q4.1 q4.2) 3).bind fun x5 =>
    bif ((q3.1.n : Int) != (x5.2.2 : Int)) then (
      K (.bool false) q3.2)
    else
    (w.file_Store_Used s1 (Heap.frz q3.2)).bind fun q6 =>
    (w.law04_model_used m2 (Heap.back q3.2 q6.2)).bind fun q7 =>
    bif (q6.1 != q7.1) then (
      K (.bool false) q7.2)
    else
    (w.file_Store_Up s1 (Heap.frz q7.2)).bind fun q8 =>
    (m2).bind fun q9 =>
    (bool? (Heap.cell? (Heap.back q7.2 q8.2) q9.1 (q9.2 + 3))).bind fun x10 =>
    bif (q8.1 == x10) then (
      K (.bool false) (Heap.back q7.2 q8.2))
    else
    (m2).bind fun q11 =>
    (slice? (Heap.cell? (Heap.back q7.2 q8.2) q11.1 q11.2) 3).bind fun x12 =>
    law04_same_L5 w L L s1 m2 q3.1 x12 0 (Heap.back q7.2 q8.2) K := by kernel_rfl
/-! law04_FileRuns -/
noncomputable def law04_FileRuns_L8 {R : Type} (w : C_law04_FileRuns) (L fu0 : Nat) (s_1 : Pt) (b6 : Nat) (calls2 : Sl) (x_2 : Int) (σ : Heap) (K : AVal → Heap → Option R) : Option R :=
  loopAt T (O_law04_FileRuns w) L 1 6 Try.f6 [1, 1, 1, 1, 1, 0, 1, 0] [] fu0
    (List.replicate 5 .undef ++ [.ptr s_1, .ptr (some (b6, 0))] ++ List.replicate 14 .undef ++ [.slice calls2.b calls2.o calls2.n 5, .int .i64 (calls2.n : Int), .int .i64 x_2] ++ List.replicate 21 .undef)
    (List.replicate 45 .none) σ K
set_option maxRecDepth 100000 in
theorem law04_FileRuns_L8_eq {R : Type} (w : C_law04_FileRuns) (L fu0 : Nat) (s_1 : Pt) (b6 : Nat) (calls2 : Sl) (x_2 : Int) (σ : Heap) (K : AVal → Heap → Option R) :
    law04_FileRuns_L8 w L (fu0 + 1) s_1 b6 calls2 x_2 σ K =
    bif (decide (x_2 < (calls2.n : Int))) then (
      bif ((decide (0 ≤ x_2)) && (decide (x_2 < (calls2.n : Int)))) then (
        (calls2.b).bind fun b8 =>
        (int? (Heap.cell? σ b8 (calls2.o + x_2.toNat * 5)) .i64).bind fun x9 =>
        (int? (Heap.cell? σ b8 ((calls2.o + x_2.toNat * 5) + 1)) .i64).bind fun x10 =>
        (str? (Heap.cell? σ b8 ((calls2.o + x_2.toNat * 5) + 2))).bind fun x11 =>
        (str? (Heap.cell? σ b8 ((calls2.o + x_2.toNat * 5) + 3))).bind fun x12 =>
        (slice? (Heap.cell? σ b8 ((calls2.o + x_2.toNat * 5) + 4)) 1).bind fun x13 =>
        (w.law04_model_do (some (b6, 0)) ⟨x9, x10, x11, x12, ⟨x13.1, x13.2.1, x13.2.2⟩⟩ σ).bind fun q14 =>
        (w.law04_do s_1 ⟨x9, x10, x11, x12, ⟨x13.1, x13.2.1, x13.2.2⟩⟩ q14.2).bind fun q15 =>
        bif (q15.1 != q14.1) then (
          K (.bool false) q15.2)
        else
        (w.law04_same s_1 (some (b6, 0)) q15.2).bind fun q16 =>
        bif (!q16.1) then (
          K (.bool false) q16.2)
        else
        law04_FileRuns_L8 w L fu0 s_1 b6 calls2 (IntKind.i64.wrap (x_2 + 1)) q16.2 K)
      else none)
    else
    (w.file_Store_Sure s_1 (⟨#[126, 126, 126, 126, 126, 126, 126, 126, 126, 126, 126, 126, 126, 126, 126]⟩ : ByteArray) σ).bind fun q17 =>
    K (.bool (q17.1 == 0)) q17.2 := by kernel_rfl
set_option maxRecDepth 100000 in
theorem law04_FileRuns_eq {R : Type} (w : C_law04_FileRuns) (L : Nat) (quota1 : Int) (calls2 : Sl) (σ : Heap) (K : AVal → Heap → Option R) :
    callC T (O_law04_FileRuns w) L 2 6 [.int .i64 quota1, .slice calls2.b calls2.o calls2.n 5] σ K =
    (w.law04_fit σ).bind fun q3 =>
    bif (!q3.1) then (
      K (.bool false) q3.2)
    else
    (w.law04_short calls2 q3.2).bind fun q4 =>
    bif (!q4.1) then (
      K (.bool true) q4.2)
    else
    (w.file_New quota1 q4.2).bind fun q5 =>
    alloc q5.2 [.slice none 0 0 3, .int .i64 (if 0 > quota1 then 0 else quota1), .int .i64 (-1), .bool false] fun b6 σ7 =>
    law04_FileRuns_L8 w L L q5.1 b6 calls2 0 σ7 K := by kernel_rfl
/-! law04_FileCrash -/
noncomputable def law04_FileCrash_L7 {R : Type} (w : C_law04_FileCrash) (L fu0 : Nat) (keep2 : Sl) (s_1 : Pt) (calls1 : Sl) (x_2 : Int) (σ : Heap) (K : AVal → Heap → Option R) : Option R :=
  loopAt T (O_law04_FileCrash w) L 1 7 Try.f7 [1, 1, 1, 1, 0, 1, 0] [] fu0
    ([.undef, .slice keep2.b keep2.o keep2.n 1, .undef, .undef, .undef, .ptr s_1] ++ List.replicate 26 .undef ++ [.slice calls1.b calls1.o calls1.n 5, .int .i64 (calls1.n : Int), .int .i64 x_2] ++ List.replicate 150 .undef)
    (List.replicate 185 .none) σ K
noncomputable def law04_FileCrash_L16 {R : Type} (w : C_law04_FileCrash) (L fu0 : Nat) (keep2 : Sl) (s_1 : Pt) (names_3 : Sl) (was_6 : Sl) (sure_7 : Sl) (x_4 : Sl) (x_5 : Int) (x_8 : Int) (σ : Heap) (K : AVal → Heap → Option R) : Option R :=
  loopAt T (O_law04_FileCrash w) L 1 7 Try.f7 [1, 1, 1, 1, 1, 1, 1, 1, 0, 1, 0] [] fu0
    ([.undef, .slice keep2.b keep2.o keep2.n 1, .undef, .undef, .undef, .ptr s_1, .undef, .undef, .slice names_3.b names_3.o names_3.n 1, .slice was_6.b was_6.o was_6.n 1, .slice sure_7.b sure_7.o sure_7.n 1] ++ List.replicate 36 .undef ++ [.slice x_4.b x_4.o x_4.n 1, .int .i64 x_5, .int .i64 x_8] ++ List.replicate 135 .undef)
    (List.replicate 185 .none) σ K
noncomputable def law04_FileCrash_L23 {R : Type} (w : C_law04_FileCrash) (L fu0 : Nat) (keep2 : Sl) (s_1 : Pt) (names_3 : Sl) (was_6 : Sl) (sure_7 : Sl) (x_9 : Int) (σ : Heap) (K : AVal → Heap → Option R) : Option R :=
  loopAt T (O_law04_FileCrash w) L 1 7 Try.f7 [1, 1, 1, 1, 1, 1, 1, 1, 1, 1, 0, 1, 0] [] fu0
    ([.undef, .slice keep2.b keep2.o keep2.n 1, .undef, .undef, .undef, .ptr s_1, .undef, .undef, .slice names_3.b names_3.o names_3.n 1, .slice was_6.b was_6.o was_6.n 1, .slice sure_7.b sure_7.o sure_7.n 1] ++ List.replicate 63 .undef ++ [.slice names_3.b names_3.o names_3.n 1, .int .i64 (names_3.n : Int), .int .i64 x_9] ++ List.replicate 108 .undef)
    (List.replicate 185 .none) σ K
set_option maxRecDepth 100000 in
theorem law04_FileCrash_L7_eq {R : Type} (w : C_law04_FileCrash) (L fu0 : Nat) (keep2 : Sl) (s_1 : Pt) (calls1 : Sl) (x_2 : Int) (σ : Heap) (K : AVal → Heap → Option R) :
    law04_FileCrash_L7 w L (fu0 + 1) keep2 s_1 calls1 x_2 σ K =
    bif (decide (x_2 < (calls1.n : Int))) then (
      bif ((decide (0 ≤ x_2)) && (decide (x_2 < (calls1.n : Int)))) then (
        (calls1.b).bind fun b6 =>
        (int? (Heap.cell? σ b6 (calls1.o + x_2.toNat * 5)) .i64).bind fun x7 =>
        (int? (Heap.cell? σ b6 ((calls1.o + x_2.toNat * 5) + 1)) .i64).bind fun x8 =>
        (str? (Heap.cell? σ b6 ((calls1.o + x_2.toNat * 5) + 2))).bind fun x9 =>
        (str? (Heap.cell? σ b6 ((calls1.o + x_2.toNat * 5) + 3))).bind fun x10 =>
        (slice? (Heap.cell? σ b6 ((calls1.o + x_2.toNat * 5) + 4)) 1).bind fun x11 =>
        (w.law04_Call_kind ⟨x7, x8, x9, x10, ⟨x11.1, x11.2.1, x11.2.2⟩⟩ σ).bind fun q12 =>
        bif (q12.1 != 6) then (
          (w.law04_do s_1 ⟨x7, x8, x9, x10, ⟨x11.1, x11.2.1, x11.2.2⟩⟩ q12.2).bind fun q13 =>
          law04_FileCrash_L7 w L fu0 keep2 s_1 calls1 (IntKind.i64.wrap (x_2 + 1)) q13.2 K)
        else law04_FileCrash_L7 w L fu0 keep2 s_1 calls1 (IntKind.i64.wrap (x_2 + 1)) q12.2 K)
      else none)
    else
    (w.file_Store_Names s_1 σ).bind fun q14 =>
    law04_FileCrash_L16 w L L keep2 s_1 q14.1 ⟨none, 0, 0⟩ ⟨none, 0, 0⟩ q14.1 (q14.1.n : Int) 0 q14.2 K := by kernel_rfl
set_option maxRecDepth 100000 in
theorem law04_FileCrash_L16_eq {R : Type} (w : C_law04_FileCrash) (L fu0 : Nat) (keep2 : Sl) (s_1 : Pt) (names_3 : Sl) (was_6 : Sl) (sure_7 : Sl) (x_4 : Sl) (x_5 : Int) (x_8 : Int) (σ : Heap) (K : AVal → Heap → Option R) :
    law04_FileCrash_L16 w L (fu0 + 1) keep2 s_1 names_3 was_6 sure_7 x_4 x_5 x_8 σ K =
    bif (decide (x_8 < x_5)) then (
      bif ((decide (0 ≤ x_8)) && (decide (x_8 < (x_4.n : Int)))) then (
        (x_4.b).bind fun b15 =>
        (str? (Heap.cell? σ b15 (x_4.o + x_8.toNat * 1))).bind fun x16 =>
        (w.file_Store_Read s_1 x16 σ).bind fun q17 =>
        (Heap.read q17.2 q17.1.1.b q17.1.1.o q17.1.1.n 1).bind fun cs18 =>
        (bytesOf cs18).bind fun bs19 =>
        (Heap.append q17.2 was_6.b was_6.o was_6.n 1 16 [.str (⟨bs19.toArray⟩ : ByteArray)] 1).bind fun q20 =>
        (w.file_Store_Sure s_1 x16 q20.2).bind fun q21 =>
        (Heap.append q21.2 sure_7.b sure_7.o sure_7.n 1 8 [.int .i64 q21.1] 1).bind fun q22 =>
        law04_FileCrash_L16 w L fu0 keep2 s_1 names_3 ⟨q20.1.1, q20.1.2.1, q20.1.2.2⟩ ⟨q22.1.1, q22.1.2.1, q22.1.2.2⟩ x_4 x_5 (IntKind.i64.wrap (x_8 + 1)) q22.2 K)
      else none)
    else
    (w.file_Store_Crash s_1 keep2 σ).bind fun q23 =>
    law04_FileCrash_L23 w L L keep2 s_1 names_3 was_6 sure_7 0 q23.2 K := by kernel_rfl
set_option maxRecDepth 100000 in
theorem law04_FileCrash_L23_eq {R : Type} (w : C_law04_FileCrash) (L fu0 : Nat) (keep2 : Sl) (s_1 : Pt) (names_3 : Sl) (was_6 : Sl) (sure_7 : Sl) (x_9 : Int) (σ : Heap) (K : AVal → Heap → Option R) :
    law04_FileCrash_L23 w L (fu0 + 1) keep2 s_1 names_3 was_6 sure_7 x_9 σ K =
    bif (decide (x_9 < (names_3.n : Int))) then (
      bif ((decide (0 ≤ x_9)) && (decide (x_9 < (names_3.n : Int)))) then (
        (names_3.b).bind fun b24 =>
        (str? (Heap.cell? σ b24 (names_3.o + x_9.toNat * 1))).bind fun x25 =>
        (w.file_Store_Read s_1 x25 σ).bind fun q26 =>
        bif (q26.1.2 != 0) then (
          K (.bool false) q26.2)
        else
        bif ((decide (0 ≤ x_9)) && (decide (x_9 < (sure_7.n : Int)))) then (
          (sure_7.b).bind fun b27 =>
          (int? (Heap.cell? q26.2 b27 (sure_7.o + x_9.toNat * 1)) .i64).bind fun x28 =>
          bif (decide ((q26.1.1.n : Int) < x28)) then (
            K (.bool false) q26.2)
          else
          bif ((decide (0 ≤ x_9)) && (decide (x_9 < (was_6.n : Int)))) then (
            (was_6.b).bind fun b29 =>
            (str? (Heap.cell? q26.2 b29 (was_6.o + x_9.toNat * 1))).bind fun x30 =>
            bif (decide ((q26.1.1.n : Int) > (x30.size : Int))) then (
              K (.bool false) q26.2)
            else
            bif ((decide (0 ≤ x_9)) && (decide (x_9 < (was_6.n : Int)))) then (
              (was_6.b).bind fun b31 =>
              (str? (Heap.cell? q26.2 b31 (was_6.o + x_9.toNat * 1))).bind fun x32 =>
              bif ((decide (0 ≤ (q26.1.1.n : Int))) && (decide ((q26.1.1.n : Int) ≤ (x32.size : Int)))) then (
                (Heap.read q26.2 q26.1.1.b q26.1.1.o q26.1.1.n 1).bind fun cs33 =>
                (bytesOf cs33).bind fun bs34 =>
                bif (!((x32.extract 0 q26.1.1.n).toList == (⟨bs34.toArray⟩ : ByteArray).toList)) then (
                  K (.bool false) q26.2)
                else
                (w.file_Store_Sure s_1 x25 (Heap.frz q26.2)).bind fun q35 =>
                bif (q35.1 != (q26.1.1.n : Int)) then (
                  K (.bool false) (Heap.back q26.2 q35.2))
                else
                bif (decide (x_9 < (keep2.n : Int))) then (
                  bif ((decide (0 ≤ x_9)) && (decide (x_9 < (keep2.n : Int)))) then (
                    (keep2.b).bind fun b36 =>
                    (int? (Heap.cell? (Heap.back q26.2 q35.2) b36 (keep2.o + x_9.toNat * 1)) .i64).bind fun x37 =>
                    bif ((decide (0 ≤ x_9)) && (decide (x_9 < (was_6.n : Int)))) then (
                      (was_6.b).bind fun b38 =>
                      (str? (Heap.cell? (Heap.back q26.2 q35.2) b38 (was_6.o + x_9.toNat * 1))).bind fun x39 =>
                      bif (decide ((q26.1.1.n : Int) < (x39.size : Int))) then (
                        bif ((decide (0 ≤ x_9)) && (decide (x_9 < (sure_7.n : Int)))) then (
                          (sure_7.b).bind fun b40 =>
                          (int? (Heap.cell? (Heap.back q26.2 q35.2) b40 (sure_7.o + x_9.toNat * 1)) .i64).bind fun x41 =>
                          bif ((IntKind.i64.wrap ((q26.1.1.n : Int) - x41)) != (if 0 > x37 then 0 else x37)) then (
                            K (.bool false) (Heap.back q26.2 q35.2))
                          else
                          bif ((decide (0 ≤ x_9)) && (decide (x_9 < (sure_7.n : Int)))) then (
                            (sure_7.b).bind fun b42 =>
                            (int? (Heap.cell? (Heap.back q26.2 q35.2) b42 (sure_7.o + x_9.toNat * 1)) .i64).bind fun x43 =>
                            bif (decide ((IntKind.i64.wrap ((q26.1.1.n : Int) - x43)) > (if 0 > x37 then 0 else x37))) then (
                              K (.bool false) (Heap.back q26.2 q35.2))
                            else
                            law04_FileCrash_L23 w L fu0 keep2 s_1 names_3 was_6 sure_7 (IntKind.i64.wrap (x_9 + 1)) (Heap.back q26.2 q35.2) K)
                          else none)
                        else none)
                      else
                      bif ((decide (0 ≤ x_9)) && (decide (x_9 < (sure_7.n : Int)))) then (
                        (sure_7.b).bind fun b44 =>
                        (int? (Heap.cell? (Heap.back q26.2 q35.2) b44 (sure_7.o + x_9.toNat * 1)) .i64).bind fun x45 =>
                        bif (decide ((IntKind.i64.wrap ((q26.1.1.n : Int) - x45)) > (if 0 > x37 then 0 else x37))) then (
                          K (.bool false) (Heap.back q26.2 q35.2))
                        else
                        law04_FileCrash_L23 w L fu0 keep2 s_1 names_3 was_6 sure_7 (IntKind.i64.wrap (x_9 + 1)) (Heap.back q26.2 q35.2) K)
                      else none)
                    else none)
                  else none)
                else
                bif ((decide (0 ≤ x_9)) && (decide (x_9 < (was_6.n : Int)))) then (
                  (was_6.b).bind fun b46 =>
                  (str? (Heap.cell? (Heap.back q26.2 q35.2) b46 (was_6.o + x_9.toNat * 1))).bind fun x47 =>
                  bif (decide ((q26.1.1.n : Int) < (x47.size : Int))) then (
                    bif ((decide (0 ≤ x_9)) && (decide (x_9 < (sure_7.n : Int)))) then (
                      (sure_7.b).bind fun b48 =>
                      (int? (Heap.cell? (Heap.back q26.2 q35.2) b48 (sure_7.o + x_9.toNat * 1)) .i64).bind fun x49 =>
                      bif ((IntKind.i64.wrap ((q26.1.1.n : Int) - x49)) != 0) then (
                        K (.bool false) (Heap.back q26.2 q35.2))
                      else
                      bif ((decide (0 ≤ x_9)) && (decide (x_9 < (sure_7.n : Int)))) then (
                        (sure_7.b).bind fun b50 =>
                        (int? (Heap.cell? (Heap.back q26.2 q35.2) b50 (sure_7.o + x_9.toNat * 1)) .i64).bind fun x51 =>
                        bif (decide ((IntKind.i64.wrap ((q26.1.1.n : Int) - x51)) > 0)) then (
                          K (.bool false) (Heap.back q26.2 q35.2))
                        else
                        law04_FileCrash_L23 w L fu0 keep2 s_1 names_3 was_6 sure_7 (IntKind.i64.wrap (x_9 + 1)) (Heap.back q26.2 q35.2) K)
                      else none)
                    else none)
                  else
                  bif ((decide (0 ≤ x_9)) && (decide (x_9 < (sure_7.n : Int)))) then (
                    (sure_7.b).bind fun b52 =>
                    (int? (Heap.cell? (Heap.back q26.2 q35.2) b52 (sure_7.o + x_9.toNat * 1)) .i64).bind fun x53 =>
                    bif (decide ((IntKind.i64.wrap ((q26.1.1.n : Int) - x53)) > 0)) then (
                      K (.bool false) (Heap.back q26.2 q35.2))
                    else
                    law04_FileCrash_L23 w L fu0 keep2 s_1 names_3 was_6 sure_7 (IntKind.i64.wrap (x_9 + 1)) (Heap.back q26.2 q35.2) K)
                  else none)
                else none)
              else none)
            else none)
          else none)
        else none)
      else none)
    else
    (w.file_Store_Used s_1 σ).bind fun q54 =>
    (w.file_Store_Crash s_1 keep2 q54.2).bind fun q55 =>
    (w.file_Store_Used s_1 q55.2).bind fun q56 =>
    bif (q56.1 == q54.1) then (
      (w.file_Store_Names s_1 q56.2).bind fun q57 =>
      K (.bool ((q57.1.n : Int) == (names_3.n : Int))) q57.2)
    else K (.bool false) q56.2 := by kernel_rfl
set_option maxRecDepth 100000 in
theorem law04_FileCrash_eq {R : Type} (w : C_law04_FileCrash) (L : Nat) (calls1 : Sl) (keep2 : Sl) (σ : Heap) (K : AVal → Heap → Option R) :
    callC T (O_law04_FileCrash w) L 2 7 [.slice calls1.b calls1.o calls1.n 5, .slice keep2.b keep2.o keep2.n 1] σ K =
    (w.law04_fit σ).bind fun q3 =>
    bif (!q3.1) then (
      K (.bool false) q3.2)
    else
    (w.law04_short calls1 q3.2).bind fun q4 =>
    bif (!q4.1) then (
      K (.bool true) q4.2)
    else
    bif (decide ((keep2.n : Int) > 100)) then (
      K (.bool true) q4.2)
    else
    (w.file_New 1048576 q4.2).bind fun q5 =>
    law04_FileCrash_L7 w L L keep2 q5.1 calls1 0 q5.2 K := by kernel_rfl
/-! shelf_Save -/
set_option maxRecDepth 100000 in
theorem shelf_Save_eq {R : Type} (w : C_shelf_Save) (L : Nat) (s1 : Pt) (name2 : ByteArray) (b3 : Sl) (σ : Heap) (K : AVal → Heap → Option R) :
    callC T (O_shelf_Save w) L 2 31 [.ptr s1, .str name2, .slice b3.b b3.o b3.n 1] σ K =
    bif (name2.toList == (⟨#[]⟩ : ByteArray).toList) then (
      K (.int .i64 3) σ)
    else
    bif (decide ((name2.size : Int) > 12)) then (
      K (.int .i64 3) σ)
    else
    bif (name2.toList == (⟨#[126]⟩ : ByteArray).toList) then (
      K (.int .i64 3) σ)
    else
    (w.shelf_write s1 name2 b3 σ).bind fun q4 =>
    K (.int .i64 q4.1) q4.2 := by kernel_rfl
/-! shelf_Names -/
noncomputable def shelf_Names_L3 {R : Type} (w : C_shelf_Names) (L fu0 : Nat) (out_3 : Sl) (x_1 : Sl) (x_2 : Int) (x_4 : Int) (σ : Heap) (K : AVal → Heap → Option R) : Option R :=
  loopAt T (O_shelf_Names w) L 1 35 Try.f35 [1, 1, 0, 1, 0] [] fu0
    ([.undef, .undef, .undef, .slice out_3.b out_3.o out_3.n 1, .undef, .undef, .undef, .slice x_1.b x_1.o x_1.n 1, .int .i64 x_2, .int .i64 x_4] ++ List.replicate 11 .undef)
    (List.replicate 21 .none) σ K
set_option maxRecDepth 100000 in
theorem shelf_Names_L3_eq {R : Type} (w : C_shelf_Names) (L fu0 : Nat) (out_3 : Sl) (x_1 : Sl) (x_2 : Int) (x_4 : Int) (σ : Heap) (K : AVal → Heap → Option R) :
    shelf_Names_L3 w L (fu0 + 1) out_3 x_1 x_2 x_4 σ K =
    bif (decide (x_4 < x_2)) then (
      bif ((decide (0 ≤ x_4)) && (decide (x_4 < (x_1.n : Int)))) then (
        (x_1.b).bind fun b3 =>
        (str? (Heap.cell? σ b3 (x_1.o + x_4.toNat * 1))).bind fun x4 =>
        bif (!(x4.toList == (⟨#[126]⟩ : ByteArray).toList)) then (
          (Heap.append σ out_3.b out_3.o out_3.n 1 16 [.str x4] 1).bind fun q5 =>
          shelf_Names_L3 w L fu0 ⟨q5.1.1, q5.1.2.1, q5.1.2.2⟩ x_1 x_2 (IntKind.i64.wrap (x_4 + 1)) q5.2 K)
        else shelf_Names_L3 w L fu0 out_3 x_1 x_2 (IntKind.i64.wrap (x_4 + 1)) σ K)
      else none)
    else K (.slice out_3.b out_3.o out_3.n 1) σ := by kernel_rfl
set_option maxRecDepth 100000 in
theorem shelf_Names_eq {R : Type} (w : C_shelf_Names) (L : Nat) (s1 : Pt) (σ : Heap) (K : AVal → Heap → Option R) :
    callC T (O_shelf_Names w) L 2 35 [.ptr s1] σ K =
    (w.file_Store_Names s1 σ).bind fun q2 =>
    shelf_Names_L3 w L L ⟨none, 0, 0⟩ q2.1 (q2.1.n : Int) 0 q2.2 K := by kernel_rfl
/-! law19_fit -/
set_option maxRecDepth 100000 in
theorem law19_fit_eq {R : Type} (w : C_law19_fit) (L : Nat) (σ : Heap) (K : AVal → Heap → Option R) :
    callC T (O_law19_fit w) L 2 30 [] σ K =
    (w.file_New 20 σ).bind fun q1 =>
    bif (Option.isNone q1.1) then (
      K (.bool false) q1.2)
    else
    alloc q1.2 [.int .u8 120, .int .u8 121] fun b2 σ3 =>
    (Heap.rwRow σ3 b2).bind fun _ =>
    (w.shelf_Save q1.1 (⟨#[97]⟩ : ByteArray) ⟨(some b2), 0, 2⟩ σ3).bind fun q5 =>
    (w.file_Store_Crash q1.1 ⟨none, 0, 0⟩ q5.2).bind fun q6 =>
    (w.file_Store_Read q1.1 (⟨#[97]⟩ : ByteArray) q6.2).bind fun q7 =>
    bif (q5.1 == 0) then (
      bif (q7.1.2 == 0) then (
        (Heap.read q7.2 q7.1.1.b q7.1.1.o q7.1.1.n 1).bind fun cs8 =>
        (bytesOf cs8).bind fun bs9 =>
        bif ((⟨bs9.toArray⟩ : ByteArray).toList == (⟨#[120, 121]⟩ : ByteArray).toList) then (
          (w.shelf_Names q1.1 q7.2).bind fun q10 =>
          K (.bool ((q10.1.n : Int) == 1)) q10.2)
        else K (.bool false) q7.2)
      else K (.bool false) q7.2)
    else K (.bool false) q7.2 := by kernel_rfl
/-! law19_Get -/
set_option maxRecDepth 100000 in
theorem law19_Get_eq {R : Type} (w : C_law19_Get) (L : Nat) (s1 : Pt) (name2 : ByteArray) (σ : Heap) (K : AVal → Heap → Option R) :
    callC T (O_law19_Get w) L 2 32 [.ptr s1, .str name2] σ K =
    (w.file_Store_Read s1 name2 σ).bind fun q3 =>
    (Heap.read q3.2 q3.1.1.b q3.1.1.o q3.1.1.n 1).bind fun cs4 =>
    (bytesOf cs4).bind fun bs5 =>
    (w.file_Store_Sure s1 name2 (Heap.frz q3.2)).bind fun q6 =>
    K (.agg [.str (⟨bs5.toArray⟩ : ByteArray), .int .i64 q6.1, .bool (q3.1.2 == 0)]) (Heap.back q3.2 q6.2) := by kernel_rfl
/-! law19_ShelfAgain -/
noncomputable def law19_ShelfAgain_L8 {R : Type} (w : C_law19_ShelfAgain) (L fu0 : Nat) (l1 : Sl) (fuses2 : Sl) (s_1 : Pt) (least_7 : Int) (x_3 : Int) (σ : Heap) (K : AVal → Heap → Option R) : Option R :=
  loopAt T (O_law19_ShelfAgain w) L 1 8 Try.f8 [1, 1, 1, 1, 1, 0, 1, 0] [] fu0
    ([.slice l1.b l1.o l1.n 1, .slice fuses2.b fuses2.o fuses2.n 1, .undef, .undef, .undef, .ptr s_1, .int .i64 least_7] ++ List.replicate 16 .undef ++ [.slice l1.b l1.o l1.n 1, .int .i64 (l1.n : Int), .int .i64 x_3] ++ List.replicate 66 .undef)
    (List.replicate 92 .none) σ K
noncomputable def law19_ShelfAgain_L23 {R : Type} (w : C_law19_ShelfAgain) (L fu0 fu1 : Nat) (l1 : Sl) (fuses2 : Sl) (s_1 : Pt) (least_4 : Int) (x_3 : Int) (found_5 : Bool) (k_6 : Int) (now_2 : law19_One) (σ : Heap) (K : AVal → Heap → Option R) : Option R :=
  loopAt T (O_law19_ShelfAgain w) L 1 8 Try.f8 [1, 1, 1, 1, 1, 0, 1, 0, 0, 1, 1, 0, 0, 1, 1, 1, 1, 1, 1, 1, 1, 0, 1, 0] [fu0] fu1
    ([.slice l1.b l1.o l1.n 1, .slice fuses2.b fuses2.o fuses2.n 1, .undef, .undef, .undef, .ptr s_1, .int .i64 least_4, .int .i64 x_3, .undef, .lptr 9 0, .bool found_5, .int .i64 k_6] ++ List.replicate 11 .undef ++ [.slice l1.b l1.o l1.n 1, .int .i64 (l1.n : Int), .int .i64 x_3] ++ List.replicate 66 .undef)
    (List.replicate 9 .none ++ [.cells [.str now_2.Data, .int .i64 now_2.Sure, .bool now_2.There]] ++ List.replicate 82 .none) σ K
set_option maxRecDepth 100000 in
theorem law19_ShelfAgain_L8_eq {R : Type} (w : C_law19_ShelfAgain) (L fu0 : Nat) (l1 : Sl) (fuses2 : Sl) (s_1 : Pt) (least_7 : Int) (x_3 : Int) (σ : Heap) (K : AVal → Heap → Option R) :
    law19_ShelfAgain_L8 w L (fu0 + 1) l1 fuses2 s_1 least_7 x_3 σ K =
    bif (decide (x_3 < (l1.n : Int))) then (
      bif ((decide (0 ≤ x_3)) && (decide (x_3 < (l1.n : Int)))) then (
        (l1.b).bind fun b5 =>
        (slice? (Heap.cell? σ b5 (l1.o + x_3.toNat * 1)) 1).bind fun x6 =>
        bif (decide ((x6.2.2 : Int) > 200)) then (
          K (.bool true) σ)
        else
        bif (decide (x_3 < (fuses2.n : Int))) then (
          bif ((decide (0 ≤ x_3)) && (decide (x_3 < (fuses2.n : Int)))) then (
            (fuses2.b).bind fun b7 =>
            (int? (Heap.cell? σ b7 (fuses2.o + x_3.toNat * 1)) .i64).bind fun x8 =>
            (w.file_Store_Fuse s_1 (IntKind.i64.wrap (BitVec.ofInt IntKind.i64.bits x8 &&& BitVec.ofInt IntKind.i64.bits 7).toNat) σ).bind fun q9 =>
            (w.shelf_Save s_1 (⟨#[102]⟩ : ByteArray) ⟨x6.1, x6.2.1, x6.2.2⟩ q9.2).bind fun q10 =>
            bif (q10.1 == 0) then (
              alloc q10.2 [.int .i64 (IntKind.i64.wrap (BitVec.ofInt IntKind.i64.bits x_3 &&& BitVec.ofInt IntKind.i64.bits 3).toNat), .int .i64 (IntKind.i64.wrap (BitVec.ofInt IntKind.i64.bits x_3 &&& BitVec.ofInt IntKind.i64.bits 3).toNat)] fun b11 σ12 =>
              (w.file_Store_Crash s_1 ⟨(some b11), 0, 2⟩ σ12).bind fun q13 =>
              (w.law19_Get s_1 (⟨#[102]⟩ : ByteArray) q13.2).bind fun q14 =>
              bif (!q14.1.There) then (
                bif (decide (x_3 ≥ 0)) then (
                  K (.bool false) q14.2)
                else
                law19_ShelfAgain_L8 w L fu0 l1 fuses2 s_1 x_3 (IntKind.i64.wrap (x_3 + 1)) q14.2 K)
              else law19_ShelfAgain_L23 w L fu0 L l1 fuses2 s_1 x_3 x_3 false (if 0 > x_3 then 0 else x_3) q14.1 q14.2 K)
            else
            alloc q10.2 [.int .i64 (IntKind.i64.wrap (BitVec.ofInt IntKind.i64.bits x_3 &&& BitVec.ofInt IntKind.i64.bits 3).toNat), .int .i64 (IntKind.i64.wrap (BitVec.ofInt IntKind.i64.bits x_3 &&& BitVec.ofInt IntKind.i64.bits 3).toNat)] fun b15 σ16 =>
            (w.file_Store_Crash s_1 ⟨(some b15), 0, 2⟩ σ16).bind fun q17 =>
            (w.law19_Get s_1 (⟨#[102]⟩ : ByteArray) q17.2).bind fun q18 =>
            bif (!q18.1.There) then (
              bif (decide (least_7 ≥ 0)) then (
                K (.bool false) q18.2)
              else
              law19_ShelfAgain_L8 w L fu0 l1 fuses2 s_1 least_7 (IntKind.i64.wrap (x_3 + 1)) q18.2 K)
            else law19_ShelfAgain_L23 w L fu0 L l1 fuses2 s_1 least_7 x_3 false (if 0 > least_7 then 0 else least_7) q18.1 q18.2 K)
          else none)
        else
        (w.shelf_Save s_1 (⟨#[102]⟩ : ByteArray) ⟨x6.1, x6.2.1, x6.2.2⟩ σ).bind fun q19 =>
        bif (q19.1 == 0) then (
          alloc q19.2 [.int .i64 (IntKind.i64.wrap (BitVec.ofInt IntKind.i64.bits x_3 &&& BitVec.ofInt IntKind.i64.bits 3).toNat), .int .i64 (IntKind.i64.wrap (BitVec.ofInt IntKind.i64.bits x_3 &&& BitVec.ofInt IntKind.i64.bits 3).toNat)] fun b20 σ21 =>
          (w.file_Store_Crash s_1 ⟨(some b20), 0, 2⟩ σ21).bind fun q22 =>
          (w.law19_Get s_1 (⟨#[102]⟩ : ByteArray) q22.2).bind fun q23 =>
          bif (!q23.1.There) then (
            bif (decide (x_3 ≥ 0)) then (
              K (.bool false) q23.2)
            else
            law19_ShelfAgain_L8 w L fu0 l1 fuses2 s_1 x_3 (IntKind.i64.wrap (x_3 + 1)) q23.2 K)
          else law19_ShelfAgain_L23 w L fu0 L l1 fuses2 s_1 x_3 x_3 false (if 0 > x_3 then 0 else x_3) q23.1 q23.2 K)
        else
        alloc q19.2 [.int .i64 (IntKind.i64.wrap (BitVec.ofInt IntKind.i64.bits x_3 &&& BitVec.ofInt IntKind.i64.bits 3).toNat), .int .i64 (IntKind.i64.wrap (BitVec.ofInt IntKind.i64.bits x_3 &&& BitVec.ofInt IntKind.i64.bits 3).toNat)] fun b24 σ25 =>
        (w.file_Store_Crash s_1 ⟨(some b24), 0, 2⟩ σ25).bind fun q26 =>
        (w.law19_Get s_1 (⟨#[102]⟩ : ByteArray) q26.2).bind fun q27 =>
        bif (!q27.1.There) then (
          bif (decide (least_7 ≥ 0)) then (
            K (.bool false) q27.2)
          else
          law19_ShelfAgain_L8 w L fu0 l1 fuses2 s_1 least_7 (IntKind.i64.wrap (x_3 + 1)) q27.2 K)
        else law19_ShelfAgain_L23 w L fu0 L l1 fuses2 s_1 least_7 x_3 false (if 0 > least_7 then 0 else least_7) q27.1 q27.2 K)
      else none)
    else K (.bool true) σ := by kernel_rfl
set_option maxRecDepth 100000 in
theorem law19_ShelfAgain_L23_eq {R : Type} (w : C_law19_ShelfAgain) (L fu0 fu1 : Nat) (l1 : Sl) (fuses2 : Sl) (s_1 : Pt) (least_4 : Int) (x_3 : Int) (found_5 : Bool) (k_6 : Int) (now_2 : law19_One) (σ : Heap) (K : AVal → Heap → Option R) :
    law19_ShelfAgain_L23 w L fu0 (fu1 + 1) l1 fuses2 s_1 least_4 x_3 found_5 k_6 now_2 σ K =
    bif (decide (k_6 ≤ x_3)) then (
      bif found_5 then (
        law19_ShelfAgain_L23 w L fu0 fu1 l1 fuses2 s_1 least_4 x_3 true (IntKind.i64.wrap (k_6 + 1)) now_2 σ K)
      else
      bif ((decide (0 ≤ k_6)) && (decide (k_6 < (l1.n : Int)))) then (
        (l1.b).bind fun b28 =>
        (slice? (Heap.cell? σ b28 (l1.o + k_6.toNat * 1)) 1).bind fun x29 =>
        (Heap.read σ x29.1 x29.2.1 x29.2.2 1).bind fun cs30 =>
        (bytesOf cs30).bind fun bs31 =>
        law19_ShelfAgain_L23 w L fu0 fu1 l1 fuses2 s_1 least_4 x_3 ((⟨bs31.toArray⟩ : ByteArray).toList == now_2.Data.toList) (IntKind.i64.wrap (k_6 + 1)) now_2 σ K)
      else none)
    else
    bif (!found_5) then (
      K (.bool false) σ)
    else
    bif (now_2.Sure != (now_2.Data.size : Int)) then (
      K (.bool false) σ)
    else
    law19_ShelfAgain_L8 w L fu0 l1 fuses2 s_1 least_4 (IntKind.i64.wrap (x_3 + 1)) σ K := by kernel_rfl
set_option maxRecDepth 100000 in
theorem law19_ShelfAgain_eq {R : Type} (w : C_law19_ShelfAgain) (L : Nat) (l1 : Sl) (fuses2 : Sl) (σ : Heap) (K : AVal → Heap → Option R) :
    callC T (O_law19_ShelfAgain w) L 2 8 [.slice l1.b l1.o l1.n 1, .slice fuses2.b fuses2.o fuses2.n 1] σ K =
    (w.law19_fit σ).bind fun q3 =>
    bif (!q3.1) then (
      K (.bool false) q3.2)
    else
    bif (decide ((l1.n : Int) > 30)) then (
      K (.bool true) q3.2)
    else
    bif (decide ((fuses2.n : Int) > 30)) then (
      K (.bool true) q3.2)
    else
    (w.file_New 1048576 q3.2).bind fun q4 =>
    law19_ShelfAgain_L8 w L L l1 fuses2 q4.1 (-1) 0 q4.2 K := by kernel_rfl
/-! law19_small -/
noncomputable def law19_small_L4 {R : Type} (L fu0 : Nat) (l1 : Sl) (x_1 : Int) (σ : Heap) (K : AVal → Heap → Option R) : Option R :=
  loopAt T known0 L 1 33 Try.f33 [1, 1, 0, 1, 0] [] fu0
    (List.replicate 8 .undef ++ [.slice l1.b l1.o l1.n 5, .int .i64 (l1.n : Int), .int .i64 x_1] ++ List.replicate 20 .undef)
    (List.replicate 31 .none) σ K
set_option maxRecDepth 100000 in
theorem law19_small_L4_eq {R : Type} (L fu0 : Nat) (l1 : Sl) (x_1 : Int) (σ : Heap) (K : AVal → Heap → Option R) :
    law19_small_L4 L (fu0 + 1) l1 x_1 σ K =
    bif (decide (x_1 < (l1.n : Int))) then (
      bif ((decide (0 ≤ x_1)) && (decide (x_1 < (l1.n : Int)))) then (
        (l1.b).bind fun b2 =>
        (int? (Heap.cell? σ b2 (l1.o + x_1.toNat * 5)) .i64).bind fun _ =>
        (int? (Heap.cell? σ b2 ((l1.o + x_1.toNat * 5) + 1)) .i64).bind fun _ =>
        (str? (Heap.cell? σ b2 ((l1.o + x_1.toNat * 5) + 2))).bind fun x5 =>
        (str? (Heap.cell? σ b2 ((l1.o + x_1.toNat * 5) + 3))).bind fun x6 =>
        (slice? (Heap.cell? σ b2 ((l1.o + x_1.toNat * 5) + 4)) 1).bind fun x7 =>
        bif (decide ((x7.2.2 : Int) > 100)) then (
          K (.bool false) σ)
        else
        bif (decide ((x5.size : Int) > 20)) then (
          K (.bool false) σ)
        else
        bif (decide ((x6.size : Int) > 20)) then (
          K (.bool false) σ)
        else
        law19_small_L4 L fu0 l1 (IntKind.i64.wrap (x_1 + 1)) σ K)
      else none)
    else K (.bool true) σ := by kernel_rfl
set_option maxRecDepth 100000 in
theorem law19_small_eq {R : Type} (L : Nat) (l1 : Sl) (σ : Heap) (K : AVal → Heap → Option R) :
    callC T known0 L 2 33 [.slice l1.b l1.o l1.n 5] σ K =
    bif (decide ((l1.n : Int) > 60)) then (
      K (.bool false) σ)
    else
    law19_small_L4 L L l1 0 σ K := by kernel_rfl
/-! law19_Do -/
set_option maxRecDepth 100000 in
theorem law19_Do_eq {R : Type} (w : C_law19_Do) (L : Nat) (s1 : Pt) (c2 : law04_Call) (σ : Heap) (K : AVal → Heap → Option R) :
    callC T (O_law19_Do w) L 2 34 [.ptr s1, .agg [.int .i64 c2.Kind, .int .i64 c2.N, .str c2.Name, .str c2.To, .slice c2.Data.b c2.Data.o c2.Data.n 1]] σ K =
    bif ((IntKind.i64.wrap (BitVec.ofInt IntKind.i64.bits c2.Kind &&& BitVec.ofInt IntKind.i64.bits 7).toNat) == 2) then (
      (w.file_Store_Sync s1 c2.Name σ).bind fun q3 =>
      K (.tuple []) q3.2)
    else
    bif ((IntKind.i64.wrap (BitVec.ofInt IntKind.i64.bits c2.Kind &&& BitVec.ofInt IntKind.i64.bits 7).toNat) == 3) then (
      (w.file_Store_Rename s1 c2.Name c2.To σ).bind fun q4 =>
      K (.tuple []) q4.2)
    else
    bif ((IntKind.i64.wrap (BitVec.ofInt IntKind.i64.bits c2.Kind &&& BitVec.ofInt IntKind.i64.bits 7).toNat) == 4) then (
      (w.file_Store_Delete s1 c2.Name σ).bind fun q5 =>
      K (.tuple []) q5.2)
    else
    bif ((IntKind.i64.wrap (BitVec.ofInt IntKind.i64.bits c2.Kind &&& BitVec.ofInt IntKind.i64.bits 7).toNat) == 5) then (
      (w.file_Store_Cut s1 c2.Name c2.N σ).bind fun q6 =>
      K (.tuple []) q6.2)
    else
    bif ((IntKind.i64.wrap (BitVec.ofInt IntKind.i64.bits c2.Kind &&& BitVec.ofInt IntKind.i64.bits 7).toNat) == 0) then (
      bif ((IntKind.i64.wrap (BitVec.ofInt IntKind.i64.bits c2.Kind &&& BitVec.ofInt IntKind.i64.bits 7).toNat) == 0) then (
        (w.file_Store_Append s1 c2.Name c2.Data σ).bind fun q7 =>
        K (.tuple []) q7.2)
      else K (.tuple []) σ)
    else
    bif ((IntKind.i64.wrap (BitVec.ofInt IntKind.i64.bits c2.Kind &&& BitVec.ofInt IntKind.i64.bits 7).toNat) == 1) then (
      (w.file_Store_Append s1 c2.Name c2.Data σ).bind fun q8 =>
      K (.tuple []) q8.2)
    else K (.tuple []) σ := by kernel_rfl
end Go.Abs.TC
