/-
Lifted functions: what the machine does, one equation for each entry and each loop (printed by lift.py).
-/
import Derived.Test.YtjfdgccoblanlaaSigC
namespace Go.Abs.TC
open Go Go.Abs Go.Proofs
/-! file_New -/
set_option maxRecDepth 100000 in
theorem file_New_eq {R : Type} (L : Nat) (quota1 : Int) (σ : Heap) (K : AVal → Heap → Option R) :
    callC T known0 L 2 15 [.int .i64 quota1] σ K =
    allocM σ fun m2 σ3 =>
    alloc σ3 [.map (some m2), .int .i64 (if 0 > quota1 then 0 else quota1), .bool false, .int .i64 0, .bool false] fun b4 σ5 =>
    K (.ptr (some (b4, 0))) σ5 := by kernel_rfl
/-! file_Store_Crash -/
noncomputable def file_Store_Crash_L1 {R : Type} (w : C_file_Store_Crash) (L fu0 : Nat) (s1 : Pt) (keep2 : Sl) (x_1 : Sl) (x_2 : Int) (x_3 : Int) (σ : Heap) (K : AVal → Heap → Option R) : Option R :=
  loopAt T (O_file_Store_Crash w) L 1 17 Try.f17 [0, 1, 0] [] fu0
    ([.ptr s1, .slice keep2.b keep2.o keep2.n 1] ++ List.replicate 7 .undef ++ [.slice x_1.b x_1.o x_1.n 1, .int .i64 x_2, .int .i64 x_3] ++ List.replicate 59 .undef)
    (List.replicate 71 .none) σ K
set_option maxRecDepth 100000 in
theorem file_Store_Crash_L1_eq {R : Type} (w : C_file_Store_Crash) (L fu0 : Nat) (s1 : Pt) (keep2 : Sl) (x_1 : Sl) (x_2 : Int) (x_3 : Int) (σ : Heap) (K : AVal → Heap → Option R) :
    file_Store_Crash_L1 w L (fu0 + 1) s1 keep2 x_1 x_2 x_3 σ K =
    bif (decide (x_3 < x_2)) then (
      bif ((decide (0 ≤ x_3)) && (decide (x_3 < (x_1.n : Int)))) then (
        (x_1.b).bind fun b4 =>
        (str? (Heap.cell? σ b4 (x_1.o + x_3.toNat * 1))).bind fun x5 =>
        (s1).bind fun q6 =>
        (map? (Heap.cell? σ q6.1 q6.2)).bind fun x7 =>
        (Heap.look σ x7 (.str x5) (.ptr none)).bind fun v8 =>
        (ptr? (some v8)).bind fun x9 =>
        bif (decide (x_3 < (keep2.n : Int))) then (
          bif ((decide (0 ≤ x_3)) && (decide (x_3 < (keep2.n : Int)))) then (
            (keep2.b).bind fun b10 =>
            (int? (Heap.cell? σ b10 (keep2.o + x_3.toNat * 1)) .i64).bind fun x11 =>
            (x9).bind fun q12 =>
            (slice? (Heap.cell? σ q12.1 q12.2) 1).bind fun x13 =>
            (x9).bind fun q14 =>
            (int? (Heap.cell? σ q14.1 (q14.2 + 1)) .i64).bind fun x15 =>
            (x9).bind fun q16 =>
            (slice? (Heap.cell? σ q16.1 q16.2) 1).bind fun x17 =>
            (x9).bind fun q18 =>
            (int? (Heap.cell? σ q18.1 (q18.2 + 1)) .i64).bind fun x19 =>
            bif ((decide (0 ≤ (IntKind.i64.wrap (x15 + (if (IntKind.i64.wrap ((x17.2.2 : Int) - x19)) < (if 0 > x11 then 0 else x11) then (IntKind.i64.wrap ((x17.2.2 : Int) - x19)) else (if 0 > x11 then 0 else x11)))))) && (decide ((IntKind.i64.wrap (x15 + (if (IntKind.i64.wrap ((x17.2.2 : Int) - x19)) < (if 0 > x11 then 0 else x11) then (IntKind.i64.wrap ((x17.2.2 : Int) - x19)) else (if 0 > x11 then 0 else x11)))) ≤ (x13.2.2 : Int)))) then (
              (x9).bind fun q20 =>
              (Heap.store σ q20.1 q20.2 [.slice x13.1 x13.2.1 ((IntKind.i64.wrap (x15 + (if (IntKind.i64.wrap ((x17.2.2 : Int) - x19)) < (if 0 > x11 then 0 else x11) then (IntKind.i64.wrap ((x17.2.2 : Int) - x19)) else (if 0 > x11 then 0 else x11)))).toNat) 1]).bind fun σ21 =>
              (x9).bind fun q22 =>
              (slice? (Heap.cell? σ21 q22.1 q22.2) 1).bind fun x23 =>
              (x9).bind fun q24 =>
              (Heap.store σ21 q24.1 (q24.2 + 1) [.int .i64 (x23.2.2 : Int)]).bind fun σ25 =>
              file_Store_Crash_L1 w L fu0 s1 keep2 x_1 x_2 (IntKind.i64.wrap (x_3 + 1)) σ25 K)
            else none)
          else none)
        else
        (x9).bind fun q26 =>
        (slice? (Heap.cell? σ q26.1 q26.2) 1).bind fun x27 =>
        (x9).bind fun q28 =>
        (int? (Heap.cell? σ q28.1 (q28.2 + 1)) .i64).bind fun x29 =>
        (x9).bind fun q30 =>
        (slice? (Heap.cell? σ q30.1 q30.2) 1).bind fun x31 =>
        (x9).bind fun q32 =>
        (int? (Heap.cell? σ q32.1 (q32.2 + 1)) .i64).bind fun x33 =>
        bif ((decide (0 ≤ (IntKind.i64.wrap (x29 + (if (IntKind.i64.wrap ((x31.2.2 : Int) - x33)) < 0 then (IntKind.i64.wrap ((x31.2.2 : Int) - x33)) else 0))))) && (decide ((IntKind.i64.wrap (x29 + (if (IntKind.i64.wrap ((x31.2.2 : Int) - x33)) < 0 then (IntKind.i64.wrap ((x31.2.2 : Int) - x33)) else 0))) ≤ (x27.2.2 : Int)))) then (
          (x9).bind fun q34 =>
          (Heap.store σ q34.1 q34.2 [.slice x27.1 x27.2.1 ((IntKind.i64.wrap (x29 + (if (IntKind.i64.wrap ((x31.2.2 : Int) - x33)) < 0 then (IntKind.i64.wrap ((x31.2.2 : Int) - x33)) else 0))).toNat) 1]).bind fun σ35 =>
          (x9).bind fun q36 =>
          (slice? (Heap.cell? σ35 q36.1 q36.2) 1).bind fun x37 =>
          (x9).bind fun q38 =>
          (Heap.store σ35 q38.1 (q38.2 + 1) [.int .i64 (x37.2.2 : Int)]).bind fun σ39 =>
          file_Store_Crash_L1 w L fu0 s1 keep2 x_1 x_2 (IntKind.i64.wrap (x_3 + 1)) σ39 K)
        else none)
      else none)
    else
    (s1).bind fun q40 =>
    (Heap.store σ q40.1 (q40.2 + 4) [.bool false]).bind fun σ41 =>
    (s1).bind fun q42 =>
    (Heap.store σ41 q42.1 (q42.2 + 2) [.bool false]).bind fun σ43 =>
    K (.tuple []) σ43 := by kernel_rfl
set_option maxRecDepth 100000 in
theorem file_Store_Crash_eq {R : Type} (w : C_file_Store_Crash) (L : Nat) (s1 : Pt) (keep2 : Sl) (σ : Heap) (K : AVal → Heap → Option R) :
    callC T (O_file_Store_Crash w) L 2 17 [.ptr s1, .slice keep2.b keep2.o keep2.n 1] σ K =
    (w.file_Store_Names s1 σ).bind fun q3 =>
    file_Store_Crash_L1 w L L s1 keep2 q3.1 (q3.1.n : Int) 0 q3.2 K := by kernel_rfl
/-! file_named -/
set_option maxRecDepth 100000 in
theorem file_named_eq {R : Type} (L : Nat) (name1 : ByteArray) (σ : Heap) (K : AVal → Heap → Option R) :
    callC T known0 L 2 41 [.str name1] σ K =
    bif (!(name1.toList == (⟨#[]⟩ : ByteArray).toList)) then (
      K (.bool (decide ((name1.size : Int) ≤ 12))) σ)
    else
    K (.bool false) σ := by kernel_rfl
/-! file_Store_change -/
set_option maxRecDepth 100000 in
theorem file_Store_change_eq {R : Type} (L : Nat) (s1 : Pt) (σ : Heap) (K : AVal → Heap → Option R) :
    callC T known0 L 2 42 [.ptr s1] σ K =
    (s1).bind fun q2 =>
    (bool? (Heap.cell? σ q2.1 (q2.2 + 2))).bind fun x3 =>
    bif x3 then (
      (s1).bind fun q4 =>
      (int? (Heap.cell? σ q4.1 (q4.2 + 3)) .i64).bind fun x5 =>
      bif (x5 == 0) then (
        (s1).bind fun q6 =>
        (Heap.store σ q6.1 (q6.2 + 4) [.bool true]).bind fun σ7 =>
        K (.int .i64 8) σ7)
      else
      (s1).bind fun q8 =>
      (bool? (Heap.cell? σ q8.1 (q8.2 + 2))).bind fun x9 =>
      bif x9 then (
        (s1).bind fun q10 =>
        (int? (Heap.cell? σ q10.1 (q10.2 + 3)) .i64).bind fun x11 =>
        (s1).bind fun q12 =>
        (Heap.store σ q12.1 (q12.2 + 3) [.int .i64 (IntKind.i64.wrap (x11 - 1))]).bind fun σ13 =>
        K (.int .i64 0) σ13)
      else K (.int .i64 0) σ)
    else
    (s1).bind fun q14 =>
    (bool? (Heap.cell? σ q14.1 (q14.2 + 2))).bind fun x15 =>
    bif x15 then (
      (s1).bind fun q16 =>
      (int? (Heap.cell? σ q16.1 (q16.2 + 3)) .i64).bind fun x17 =>
      (s1).bind fun q18 =>
      (Heap.store σ q18.1 (q18.2 + 3) [.int .i64 (IntKind.i64.wrap (x17 - 1))]).bind fun σ19 =>
      K (.int .i64 0) σ19)
    else K (.int .i64 0) σ := by kernel_rfl
/-! file_Store_Append -/
set_option maxRecDepth 100000 in
theorem file_Store_Append_eq {R : Type} (w : C_file_Store_Append) (L : Nat) (s1 : Pt) (name2 : ByteArray) (b3 : Sl) (σ : Heap) (K : AVal → Heap → Option R) :
    callC T (O_file_Store_Append w) L 2 18 [.ptr s1, .str name2, .slice b3.b b3.o b3.n 1] σ K =
    (s1).bind fun q4 =>
    (bool? (Heap.cell? σ q4.1 (q4.2 + 4))).bind fun x5 =>
    bif x5 then (
      K (.int .i64 8) σ)
    else
    (w.file_named name2 σ).bind fun q6 =>
    bif (!q6.1) then (
      K (.int .i64 3) q6.2)
    else
    (s1).bind fun q7 =>
    (int? (Heap.cell? q6.2 q7.1 (q7.2 + 1)) .i64).bind fun x8 =>
    (w.file_Store_Used s1 (Heap.frz q6.2)).bind fun q9 =>
    bif (decide ((b3.n : Int) > (IntKind.i64.wrap (x8 - q9.1)))) then (
      K (.int .i64 5) (Heap.back q6.2 q9.2))
    else
    (w.file_Store_change s1 (Heap.back q6.2 q9.2)).bind fun q10 =>
    bif (q10.1 != 0) then (
      K (.int .i64 q10.1) q10.2)
    else
    (s1).bind fun q11 =>
    (map? (Heap.cell? q10.2 q11.1 q11.2)).bind fun x12 =>
    (Heap.look q10.2 x12 (.str name2) (.ptr none)).bind fun v13 =>
    (ptr? (some v13)).bind fun x14 =>
    bif (Option.isNone x14) then (
      (s1).bind fun q15 =>
      (map? (Heap.cell? q10.2 q15.1 q15.2)).bind fun x16 =>
      alloc q10.2 [.slice none 0 0 1, .int .i64 0] fun b17 σ18 =>
      (Heap.mput σ18 x16 (.str name2) (.ptr (some (b17, 0)))).bind fun σ19 =>
      (s1).bind fun q20 =>
      (map? (Heap.cell? σ19 q20.1 q20.2)).bind fun x21 =>
      (Heap.look σ19 x21 (.str name2) (.ptr none)).bind fun v22 =>
      (ptr? (some v22)).bind fun x23 =>
      (x23).bind fun q24 =>
      (slice? (Heap.cell? σ19 q24.1 q24.2) 1).bind fun x25 =>
      (Heap.read σ19 b3.b b3.o b3.n 1).bind fun vs26 =>
      (Heap.append σ19 x25.1 x25.2.1 x25.2.2 1 1 vs26 b3.n).bind fun q27 =>
      (keep? σ19 q27.2).bind fun _ =>
      (s1).bind fun q29 =>
      (map? (Heap.cell? q27.2 q29.1 q29.2)).bind fun x30 =>
      (Heap.look q27.2 x30 (.str name2) (.ptr none)).bind fun v31 =>
      (ptr? (some v31)).bind fun x32 =>
      (x32).bind fun q33 =>
      (Heap.store q27.2 q33.1 q33.2 [.slice q27.1.1 q27.1.2.1 q27.1.2.2 1]).bind fun σ34 =>
      K (.int .i64 0) σ34)
    else
    (s1).bind fun q35 =>
    (map? (Heap.cell? q10.2 q35.1 q35.2)).bind fun x36 =>
    (Heap.look q10.2 x36 (.str name2) (.ptr none)).bind fun v37 =>
    (ptr? (some v37)).bind fun x38 =>
    (x38).bind fun q39 =>
    (slice? (Heap.cell? q10.2 q39.1 q39.2) 1).bind fun x40 =>
    (Heap.read q10.2 b3.b b3.o b3.n 1).bind fun vs41 =>
    (Heap.append q10.2 x40.1 x40.2.1 x40.2.2 1 1 vs41 b3.n).bind fun q42 =>
    (keep? q10.2 q42.2).bind fun _ =>
    (s1).bind fun q44 =>
    (map? (Heap.cell? q42.2 q44.1 q44.2)).bind fun x45 =>
    (Heap.look q42.2 x45 (.str name2) (.ptr none)).bind fun v46 =>
    (ptr? (some v46)).bind fun x47 =>
    (x47).bind fun q48 =>
    (Heap.store q42.2 q48.1 q48.2 [.slice q42.1.1 q42.1.2.1 q42.1.2.2 1]).bind fun σ49 =>
    K (.int .i64 0) σ49 := by kernel_rfl
/-! file_Store_find -/
set_option maxRecDepth 100000 in
theorem file_Store_find_eq {R : Type} (L : Nat) (s1 : Pt) (name2 : ByteArray) (σ : Heap) (K : AVal → Heap → Option R) :
    callC T known0 L 2 43 [.ptr s1, .str name2] σ K =
    (s1).bind fun q3 =>
    (map? (Heap.cell? σ q3.1 q3.2)).bind fun x4 =>
    (Heap.look σ x4 (.str name2) (.ptr none)).bind fun v5 =>
    (ptr? (some v5)).bind fun x6 =>
    (s1).bind fun q7 =>
    (bool? (Heap.cell? σ q7.1 (q7.2 + 4))).bind fun x8 =>
    bif x8 then (
      K (.tuple [.ptr none, .int .i64 8]) σ)
    else
    bif (Option.isNone x6) then (
      K (.tuple [.ptr none, .int .i64 4]) σ)
    else
    K (.tuple [.ptr x6, .int .i64 0]) σ := by kernel_rfl
/-! slices_Clone -/
set_option maxRecDepth 100000 in
theorem slices_Clone_eq {R : Type} (L : Nat) (s1 : Sl) (σ : Heap) (K : AVal → Heap → Option R) :
    callC T known0 L 2 44 [.slice s1.b s1.o s1.n 1] σ K =
    bif (Option.isNone s1.b) then (
      K (.slice none 0 0 1) σ)
    else
    alloc σ [] fun b2 σ3 =>
    (Heap.read σ3 s1.b s1.o s1.n 1).bind fun vs4 =>
    (Heap.append σ3 (some b2) 0 0 1 1 vs4 s1.n).bind fun q5 =>
    K (.slice q5.1.1 q5.1.2.1 q5.1.2.2 1) q5.2 := by kernel_rfl
/-! file_Store_Read -/
set_option maxRecDepth 100000 in
theorem file_Store_Read_eq {R : Type} (w : C_file_Store_Read) (L : Nat) (s1 : Pt) (name2 : ByteArray) (σ : Heap) (K : AVal → Heap → Option R) :
    callC T (O_file_Store_Read w) L 2 20 [.ptr s1, .str name2] σ K =
    (w.file_Store_find s1 name2 σ).bind fun q3 =>
    bif (q3.1.2 != 0) then (
      K (.tuple [.slice none 0 0 1, .int .i64 q3.1.2]) q3.2)
    else
    (q3.1.1).bind fun q4 =>
    (slice? (Heap.cell? q3.2 q4.1 q4.2) 1).bind fun x5 =>
    (w.slices_Clone ⟨x5.1, x5.2.1, x5.2.2⟩ q3.2).bind fun q6 =>
    K (.tuple [.slice q6.1.b q6.1.o q6.1.n 1, .int .i64 0]) q6.2 := by kernel_rfl
/-! file_Store_Up -/
set_option maxRecDepth 100000 in
theorem file_Store_Up_eq {R : Type} (L : Nat) (s1 : Pt) (σ : Heap) (K : AVal → Heap → Option R) :
    callC T known0 L 2 24 [.ptr s1] σ K =
    (s1).bind fun q2 =>
    (bool? (Heap.cell? σ q2.1 (q2.2 + 4))).bind fun x3 =>
    K (.bool (!x3)) σ := by kernel_rfl
/-! law04_fit -/
set_option maxRecDepth 100000 in
theorem law04_fit_eq {R : Type} (w : C_law04_fit) (L : Nat) (σ : Heap) (K : AVal → Heap → Option R) :
    callC T (O_law04_fit w) L 2 13 [] σ K =
    (w.file_New 9 σ).bind fun q1 =>
    bif (Option.isNone q1.1) then (
      K (.bool false) q1.2)
    else
    alloc q1.2 [.int .u8 120, .int .u8 121, .int .u8 122] fun b2 σ3 =>
    (Heap.rwRow σ3 b2).bind fun _ =>
    (w.file_Store_Append q1.1 (⟨#[97]⟩ : ByteArray) ⟨(some b2), 0, 3⟩ σ3).bind fun q5 =>
    alloc q5.2 [.int .i64 1] fun b6 σ7 =>
    (w.file_Store_Crash q1.1 ⟨(some b6), 0, 1⟩ σ7).bind fun q8 =>
    (w.file_Store_Read q1.1 (⟨#[97]⟩ : ByteArray) q8.2).bind fun q9 =>
    bif (q5.1 == 0) then (
      bif (q9.1.2 == 0) then (
        (Heap.read q9.2 q9.1.1.b q9.1.1.o q9.1.1.n 1).bind fun cs10 =>
        (bytesOf cs10).bind fun bs11 =>
        bif ((⟨bs11.toArray⟩ : ByteArray).toList == (⟨#[120]⟩ : ByteArray).toList) then (
          (w.file_Store_Used q1.1 q9.2).bind fun q12 =>
          bif (q12.1 == 1) then (
            (w.file_Store_Up q1.1 q12.2).bind fun q13 =>
            K (.bool q13.1) q13.2)
          else K (.bool false) q12.2)
        else K (.bool false) q9.2)
      else K (.bool false) q9.2)
    else K (.bool false) q9.2 := by kernel_rfl
/-! law04_short -/
noncomputable def law04_short_L4 {R : Type} (L fu0 : Nat) (calls1 : Sl) (x_1 : Int) (σ : Heap) (K : AVal → Heap → Option R) : Option R :=
  loopAt T known0 L 1 14 Try.f14 [1, 1, 0, 1, 0] [] fu0
    (List.replicate 8 .undef ++ [.slice calls1.b calls1.o calls1.n 5, .int .i64 (calls1.n : Int), .int .i64 x_1] ++ List.replicate 20 .undef)
    (List.replicate 31 .none) σ K
set_option maxRecDepth 100000 in
theorem law04_short_L4_eq {R : Type} (L fu0 : Nat) (calls1 : Sl) (x_1 : Int) (σ : Heap) (K : AVal → Heap → Option R) :
    law04_short_L4 L (fu0 + 1) calls1 x_1 σ K =
    bif (decide (x_1 < (calls1.n : Int))) then (
      bif ((decide (0 ≤ x_1)) && (decide (x_1 < (calls1.n : Int)))) then (
        (calls1.b).bind fun b2 =>
        (int? (Heap.cell? σ b2 (calls1.o + x_1.toNat * 5)) .i64).bind fun _ =>
        (int? (Heap.cell? σ b2 ((calls1.o + x_1.toNat * 5) + 1)) .i64).bind fun _ =>
        (str? (Heap.cell? σ b2 ((calls1.o + x_1.toNat * 5) + 2))).bind fun x5 =>
        (str? (Heap.cell? σ b2 ((calls1.o + x_1.toNat * 5) + 3))).bind fun x6 =>
        (slice? (Heap.cell? σ b2 ((calls1.o + x_1.toNat * 5) + 4)) 1).bind fun x7 =>
        bif (decide ((x7.2.2 : Int) > 100)) then (
          K (.bool false) σ)
        else
        bif (decide ((x5.size : Int) > 50)) then (
          K (.bool false) σ)
        else
        bif (decide ((x6.size : Int) > 50)) then (
          K (.bool false) σ)
        else
        law04_short_L4 L fu0 calls1 (IntKind.i64.wrap (x_1 + 1)) σ K)
      else none)
    else K (.bool true) σ := by kernel_rfl
set_option maxRecDepth 100000 in
theorem law04_short_eq {R : Type} (L : Nat) (calls1 : Sl) (σ : Heap) (K : AVal → Heap → Option R) :
    callC T known0 L 2 14 [.slice calls1.b calls1.o calls1.n 5] σ K =
    bif (decide ((calls1.n : Int) > 100)) then (
      K (.bool false) σ)
    else
    law04_short_L4 L L calls1 0 σ K := by kernel_rfl
/-! file_Store_Sync -/
set_option maxRecDepth 100000 in
theorem file_Store_Sync_eq {R : Type} (w : C_file_Store_Sync) (L : Nat) (s1 : Pt) (name2 : ByteArray) (σ : Heap) (K : AVal → Heap → Option R) :
    callC T (O_file_Store_Sync w) L 2 19 [.ptr s1, .str name2] σ K =
    (w.file_Store_find s1 name2 σ).bind fun q3 =>
    bif (q3.1.2 == 0) then (
      (w.file_Store_change s1 q3.2).bind fun q4 =>
      bif (q4.1 == 0) then (
        (q3.1.1).bind fun q5 =>
        (slice? (Heap.cell? q4.2 q5.1 q5.2) 1).bind fun x6 =>
        (q3.1.1).bind fun q7 =>
        (Heap.store q4.2 q7.1 (q7.2 + 1) [.int .i64 (x6.2.2 : Int)]).bind fun σ8 =>
        K (.int .i64 q4.1) σ8)
      else K (.int .i64 q4.1) q4.2)
    else
    bif (q3.1.2 == 0) then (
      (q3.1.1).bind fun q9 =>
      (slice? (Heap.cell? q3.2 q9.1 q9.2) 1).bind fun x10 =>
      (q3.1.1).bind fun q11 =>
      (Heap.store q3.2 q11.1 (q11.2 + 1) [.int .i64 (x10.2.2 : Int)]).bind fun σ12 =>
      K (.int .i64 q3.1.2) σ12)
    else K (.int .i64 q3.1.2) q3.2 := by kernel_rfl
/-! law04_Call_kind -/
set_option maxRecDepth 100000 in
theorem law04_Call_kind_eq {R : Type} (L : Nat) (c1 : law04_Call) (σ : Heap) (K : AVal → Heap → Option R) :
    callC T known0 L 2 21 [.agg [.int .i64 c1.Kind, .int .i64 c1.N, .str c1.Name, .str c1.To, .slice c1.Data.b c1.Data.o c1.Data.n 1]] σ K =
    K (.int .i64 (IntKind.i64.wrap (BitVec.ofInt IntKind.i64.bits c1.Kind &&& BitVec.ofInt IntKind.i64.bits 7).toNat)) σ := by kernel_rfl
/-! file_Store_Fuse -/
set_option maxRecDepth 100000 in
theorem file_Store_Fuse_eq {R : Type} (L : Nat) (s1 : Pt) (n2 : Int) (σ : Heap) (K : AVal → Heap → Option R) :
    callC T known0 L 2 22 [.ptr s1, .int .i64 n2] σ K =
    (s1).bind fun q3 =>
    (Heap.store σ q3.1 (q3.2 + 2) [.bool (decide (n2 ≥ 0))]).bind fun σ4 =>
    (s1).bind fun q5 =>
    (Heap.store σ4 q5.1 (q5.2 + 3) [.int .i64 n2]).bind fun σ6 =>
    K (.tuple []) σ6 := by kernel_rfl
/-! file_Store_Rename -/
set_option maxRecDepth 100000 in
theorem file_Store_Rename_eq {R : Type} (w : C_file_Store_Rename) (L : Nat) (s1 : Pt) (from2 : ByteArray) (to3 : ByteArray) (σ : Heap) (K : AVal → Heap → Option R) :
    callC T (O_file_Store_Rename w) L 2 37 [.ptr s1, .str from2, .str to3] σ K =
    (s1).bind fun q4 =>
    (bool? (Heap.cell? σ q4.1 (q4.2 + 4))).bind fun x5 =>
    bif (!x5) then (
      (w.file_named to3 σ).bind fun q6 =>
      bif (!q6.1) then (
        K (.int .i64 3) q6.2)
      else
      (w.file_Store_find s1 from2 q6.2).bind fun q7 =>
      bif (q7.1.2 == 0) then (
        (w.file_Store_change s1 q7.2).bind fun q8 =>
        bif (q8.1 == 0) then (
          (s1).bind fun q9 =>
          (map? (Heap.cell? q8.2 q9.1 q9.2)).bind fun x10 =>
          (Heap.mdel q8.2 x10 (.str from2)).bind fun σ11 =>
          (s1).bind fun q12 =>
          (map? (Heap.cell? σ11 q12.1 q12.2)).bind fun x13 =>
          (Heap.mput σ11 x13 (.str to3) (.ptr q7.1.1)).bind fun σ14 =>
          K (.int .i64 q8.1) σ14)
        else K (.int .i64 q8.1) q8.2)
      else
      bif (q7.1.2 == 0) then (
        (s1).bind fun q15 =>
        (map? (Heap.cell? q7.2 q15.1 q15.2)).bind fun x16 =>
        (Heap.mdel q7.2 x16 (.str from2)).bind fun σ17 =>
        (s1).bind fun q18 =>
        (map? (Heap.cell? σ17 q18.1 q18.2)).bind fun x19 =>
        (Heap.mput σ17 x19 (.str to3) (.ptr q7.1.1)).bind fun σ20 =>
        K (.int .i64 q7.1.2) σ20)
      else K (.int .i64 q7.1.2) q7.2)
    else
    (w.file_Store_find s1 from2 σ).bind fun q21 =>
    bif (q21.1.2 == 0) then (
      (w.file_Store_change s1 q21.2).bind fun q22 =>
      bif (q22.1 == 0) then (
        (s1).bind fun q23 =>
        (map? (Heap.cell? q22.2 q23.1 q23.2)).bind fun x24 =>
        (Heap.mdel q22.2 x24 (.str from2)).bind fun σ25 =>
        (s1).bind fun q26 =>
        (map? (Heap.cell? σ25 q26.1 q26.2)).bind fun x27 =>
        (Heap.mput σ25 x27 (.str to3) (.ptr q21.1.1)).bind fun σ28 =>
        K (.int .i64 q22.1) σ28)
      else K (.int .i64 q22.1) q22.2)
    else
    bif (q21.1.2 == 0) then (
      (s1).bind fun q29 =>
      (map? (Heap.cell? q21.2 q29.1 q29.2)).bind fun x30 =>
      (Heap.mdel q21.2 x30 (.str from2)).bind fun σ31 =>
      (s1).bind fun q32 =>
      (map? (Heap.cell? σ31 q32.1 q32.2)).bind fun x33 =>
      (Heap.mput σ31 x33 (.str to3) (.ptr q21.1.1)).bind fun σ34 =>
      K (.int .i64 q21.1.2) σ34)
    else K (.int .i64 q21.1.2) q21.2 := by kernel_rfl
/-! file_Store_Delete -/
set_option maxRecDepth 100000 in
theorem file_Store_Delete_eq {R : Type} (w : C_file_Store_Delete) (L : Nat) (s1 : Pt) (name2 : ByteArray) (σ : Heap) (K : AVal → Heap → Option R) :
    callC T (O_file_Store_Delete w) L 2 38 [.ptr s1, .str name2] σ K =
    (w.file_Store_find s1 name2 σ).bind fun q3 =>
    bif (q3.1.2 == 0) then (
      (w.file_Store_change s1 q3.2).bind fun q4 =>
      bif (q4.1 == 0) then (
        (s1).bind fun q5 =>
        (map? (Heap.cell? q4.2 q5.1 q5.2)).bind fun x6 =>
        (Heap.mdel q4.2 x6 (.str name2)).bind fun σ7 =>
        K (.int .i64 q4.1) σ7)
      else K (.int .i64 q4.1) q4.2)
    else
    bif (q3.1.2 == 0) then (
      (s1).bind fun q8 =>
      (map? (Heap.cell? q3.2 q8.1 q8.2)).bind fun x9 =>
      (Heap.mdel q3.2 x9 (.str name2)).bind fun σ10 =>
      K (.int .i64 q3.1.2) σ10)
    else K (.int .i64 q3.1.2) q3.2 := by kernel_rfl
/-! file_Store_Cut -/
set_option maxRecDepth 100000 in
theorem file_Store_Cut_eq {R : Type} (w : C_file_Store_Cut) (L : Nat) (s1 : Pt) (name2 : ByteArray) (n3 : Int) (σ : Heap) (K : AVal → Heap → Option R) :
    callC T (O_file_Store_Cut w) L 2 39 [.ptr s1, .str name2, .int .i64 n3] σ K =
    (w.file_Store_find s1 name2 σ).bind fun q4 =>
    bif (q4.1.2 == 0) then (
      (w.file_Store_change s1 q4.2).bind fun q5 =>
      bif (q5.1 == 0) then (
        (q4.1.1).bind fun q6 =>
        (slice? (Heap.cell? q5.2 q6.1 q6.2) 1).bind fun x7 =>
        (q4.1.1).bind fun q8 =>
        (slice? (Heap.cell? q5.2 q8.1 q8.2) 1).bind fun x9 =>
        bif ((decide (0 ≤ (if (x9.2.2 : Int) < (if 0 > n3 then 0 else n3) then (x9.2.2 : Int) else (if 0 > n3 then 0 else n3)))) && (decide ((if (x9.2.2 : Int) < (if 0 > n3 then 0 else n3) then (x9.2.2 : Int) else (if 0 > n3 then 0 else n3)) ≤ (x7.2.2 : Int)))) then (
          (q4.1.1).bind fun q10 =>
          (Heap.store q5.2 q10.1 q10.2 [.slice x7.1 x7.2.1 ((if (x9.2.2 : Int) < (if 0 > n3 then 0 else n3) then (x9.2.2 : Int) else (if 0 > n3 then 0 else n3)).toNat) 1]).bind fun σ11 =>
          (q4.1.1).bind fun q12 =>
          (int? (Heap.cell? σ11 q12.1 (q12.2 + 1)) .i64).bind fun x13 =>
          (q4.1.1).bind fun q14 =>
          (slice? (Heap.cell? σ11 q14.1 q14.2) 1).bind fun x15 =>
          (q4.1.1).bind fun q16 =>
          (Heap.store σ11 q16.1 (q16.2 + 1) [.int .i64 (if (x15.2.2 : Int) < x13 then (x15.2.2 : Int) else x13)]).bind fun σ17 =>
          K (.int .i64 q5.1) σ17)
        else none)
      else K (.int .i64 q5.1) q5.2)
    else
    bif (q4.1.2 == 0) then (
      (q4.1.1).bind fun q18 =>
      (slice? (Heap.cell? q4.2 q18.1 q18.2) 1).bind fun x19 =>
      (q4.1.1).bind fun q20 =>
      (slice? (Heap.cell? q4.2 q20.1 q20.2) 1).bind fun x21 =>
      bif ((decide (0 ≤ (if (x21.2.2 : Int) < (if 0 > n3 then 0 else n3) then (x21.2.2 : Int) else (if 0 > n3 then 0 else n3)))) && (decide ((if (x21.2.2 : Int) < (if 0 > n3 then 0 else n3) then (x21.2.2 : Int) else (if 0 > n3 then 0 else n3)) ≤ (x19.2.2 : Int)))) then (
        (q4.1.1).bind fun q22 =>
        (Heap.store q4.2 q22.1 q22.2 [.slice x19.1 x19.2.1 ((if (x21.2.2 : Int) < (if 0 > n3 then 0 else n3) then (x21.2.2 : Int) else (if 0 > n3 then 0 else n3)).toNat) 1]).bind fun σ23 =>
        (q4.1.1).bind fun q24 =>
        (int? (Heap.cell? σ23 q24.1 (q24.2 + 1)) .i64).bind fun x25 =>
        (q4.1.1).bind fun q26 =>
        (slice? (Heap.cell? σ23 q26.1 q26.2) 1).bind fun x27 =>
        (q4.1.1).bind fun q28 =>
        (Heap.store σ23 q28.1 (q28.2 + 1) [.int .i64 (if (x27.2.2 : Int) < x25 then (x27.2.2 : Int) else x25)]).bind fun σ29 =>
        K (.int .i64 q4.1.2) σ29)
      else none)
    else K (.int .i64 q4.1.2) q4.2 := by kernel_rfl
/-! law04_Call_keeps -/
noncomputable def law04_Call_keeps_L3 {R : Type} (L fu0 : Nat) (l_1 : Sl) (c1 : law04_Call) (x_2 : Int) (σ : Heap) (K : AVal → Heap → Option R) : Option R :=
  loopAt T known0 L 1 40 Try.f40 [1, 1, 0, 1, 0] [] fu0
    ([.undef, .undef, .undef, .slice l_1.b l_1.o l_1.n 1] ++ List.replicate 6 .undef ++ [.slice c1.Data.b c1.Data.o c1.Data.n 1, .int .i64 (c1.Data.n : Int), .int .i64 x_2] ++ List.replicate 11 .undef)
    (List.replicate 24 .none) σ K
set_option maxRecDepth 100000 in
theorem law04_Call_keeps_L3_eq {R : Type} (L fu0 : Nat) (l_1 : Sl) (c1 : law04_Call) (x_2 : Int) (σ : Heap) (K : AVal → Heap → Option R) :
    law04_Call_keeps_L3 L (fu0 + 1) l_1 c1 x_2 σ K =
    bif (decide (x_2 < (c1.Data.n : Int))) then (
      bif ((decide (0 ≤ x_2)) && (decide (x_2 < (c1.Data.n : Int)))) then (
        (c1.Data.b).bind fun b4 =>
        (int? (Heap.cell? σ b4 (c1.Data.o + x_2.toNat * 1)) .u8).bind fun x5 =>
        (Heap.append σ l_1.b l_1.o l_1.n 1 8 [.int .i64 (IntKind.i64.wrap (IntKind.u8.wrap (BitVec.ofInt IntKind.u8.bits x5 &&& BitVec.ofInt IntKind.u8.bits 15).toNat))] 1).bind fun q6 =>
        law04_Call_keeps_L3 L fu0 ⟨q6.1.1, q6.1.2.1, q6.1.2.2⟩ c1 (IntKind.i64.wrap (x_2 + 1)) q6.2 K)
      else none)
    else K (.slice l_1.b l_1.o l_1.n 1) σ := by kernel_rfl
set_option maxRecDepth 100000 in
theorem law04_Call_keeps_eq {R : Type} (L : Nat) (c1 : law04_Call) (σ : Heap) (K : AVal → Heap → Option R) :
    callC T known0 L 2 40 [.agg [.int .i64 c1.Kind, .int .i64 c1.N, .str c1.Name, .str c1.To, .slice c1.Data.b c1.Data.o c1.Data.n 1]] σ K =
    alloc σ [.int .i64 c1.N] fun b2 σ3 =>
    law04_Call_keeps_L3 L L ⟨(some b2), 0, 1⟩ c1 0 σ3 K := by kernel_rfl
/-! law04_do -/
set_option maxRecDepth 100000 in
theorem law04_do_eq {R : Type} (w : C_law04_do) (L : Nat) (s1 : Pt) (c2 : law04_Call) (σ : Heap) (K : AVal → Heap → Option R) :
    callC T (O_law04_do w) L 2 16 [.ptr s1, .agg [.int .i64 c2.Kind, .int .i64 c2.N, .str c2.Name, .str c2.To, .slice c2.Data.b c2.Data.o c2.Data.n 1]] σ K =
    (w.law04_Call_kind c2 σ).bind fun q3 =>
    bif (q3.1 == 2) then (
      (w.file_Store_Sync s1 c2.Name q3.2).bind fun q4 =>
      K (.int .i64 q4.1) q4.2)
    else
    bif (q3.1 == 3) then (
      (w.file_Store_Rename s1 c2.Name c2.To q3.2).bind fun q5 =>
      K (.int .i64 q5.1) q5.2)
    else
    bif (q3.1 == 4) then (
      (w.file_Store_Delete s1 c2.Name q3.2).bind fun q6 =>
      K (.int .i64 q6.1) q6.2)
    else
    bif (q3.1 == 5) then (
      (w.file_Store_Cut s1 c2.Name c2.N q3.2).bind fun q7 =>
      K (.int .i64 q7.1) q7.2)
    else
    bif (q3.1 == 6) then (
      (w.file_Store_Fuse s1 c2.N q3.2).bind fun q8 =>
      K (.int .i64 0) q8.2)
    else
    bif (q3.1 == 7) then (
      (w.law04_Call_keeps c2 q3.2).bind fun q9 =>
      (w.file_Store_Crash s1 q9.1 q9.2).bind fun q10 =>
      K (.int .i64 0) q10.2)
    else
    (w.file_Store_Append s1 c2.Name c2.Data q3.2).bind fun q11 =>
    K (.int .i64 q11.1) q11.2 := by kernel_rfl
/-! law04_FileSures -/
noncomputable def law04_FileSures_L7 {R : Type} (w : C_law04_FileSures) (L fu0 : Nat) (data2 : Sl) (more3 : Sl) (s_1 : Pt) (calls1 : Sl) (x_2 : Int) (σ : Heap) (K : AVal → Heap → Option R) : Option R :=
  loopAt T (O_law04_FileSures w) L 1 3 Try.f3 [1, 1, 1, 1, 0, 1, 0] [] fu0
    ([.undef, .slice data2.b data2.o data2.n 1, .slice more3.b more3.o more3.n 5] ++ List.replicate 4 .undef ++ [.ptr s_1] ++ List.replicate 25 .undef ++ [.slice calls1.b calls1.o calls1.n 5, .int .i64 (calls1.n : Int), .int .i64 x_2] ++ List.replicate 87 .undef)
    (List.replicate 123 .none) σ K
noncomputable def law04_FileSures_L16 {R : Type} (w : C_law04_FileSures) (L fu0 : Nat) (data2 : Sl) (s_1 : Pt) (was_3 : Sl) (more3 : Sl) (x_4 : Int) (σ : Heap) (K : AVal → Heap → Option R) : Option R :=
  loopAt T (O_law04_FileSures w) L 1 3 Try.f3 [1, 1, 1, 1, 1, 1, 1, 1, 0, 1, 0] [] fu0
    ([.undef, .slice data2.b data2.o data2.n 1] ++ List.replicate 5 .undef ++ [.ptr s_1, .undef, .undef, .slice was_3.b was_3.o was_3.n 1] ++ List.replicate 48 .undef ++ [.slice more3.b more3.o more3.n 5, .int .i64 (more3.n : Int), .int .i64 x_4] ++ List.replicate 61 .undef)
    (List.replicate 123 .none) σ K
set_option maxRecDepth 100000 in
theorem law04_FileSures_L7_eq {R : Type} (w : C_law04_FileSures) (L fu0 : Nat) (data2 : Sl) (more3 : Sl) (s_1 : Pt) (calls1 : Sl) (x_2 : Int) (σ : Heap) (K : AVal → Heap → Option R) :
    law04_FileSures_L7 w L (fu0 + 1) data2 more3 s_1 calls1 x_2 σ K =
    bif (decide (x_2 < (calls1.n : Int))) then (
      bif ((decide (0 ≤ x_2)) && (decide (x_2 < (calls1.n : Int)))) then (
        (calls1.b).bind fun b8 =>
        (int? (Heap.cell? σ b8 (calls1.o + x_2.toNat * 5)) .i64).bind fun x9 =>
        (int? (Heap.cell? σ b8 ((calls1.o + x_2.toNat * 5) + 1)) .i64).bind fun x10 =>
        (str? (Heap.cell? σ b8 ((calls1.o + x_2.toNat * 5) + 2))).bind fun x11 =>
        (str? (Heap.cell? σ b8 ((calls1.o + x_2.toNat * 5) + 3))).bind fun x12 =>
        (slice? (Heap.cell? σ b8 ((calls1.o + x_2.toNat * 5) + 4)) 1).bind fun x13 =>
        (w.law04_do s_1 ⟨x9, x10, x11, x12, ⟨x13.1, x13.2.1, x13.2.2⟩⟩ σ).bind fun q14 =>
        law04_FileSures_L7 w L fu0 data2 more3 s_1 calls1 (IntKind.i64.wrap (x_2 + 1)) q14.2 K)
      else none)
    else
    (w.file_Store_Crash s_1 ⟨none, 0, 0⟩ σ).bind fun q15 =>
    (w.file_Store_Append s_1 (⟨#[115, 117, 114, 101]⟩ : ByteArray) data2 q15.2).bind fun q16 =>
    bif (q16.1 != 0) then (
      K (.bool false) q16.2)
    else
    (w.file_Store_Sync s_1 (⟨#[115, 117, 114, 101]⟩ : ByteArray) q16.2).bind fun q17 =>
    bif (q17.1 != 0) then (
      K (.bool false) q17.2)
    else
    (w.file_Store_Read s_1 (⟨#[115, 117, 114, 101]⟩ : ByteArray) q17.2).bind fun q18 =>
    law04_FileSures_L16 w L L data2 s_1 q18.1.1 more3 0 q18.2 K := by kernel_rfl
set_option maxRecDepth 100000 in
theorem law04_FileSures_L16_eq {R : Type} (w : C_law04_FileSures) (L fu0 : Nat) (data2 : Sl) (s_1 : Pt) (was_3 : Sl) (more3 : Sl) (x_4 : Int) (σ : Heap) (K : AVal → Heap → Option R) :
    law04_FileSures_L16 w L (fu0 + 1) data2 s_1 was_3 more3 x_4 σ K =
    bif (decide (x_4 < (more3.n : Int))) then (
      bif ((decide (0 ≤ x_4)) && (decide (x_4 < (more3.n : Int)))) then (
        (more3.b).bind fun b19 =>
        (int? (Heap.cell? σ b19 (more3.o + x_4.toNat * 5)) .i64).bind fun x20 =>
        (int? (Heap.cell? σ b19 ((more3.o + x_4.toNat * 5) + 1)) .i64).bind fun x21 =>
        (str? (Heap.cell? σ b19 ((more3.o + x_4.toNat * 5) + 2))).bind fun x22 =>
        (str? (Heap.cell? σ b19 ((more3.o + x_4.toNat * 5) + 3))).bind fun x23 =>
        (slice? (Heap.cell? σ b19 ((more3.o + x_4.toNat * 5) + 4)) 1).bind fun x24 =>
        (w.law04_Call_kind ⟨x20, x21, x22, x23, ⟨x24.1, x24.2.1, x24.2.2⟩⟩ σ).bind fun q25 =>
        bif (decide (q25.1 < 2)) then (
          (w.law04_do s_1 ⟨x20, x21, x22, x23, ⟨x24.1, x24.2.1, x24.2.2⟩⟩ q25.2).bind fun q26 =>
          law04_FileSures_L16 w L fu0 data2 s_1 was_3 more3 (IntKind.i64.wrap (x_4 + 1)) q26.2 K)
        else
        bif (decide (q25.1 > 5)) then (
          (w.law04_do s_1 ⟨x20, x21, x22, x23, ⟨x24.1, x24.2.1, x24.2.2⟩⟩ q25.2).bind fun q27 =>
          law04_FileSures_L16 w L fu0 data2 s_1 was_3 more3 (IntKind.i64.wrap (x_4 + 1)) q27.2 K)
        else law04_FileSures_L16 w L fu0 data2 s_1 was_3 more3 (IntKind.i64.wrap (x_4 + 1)) q25.2 K)
      else none)
    else
    (w.file_Store_Crash s_1 ⟨none, 0, 0⟩ σ).bind fun q28 =>
    (w.file_Store_Read s_1 (⟨#[115, 117, 114, 101]⟩ : ByteArray) q28.2).bind fun q29 =>
    bif (q29.1.2 == 0) then (
      bif (decide ((was_3.n : Int) ≥ (data2.n : Int))) then (
        bif (decide ((q29.1.1.n : Int) ≥ (was_3.n : Int))) then (
          bif ((decide (0 ≤ (was_3.n : Int))) && (decide ((was_3.n : Int) ≤ (q29.1.1.n : Int)))) then (
            (Heap.read q29.2 q29.1.1.b q29.1.1.o was_3.n 1).bind fun cs30 =>
            (bytesOf cs30).bind fun bs31 =>
            (Heap.read q29.2 was_3.b was_3.o was_3.n 1).bind fun cs32 =>
            (bytesOf cs32).bind fun bs33 =>
            bif ((⟨bs31.toArray⟩ : ByteArray).toList == (⟨bs33.toArray⟩ : ByteArray).toList) then (
              bif (((decide (0 ≤ (IntKind.i64.wrap ((was_3.n : Int) - (data2.n : Int))))) && (decide ((IntKind.i64.wrap ((was_3.n : Int) - (data2.n : Int))) ≤ (was_3.n : Int)))) && (decide ((was_3.n : Int) ≤ (was_3.n : Int)))) then (
                (Heap.read q29.2 was_3.b (was_3.o + ((IntKind.i64.wrap ((was_3.n : Int) - (data2.n : Int))).toNat) * 1) (was_3.n - (IntKind.i64.wrap ((was_3.n : Int) - (data2.n : Int))).toNat) 1).bind fun cs34 =>
                (bytesOf cs34).bind fun bs35 =>
                (Heap.read q29.2 data2.b data2.o data2.n 1).bind fun cs36 =>
                (bytesOf cs36).bind fun bs37 =>
                K (.bool ((⟨bs35.toArray⟩ : ByteArray).toList == (⟨bs37.toArray⟩ : ByteArray).toList)) q29.2)
              else none)
            else K (.bool false) q29.2)
          else none)
        else K (.bool false) q29.2)
      else K (.bool false) q29.2)
    else K (.bool false) q29.2 := by kernel_rfl
set_option maxRecDepth 100000 in
theorem law04_FileSures_eq {R : Type} (w : C_law04_FileSures) (L : Nat) (calls1 : Sl) (data2 : Sl) (more3 : Sl) (σ : Heap) (K : AVal → Heap → Option R) :
    callC T (O_law04_FileSures w) L 2 3 [.slice calls1.b calls1.o calls1.n 5, .slice data2.b data2.o data2.n 1, .slice more3.b more3.o more3.n 5] σ K =
    (w.law04_fit σ).bind fun q4 =>
    bif (!q4.1) then (
      K (.bool false) q4.2)
    else
    (w.law04_short calls1 q4.2).bind fun q5 =>
    bif (!q5.1) then (
      K (.bool true) q5.2)
    else
    (w.law04_short more3 q5.2).bind fun q6 =>
    bif (!q6.1) then (
      K (.bool true) q6.2)
    else
    bif (decide ((data2.n : Int) > 200)) then (
      K (.bool true) q6.2)
    else
    (w.file_New 1048576 q6.2).bind fun q7 =>
    law04_FileSures_L7 w L L data2 more3 q7.1 calls1 0 q7.2 K := by kernel_rfl
/-! law04_FileFuse -/
noncomputable def law04_FileFuse_L9 {R : Type} (w : C_law04_FileFuse) (L fu0 : Nat) (n_3 : Int) (s_1 : Pt) (calls2 : Sl) (x_2 : Int) (σ : Heap) (K : AVal → Heap → Option R) : Option R :=
  loopAt T (O_law04_FileFuse w) L 1 4 Try.f4 [1, 1, 1, 1, 1, 1, 0, 1, 0] [] fu0
    ([.int .i64 n_3] ++ List.replicate 4 .undef ++ [.ptr s_1] ++ List.replicate 16 .undef ++ [.slice calls2.b calls2.o calls2.n 5, .int .i64 (calls2.n : Int), .int .i64 x_2] ++ List.replicate 74 .undef)
    (List.replicate 99 .none) σ K
set_option maxRecDepth 100000 in
theorem law04_FileFuse_L9_eq {R : Type} (w : C_law04_FileFuse) (L fu0 : Nat) (n_3 : Int) (s_1 : Pt) (calls2 : Sl) (x_2 : Int) (σ : Heap) (K : AVal → Heap → Option R) :
    law04_FileFuse_L9 w L (fu0 + 1) n_3 s_1 calls2 x_2 σ K =
    bif (decide (x_2 < (calls2.n : Int))) then (
      bif ((decide (0 ≤ x_2)) && (decide (x_2 < (calls2.n : Int)))) then (
        (calls2.b).bind fun b7 =>
        (int? (Heap.cell? σ b7 (calls2.o + x_2.toNat * 5)) .i64).bind fun x8 =>
        (int? (Heap.cell? σ b7 ((calls2.o + x_2.toNat * 5) + 1)) .i64).bind fun x9 =>
        (str? (Heap.cell? σ b7 ((calls2.o + x_2.toNat * 5) + 2))).bind fun x10 =>
        (str? (Heap.cell? σ b7 ((calls2.o + x_2.toNat * 5) + 3))).bind fun x11 =>
        (slice? (Heap.cell? σ b7 ((calls2.o + x_2.toNat * 5) + 4)) 1).bind fun x12 =>
        (w.law04_Call_kind ⟨x8, x9, x10, x11, ⟨x12.1, x12.2.1, x12.2.2⟩⟩ σ).bind fun q13 =>
        bif (decide (q13.1 ≥ 6)) then (
          law04_FileFuse_L9 w L fu0 n_3 s_1 calls2 (IntKind.i64.wrap (x_2 + 1)) q13.2 K)
        else
        (w.file_Store_Used s_1 q13.2).bind fun q14 =>
        (w.file_Store_Up s_1 q14.2).bind fun q15 =>
        (w.law04_do s_1 ⟨x8, x9, x10, x11, ⟨x12.1, x12.2.1, x12.2.2⟩⟩ q15.2).bind fun q16 =>
        bif (!q15.1) then (
          bif (q16.1 != 8) then (
            K (.bool false) q16.2)
          else
          (w.file_Store_Up s_1 q16.2).bind fun q17 =>
          bif q17.1 then (
            K (.bool false) q17.2)
          else
          (w.file_Store_Used s_1 q17.2).bind fun q18 =>
          bif (q18.1 != q14.1) then (
            K (.bool false) q18.2)
          else
          law04_FileFuse_L9 w L fu0 n_3 s_1 calls2 (IntKind.i64.wrap (x_2 + 1)) q18.2 K)
        else
        bif (q16.1 == 0) then (
          bif (n_3 == 0) then (
            K (.bool false) q16.2)
          else
          (w.file_Store_Up s_1 q16.2).bind fun q19 =>
          bif (!q19.1) then (
            K (.bool false) q19.2)
          else
          law04_FileFuse_L9 w L fu0 (IntKind.i64.wrap (n_3 - 1)) s_1 calls2 (IntKind.i64.wrap (x_2 + 1)) q19.2 K)
        else
        bif (q16.1 == 8) then (
          bif (n_3 != 0) then (
            K (.bool false) q16.2)
          else
          (w.file_Store_Up s_1 q16.2).bind fun q20 =>
          bif q20.1 then (
            K (.bool false) q20.2)
          else
          (w.file_Store_Used s_1 q20.2).bind fun q21 =>
          bif (q21.1 != q14.1) then (
            K (.bool false) q21.2)
          else
          law04_FileFuse_L9 w L fu0 n_3 s_1 calls2 (IntKind.i64.wrap (x_2 + 1)) q21.2 K)
        else
        (w.file_Store_Up s_1 q16.2).bind fun q22 =>
        bif (!q22.1) then (
          K (.bool false) q22.2)
        else
        (w.file_Store_Used s_1 q22.2).bind fun q23 =>
        bif (q23.1 != q14.1) then (
          K (.bool false) q23.2)
        else
        law04_FileFuse_L9 w L fu0 n_3 s_1 calls2 (IntKind.i64.wrap (x_2 + 1)) q23.2 K)
      else none)
    else
    (w.file_Store_Crash s_1 ⟨none, 0, 0⟩ σ).bind fun q24 =>
    (w.file_Store_Up s_1 q24.2).bind fun q25 =>
    bif q25.1 then (
      (w.file_Store_Append s_1 (⟨#[122]⟩ : ByteArray) ⟨none, 0, 0⟩ q25.2).bind fun q26 =>
      K (.bool (q26.1 == 0)) q26.2)
    else K (.bool false) q25.2 := by kernel_rfl
set_option maxRecDepth 100000 in
theorem law04_FileFuse_eq {R : Type} (w : C_law04_FileFuse) (L : Nat) (n1 : Int) (calls2 : Sl) (σ : Heap) (K : AVal → Heap → Option R) :
    callC T (O_law04_FileFuse w) L 2 4 [.int .i64 n1, .slice calls2.b calls2.o calls2.n 5] σ K =
    (w.law04_fit σ).bind fun q3 =>
    bif (!q3.1) then (
      K (.bool false) q3.2)
    else
    (w.law04_short calls2 q3.2).bind fun q4 =>
    bif (!q4.1) then (
      K (.bool true) q4.2)
    else
    (w.file_New 1048576 q4.2).bind fun q5 =>
    (w.file_Store_Fuse q5.1 (IntKind.i64.wrap (BitVec.ofInt IntKind.i64.bits n1 &&& BitVec.ofInt IntKind.i64.bits 63).toNat) q5.2).bind fun q6 =>
    law04_FileFuse_L9 w L L (IntKind.i64.wrap (BitVec.ofInt IntKind.i64.bits n1 &&& BitVec.ofInt IntKind.i64.bits 63).toNat) q5.1 calls2 0 q6.2 K := by kernel_rfl
/-! law04_right -/
set_option maxRecDepth 100000 in
theorem law04_right_eq {R : Type} (L : Nat) (name1 : ByteArray) (σ : Heap) (K : AVal → Heap → Option R) :
    callC T known0 L 2 25 [.str name1] σ K =
    bif (decide ((name1.size : Int) > 0)) then (
      K (.bool (decide ((name1.size : Int) < 13))) σ)
    else
    K (.bool false) σ := by kernel_rfl
end Go.Abs.TC
