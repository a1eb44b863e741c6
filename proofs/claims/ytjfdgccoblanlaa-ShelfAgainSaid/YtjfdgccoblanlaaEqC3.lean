/-
Lifted functions: what the machine does, one equation for each entry and each loop (printed by lift.py).
-/
import Derived.Test.YtjfdgccoblanlaaSigC
namespace Go.Abs.TC
open Go Go.Abs Go.Proofs
/-! law19_ShelfRuns -/
noncomputable def law19_ShelfRuns_L7 {R : Type} (w : C_law19_ShelfRuns) (L fu0 : Nat) (name2 : ByteArray) (b3 : Sl) (s_1 : Pt) (l1 : Sl) (x_2 : Int) (σ : Heap) (K : AVal → Heap → Option R) : Option R :=
  loopAt T (O_law19_ShelfRuns w) L 1 9 Try.f9 [1, 1, 1, 1, 0, 1, 0] [] fu0
    ([.undef, .str name2, .slice b3.b b3.o b3.n 1] ++ List.replicate 4 .undef ++ [.ptr s_1] ++ List.replicate 28 .undef ++ [.slice l1.b l1.o l1.n 5, .int .i64 (l1.n : Int), .int .i64 x_2] ++ List.replicate 110 .undef)
    (List.replicate 149 .none) σ K
noncomputable def law19_ShelfRuns_L14 {R : Type} (w : C_law19_ShelfRuns) (L fu0 : Nat) (name2 : ByteArray) (b3 : Sl) (s_1 : Pt) (names_3 : Sl) (was_6 : Sl) (x_4 : Sl) (x_5 : Int) (x_7 : Int) (σ : Heap) (K : AVal → Heap → Option R) : Option R :=
  loopAt T (O_law19_ShelfRuns w) L 1 9 Try.f9 [1, 1, 1, 1, 1, 1, 1, 0, 1, 0] [] fu0
    ([.undef, .str name2, .slice b3.b b3.o b3.n 1] ++ List.replicate 4 .undef ++ [.ptr s_1, .undef, .undef, .slice names_3.b names_3.o names_3.n 1, .slice was_6.b was_6.o was_6.n 3] ++ List.replicate 36 .undef ++ [.slice x_4.b x_4.o x_4.n 1, .int .i64 x_5, .int .i64 x_7] ++ List.replicate 98 .undef)
    (List.replicate 149 .none) σ K
noncomputable def law19_ShelfRuns_L28 {R : Type} (w : C_law19_ShelfRuns) (L fu0 : Nat) (name2 : ByteArray) (b3 : Sl) (s_1 : Pt) (was_6 : Sl) (e_8 : Int) (names_3 : Sl) (x_9 : Int) (σ : Heap) (K : AVal → Heap → Option R) : Option R :=
  loopAt T (O_law19_ShelfRuns w) L 1 9 Try.f9 [1, 1, 1, 1, 1, 1, 1, 1, 1, 1, 1, 1, 1, 0, 1, 0] [] fu0
    ([.undef, .str name2, .slice b3.b b3.o b3.n 1] ++ List.replicate 4 .undef ++ [.ptr s_1, .undef, .undef, .undef, .slice was_6.b was_6.o was_6.n 3] ++ List.replicate 4 .undef ++ [.int .i64 e_8] ++ List.replicate 94 .undef ++ [.slice names_3.b names_3.o names_3.n 1, .int .i64 (names_3.n : Int), .int .i64 x_9] ++ List.replicate 35 .undef)
    (List.replicate 149 .none) σ K
set_option maxRecDepth 100000 in
theorem law19_ShelfRuns_L7_eq {R : Type} (w : C_law19_ShelfRuns) (L fu0 : Nat) (name2 : ByteArray) (b3 : Sl) (s_1 : Pt) (l1 : Sl) (x_2 : Int) (σ : Heap) (K : AVal → Heap → Option R) :
    law19_ShelfRuns_L7 w L (fu0 + 1) name2 b3 s_1 l1 x_2 σ K =
    bif (decide (x_2 < (l1.n : Int))) then (
      bif ((decide (0 ≤ x_2)) && (decide (x_2 < (l1.n : Int)))) then (
        (l1.b).bind fun b7 =>
        (int? (Heap.cell? σ b7 (l1.o + x_2.toNat * 5)) .i64).bind fun x8 =>
        (int? (Heap.cell? σ b7 ((l1.o + x_2.toNat * 5) + 1)) .i64).bind fun x9 =>
        (str? (Heap.cell? σ b7 ((l1.o + x_2.toNat * 5) + 2))).bind fun x10 =>
        (str? (Heap.cell? σ b7 ((l1.o + x_2.toNat * 5) + 3))).bind fun x11 =>
        (slice? (Heap.cell? σ b7 ((l1.o + x_2.toNat * 5) + 4)) 1).bind fun x12 =>
        (w.law19_Do s_1 ⟨x8, x9, x10, x11, ⟨x12.1, x12.2.1, x12.2.2⟩⟩ σ).bind fun q13 =>
        law19_ShelfRuns_L7 w L fu0 name2 b3 s_1 l1 (IntKind.i64.wrap (x_2 + 1)) q13.2 K)
      else none)
    else
    (w.shelf_Names s_1 σ).bind fun q14 =>
    law19_ShelfRuns_L14 w L L name2 b3 s_1 q14.1 ⟨none, 0, 0⟩ q14.1 (q14.1.n : Int) 0 q14.2 K := by kernel_rfl
set_option maxRecDepth 100000 in
theorem law19_ShelfRuns_L14_eq {R : Type} (w : C_law19_ShelfRuns) (L fu0 : Nat) (name2 : ByteArray) (b3 : Sl) (s_1 : Pt) (names_3 : Sl) (was_6 : Sl) (x_4 : Sl) (x_5 : Int) (x_7 : Int) (σ : Heap) (K : AVal → Heap → Option R) :
    law19_ShelfRuns_L14 w L (fu0 + 1) name2 b3 s_1 names_3 was_6 x_4 x_5 x_7 σ K =
    bif (decide (x_7 < x_5)) then (
      bif ((decide (0 ≤ x_7)) && (decide (x_7 < (x_4.n : Int)))) then (
        (x_4.b).bind fun b15 =>
        (str? (Heap.cell? σ b15 (x_4.o + x_7.toNat * 1))).bind fun x16 =>
        (w.law19_Get s_1 x16 σ).bind fun q17 =>
        (Heap.append q17.2 was_6.b was_6.o was_6.n 3 32 [.str q17.1.Data, .int .i64 q17.1.Sure, .bool q17.1.There] 1).bind fun q18 =>
        law19_ShelfRuns_L14 w L fu0 name2 b3 s_1 names_3 ⟨q18.1.1, q18.1.2.1, q18.1.2.2⟩ x_4 x_5 (IntKind.i64.wrap (x_7 + 1)) q18.2 K)
      else none)
    else
    (w.file_Store_Used s_1 σ).bind fun q19 =>
    (w.law19_Get s_1 (⟨#[126]⟩ : ByteArray) q19.2).bind fun q20 =>
    (w.shelf_Save s_1 name2 b3 q20.2).bind fun q21 =>
    bif (name2.toList == (⟨#[]⟩ : ByteArray).toList) then (
      bif (q21.1 != 3) then (
        K (.bool false) q21.2)
      else
      bif (q21.1 != 3) then (
        (w.law19_Get s_1 (⟨#[126]⟩ : ByteArray) q21.2).bind fun q22 =>
        bif q22.1.There then (
          K (.bool false) q22.2)
        else
        bif (q21.1 == 3) then (
          (w.law19_Get s_1 (⟨#[126]⟩ : ByteArray) (Heap.frz q22.2)).bind fun q23 =>
          bif (!((q23.1.Data.toList == q20.1.Data.toList) && (((q23.1.Sure : Int) == q20.1.Sure) && ((q23.1.There == q20.1.There) && true)))) then (
            K (.bool false) (Heap.back q22.2 q23.2))
          else
          law19_ShelfRuns_L28 w L L name2 b3 s_1 was_6 q21.1 names_3 0 (Heap.back q22.2 q23.2) K)
        else law19_ShelfRuns_L28 w L L name2 b3 s_1 was_6 q21.1 names_3 0 q22.2 K)
      else
      bif (q21.1 == 3) then (
        (w.law19_Get s_1 (⟨#[126]⟩ : ByteArray) (Heap.frz q21.2)).bind fun q24 =>
        bif (!((q24.1.Data.toList == q20.1.Data.toList) && (((q24.1.Sure : Int) == q20.1.Sure) && ((q24.1.There == q20.1.There) && true)))) then (
          K (.bool false) (Heap.back q21.2 q24.2))
        else
        law19_ShelfRuns_L28 w L L name2 b3 s_1 was_6 q21.1 names_3 0 (Heap.back q21.2 q24.2) K)
      else law19_ShelfRuns_L28 w L L name2 b3 s_1 was_6 q21.1 names_3 0 q21.2 K)
    else
    bif (decide ((name2.size : Int) > 12)) then (
      bif (q21.1 != 3) then (
        K (.bool false) q21.2)
      else
      bif (q21.1 != 3) then (
        (w.law19_Get s_1 (⟨#[126]⟩ : ByteArray) q21.2).bind fun q25 =>
        bif q25.1.There then (
          K (.bool false) q25.2)
        else
        bif (q21.1 == 3) then (
          (w.law19_Get s_1 (⟨#[126]⟩ : ByteArray) (Heap.frz q25.2)).bind fun q26 =>
          bif (!((q26.1.Data.toList == q20.1.Data.toList) && (((q26.1.Sure : Int) == q20.1.Sure) && ((q26.1.There == q20.1.There) && true)))) then (
            K (.bool false) (Heap.back q25.2 q26.2))
          else
          law19_ShelfRuns_L28 w L L name2 b3 s_1 was_6 q21.1 names_3 0 (Heap.back q25.2 q26.2) K)
        else law19_ShelfRuns_L28 w L L name2 b3 s_1 was_6 q21.1 names_3 0 q25.2 K)
      else
      bif (q21.1 == 3) then (
        (w.law19_Get s_1 (⟨#[126]⟩ : ByteArray) (Heap.frz q21.2)).bind fun q27 =>
        bif (!((q27.1.Data.toList == q20.1.Data.toList) && (((q27.1.Sure : Int) == q20.1.Sure) && ((q27.1.There == q20.1.There) && true)))) then (
          K (.bool false) (Heap.back q21.2 q27.2))
        else
        law19_ShelfRuns_L28 w L L name2 b3 s_1 was_6 q21.1 names_3 0 (Heap.back q21.2 q27.2) K)
      else law19_ShelfRuns_L28 w L L name2 b3 s_1 was_6 q21.1 names_3 0 q21.2 K)
    else
    bif (name2.toList == (⟨#[126]⟩ : ByteArray).toList) then (
      bif (q21.1 != 3) then (
        K (.bool false) q21.2)
      else
      bif (q21.1 != 3) then (
        (w.law19_Get s_1 (⟨#[126]⟩ : ByteArray) q21.2).bind fun q28 =>
        bif q28.1.There then (
          K (.bool false) q28.2)
        else
        bif (q21.1 == 3) then (
          (w.law19_Get s_1 (⟨#[126]⟩ : ByteArray) (Heap.frz q28.2)).bind fun q29 =>
          bif (!((q29.1.Data.toList == q20.1.Data.toList) && (((q29.1.Sure : Int) == q20.1.Sure) && ((q29.1.There == q20.1.There) && true)))) then (
            K (.bool false) (Heap.back q28.2 q29.2))
          else
          law19_ShelfRuns_L28 w L L name2 b3 s_1 was_6 q21.1 names_3 0 (Heap.back q28.2 q29.2) K)
        else law19_ShelfRuns_L28 w L L name2 b3 s_1 was_6 q21.1 names_3 0 q28.2 K)
      else
      bif (q21.1 == 3) then (
        (w.law19_Get s_1 (⟨#[126]⟩ : ByteArray) (Heap.frz q21.2)).bind fun q30 =>
        bif (!((q30.1.Data.toList == q20.1.Data.toList) && (((q30.1.Sure : Int) == q20.1.Sure) && ((q30.1.There == q20.1.There) && true)))) then (
          K (.bool false) (Heap.back q21.2 q30.2))
        else
        law19_ShelfRuns_L28 w L L name2 b3 s_1 was_6 q21.1 names_3 0 (Heap.back q21.2 q30.2) K)
      else law19_ShelfRuns_L28 w L L name2 b3 s_1 was_6 q21.1 names_3 0 q21.2 K)
    else
    bif (decide ((b3.n : Int) > (IntKind.i64.wrap ((IntKind.i64.wrap (100 - q19.1)) + (q20.1.Data.size : Int))))) then (
      bif (q21.1 != 5) then (
        K (.bool false) q21.2)
      else
      bif (q21.1 != 3) then (
        (w.law19_Get s_1 (⟨#[126]⟩ : ByteArray) q21.2).bind fun q31 =>
        bif q31.1.There then (
          K (.bool false) q31.2)
        else
        bif (q21.1 == 3) then (
          (w.law19_Get s_1 (⟨#[126]⟩ : ByteArray) (Heap.frz q31.2)).bind fun q32 =>
          bif (!((q32.1.Data.toList == q20.1.Data.toList) && (((q32.1.Sure : Int) == q20.1.Sure) && ((q32.1.There == q20.1.There) && true)))) then (
            K (.bool false) (Heap.back q31.2 q32.2))
          else
          law19_ShelfRuns_L28 w L L name2 b3 s_1 was_6 q21.1 names_3 0 (Heap.back q31.2 q32.2) K)
        else law19_ShelfRuns_L28 w L L name2 b3 s_1 was_6 q21.1 names_3 0 q31.2 K)
      else
      bif (q21.1 == 3) then (
        (w.law19_Get s_1 (⟨#[126]⟩ : ByteArray) (Heap.frz q21.2)).bind fun q33 =>
        bif (!((q33.1.Data.toList == q20.1.Data.toList) && (((q33.1.Sure : Int) == q20.1.Sure) && ((q33.1.There == q20.1.There) && true)))) then (
          K (.bool false) (Heap.back q21.2 q33.2))
        else
        law19_ShelfRuns_L28 w L L name2 b3 s_1 was_6 q21.1 names_3 0 (Heap.back q21.2 q33.2) K)
      else law19_ShelfRuns_L28 w L L name2 b3 s_1 was_6 q21.1 names_3 0 q21.2 K)
    else
    bif (q21.1 != 0) then (
      K (.bool false) q21.2)
    else
    bif (q21.1 != 3) then (
      (w.law19_Get s_1 (⟨#[126]⟩ : ByteArray) q21.2).bind fun q34 =>
      bif q34.1.There then (
        K (.bool false) q34.2)
      else
      bif (q21.1 == 3) then (
        (w.law19_Get s_1 (⟨#[126]⟩ : ByteArray) (Heap.frz q34.2)).bind fun q35 =>
        bif (!((q35.1.Data.toList == q20.1.Data.toList) && (((q35.1.Sure : Int) == q20.1.Sure) && ((q35.1.There == q20.1.There) && true)))) then (
          K (.bool false) (Heap.back q34.2 q35.2))
        else
        law19_ShelfRuns_L28 w L L name2 b3 s_1 was_6 q21.1 names_3 0 (Heap.back q34.2 q35.2) K)
      else law19_ShelfRuns_L28 w L L name2 b3 s_1 was_6 q21.1 names_3 0 q34.2 K)
    else
    bif (q21.1 == 3) then (
      (w.law19_Get s_1 (⟨#[126]⟩ : ByteArray) (Heap.frz q21.2)).bind fun q36 =>
      bif (!((q36.1.Data.toList == q20.1.Data.toList) && (((q36.1.Sure : Int) == q20.1.Sure) && ((q36.1.There == q20.1.There) && true)))) then (
        K (.bool false) (Heap.back q21.2 q36.2))
      else
      law19_ShelfRuns_L28 w L L name2 b3 s_1 was_6 q21.1 names_3 0 (Heap.back q21.2 q36.2) K)
    else law19_ShelfRuns_L28 w L L name2 b3 s_1 was_6 q21.1 names_3 0 q21.2 K := by kernel_rfl
set_option maxRecDepth 100000 in
theorem law19_ShelfRuns_L28_eq {R : Type} (w : C_law19_ShelfRuns) (L fu0 : Nat) (name2 : ByteArray) (b3 : Sl) (s_1 : Pt) (was_6 : Sl) (e_8 : Int) (names_3 : Sl) (x_9 : Int) (σ : Heap) (K : AVal → Heap → Option R) :
    law19_ShelfRuns_L28 w L (fu0 + 1) name2 b3 s_1 was_6 e_8 names_3 x_9 σ K =
    bif (decide (x_9 < (names_3.n : Int))) then (
      bif ((decide (0 ≤ x_9)) && (decide (x_9 < (names_3.n : Int)))) then (
        (names_3.b).bind fun b37 =>
        (str? (Heap.cell? σ b37 (names_3.o + x_9.toNat * 1))).bind fun x38 =>
        bif (!(x38.toList == name2.toList)) then (
          (w.law19_Get s_1 x38 (Heap.frz σ)).bind fun q39 =>
          bif ((decide (0 ≤ x_9)) && (decide (x_9 < (was_6.n : Int)))) then (
            (was_6.b).bind fun b40 =>
            (str? (Heap.cell? (Heap.back σ q39.2) b40 (was_6.o + x_9.toNat * 3))).bind fun x41 =>
            (int? (Heap.cell? (Heap.back σ q39.2) b40 ((was_6.o + x_9.toNat * 3) + 1)) .i64).bind fun x42 =>
            (bool? (Heap.cell? (Heap.back σ q39.2) b40 ((was_6.o + x_9.toNat * 3) + 2))).bind fun x43 =>
            bif (!((q39.1.Data.toList == x41.toList) && (((q39.1.Sure : Int) == x42) && ((q39.1.There == x43) && true)))) then (
              K (.bool false) (Heap.back σ q39.2))
            else
            law19_ShelfRuns_L28 w L fu0 name2 b3 s_1 was_6 e_8 names_3 (IntKind.i64.wrap (x_9 + 1)) (Heap.back σ q39.2) K)
          else none)
        else
        bif (e_8 != 0) then (
          (w.law19_Get s_1 x38 (Heap.frz σ)).bind fun q44 =>
          bif ((decide (0 ≤ x_9)) && (decide (x_9 < (was_6.n : Int)))) then (
            (was_6.b).bind fun b45 =>
            (str? (Heap.cell? (Heap.back σ q44.2) b45 (was_6.o + x_9.toNat * 3))).bind fun x46 =>
            (int? (Heap.cell? (Heap.back σ q44.2) b45 ((was_6.o + x_9.toNat * 3) + 1)) .i64).bind fun x47 =>
            (bool? (Heap.cell? (Heap.back σ q44.2) b45 ((was_6.o + x_9.toNat * 3) + 2))).bind fun x48 =>
            bif (!((q44.1.Data.toList == x46.toList) && (((q44.1.Sure : Int) == x47) && ((q44.1.There == x48) && true)))) then (
              K (.bool false) (Heap.back σ q44.2))
            else
            law19_ShelfRuns_L28 w L fu0 name2 b3 s_1 was_6 e_8 names_3 (IntKind.i64.wrap (x_9 + 1)) (Heap.back σ q44.2) K)
          else none)
        else law19_ShelfRuns_L28 w L fu0 name2 b3 s_1 was_6 e_8 names_3 (IntKind.i64.wrap (x_9 + 1)) σ K)
      else none)
    else
    bif (e_8 != 0) then (
      K (.bool true) σ)
    else
    (w.law19_Get s_1 name2 (Heap.frz σ)).bind fun q49 =>
    (Heap.read (Heap.back σ q49.2) b3.b b3.o b3.n 1).bind fun cs50 =>
    (bytesOf cs50).bind fun bs51 =>
    K (.bool ((q49.1.Data.toList == (⟨bs51.toArray⟩ : ByteArray).toList) && (((q49.1.Sure : Int) == (b3.n : Int)) && ((q49.1.There == true) && true)))) (Heap.back σ q49.2) := by kernel_rfl
set_option maxRecDepth 100000 in
theorem law19_ShelfRuns_eq {R : Type} (w : C_law19_ShelfRuns) (L : Nat) (l1 : Sl) (name2 : ByteArray) (b3 : Sl) (σ : Heap) (K : AVal → Heap → Option R) :
    callC T (O_law19_ShelfRuns w) L 2 9 [.slice l1.b l1.o l1.n 5, .str name2, .slice b3.b b3.o b3.n 1] σ K =
    (w.law19_fit σ).bind fun q4 =>
    bif (!q4.1) then (
      K (.bool false) q4.2)
    else
    (w.law19_small l1 q4.2).bind fun q5 =>
    bif (!q5.1) then (
      K (.bool true) q5.2)
    else
    bif (decide ((b3.n : Int) > 200)) then (
      K (.bool true) q5.2)
    else
    bif (decide ((name2.size : Int) > 50)) then (
      K (.bool true) q5.2)
    else
    (w.file_New 100 q5.2).bind fun q6 =>
    law19_ShelfRuns_L7 w L L name2 b3 q6.1 l1 0 q6.2 K := by kernel_rfl
/-! law19_ShelfLasts -/
noncomputable def law19_ShelfLasts_L9 {R : Type} (w : C_law19_ShelfLasts) (L fu0 : Nat) (b1 : Sl) (keep3 : Int) (s_1 : Pt) (more2 : Sl) (x_2 : Int) (σ : Heap) (K : AVal → Heap → Option R) : Option R :=
  loopAt T (O_law19_ShelfLasts w) L 1 10 Try.f10 [1, 1, 1, 1, 1, 0, 1, 0] [] fu0
    ([.slice b1.b b1.o b1.n 1, .undef, .int .i64 keep3] ++ List.replicate 4 .undef ++ [.ptr s_1] ++ List.replicate 17 .undef ++ [.slice more2.b more2.o more2.n 5, .int .i64 (more2.n : Int), .int .i64 x_2] ++ List.replicate 35 .undef)
    (List.replicate 63 .none) σ K
set_option maxRecDepth 100000 in
theorem law19_ShelfLasts_L9_eq {R : Type} (w : C_law19_ShelfLasts) (L fu0 : Nat) (b1 : Sl) (keep3 : Int) (s_1 : Pt) (more2 : Sl) (x_2 : Int) (σ : Heap) (K : AVal → Heap → Option R) :
    law19_ShelfLasts_L9 w L (fu0 + 1) b1 keep3 s_1 more2 x_2 σ K =
    bif (decide (x_2 < (more2.n : Int))) then (
      bif ((decide (0 ≤ x_2)) && (decide (x_2 < (more2.n : Int)))) then (
        (more2.b).bind fun b8 =>
        (int? (Heap.cell? σ b8 (more2.o + x_2.toNat * 5)) .i64).bind fun x9 =>
        (int? (Heap.cell? σ b8 ((more2.o + x_2.toNat * 5) + 1)) .i64).bind fun x10 =>
        (str? (Heap.cell? σ b8 ((more2.o + x_2.toNat * 5) + 2))).bind fun x11 =>
        (str? (Heap.cell? σ b8 ((more2.o + x_2.toNat * 5) + 3))).bind fun x12 =>
        (slice? (Heap.cell? σ b8 ((more2.o + x_2.toNat * 5) + 4)) 1).bind fun x13 =>
        bif (!(x11.toList == (⟨#[102]⟩ : ByteArray).toList)) then (
          bif (!(x12.toList == (⟨#[102]⟩ : ByteArray).toList)) then (
            (w.law19_Do s_1 ⟨x9, x10, x11, x12, ⟨x13.1, x13.2.1, x13.2.2⟩⟩ σ).bind fun q14 =>
            bif ((IntKind.i64.wrap (BitVec.ofInt IntKind.i64.bits x_2 &&& BitVec.ofInt IntKind.i64.bits 3).toNat) == 3) then (
              alloc q14.2 [.int .i64 keep3, .int .i64 x10] fun b15 σ16 =>
              (w.file_Store_Crash s_1 ⟨(some b15), 0, 2⟩ σ16).bind fun q17 =>
              law19_ShelfLasts_L9 w L fu0 b1 keep3 s_1 more2 (IntKind.i64.wrap (x_2 + 1)) q17.2 K)
            else law19_ShelfLasts_L9 w L fu0 b1 keep3 s_1 more2 (IntKind.i64.wrap (x_2 + 1)) q14.2 K)
          else
          bif ((IntKind.i64.wrap (BitVec.ofInt IntKind.i64.bits x_2 &&& BitVec.ofInt IntKind.i64.bits 3).toNat) == 3) then (
            alloc σ [.int .i64 keep3, .int .i64 x10] fun b18 σ19 =>
            (w.file_Store_Crash s_1 ⟨(some b18), 0, 2⟩ σ19).bind fun q20 =>
            law19_ShelfLasts_L9 w L fu0 b1 keep3 s_1 more2 (IntKind.i64.wrap (x_2 + 1)) q20.2 K)
          else law19_ShelfLasts_L9 w L fu0 b1 keep3 s_1 more2 (IntKind.i64.wrap (x_2 + 1)) σ K)
        else
        bif ((IntKind.i64.wrap (BitVec.ofInt IntKind.i64.bits x_2 &&& BitVec.ofInt IntKind.i64.bits 3).toNat) == 3) then (
          alloc σ [.int .i64 keep3, .int .i64 x10] fun b21 σ22 =>
          (w.file_Store_Crash s_1 ⟨(some b21), 0, 2⟩ σ22).bind fun q23 =>
          law19_ShelfLasts_L9 w L fu0 b1 keep3 s_1 more2 (IntKind.i64.wrap (x_2 + 1)) q23.2 K)
        else law19_ShelfLasts_L9 w L fu0 b1 keep3 s_1 more2 (IntKind.i64.wrap (x_2 + 1)) σ K)
      else none)
    else
    (w.file_Store_Crash s_1 ⟨none, 0, 0⟩ σ).bind fun q24 =>
    (w.law19_Get s_1 (⟨#[102]⟩ : ByteArray) (Heap.frz q24.2)).bind fun q25 =>
    (Heap.read (Heap.back q24.2 q25.2) b1.b b1.o b1.n 1).bind fun cs26 =>
    (bytesOf cs26).bind fun bs27 =>
    K (.bool ((q25.1.Data.toList == (⟨bs27.toArray⟩ : ByteArray).toList) && (((q25.1.Sure : Int) == (b1.n : Int)) && ((q25.1.There == true) && true)))) (Heap.back q24.2 q25.2) := by kernel_rfl
set_option maxRecDepth 100000 in
theorem law19_ShelfLasts_eq {R : Type} (w : C_law19_ShelfLasts) (L : Nat) (b1 : Sl) (more2 : Sl) (keep3 : Int) (σ : Heap) (K : AVal → Heap → Option R) :
    callC T (O_law19_ShelfLasts w) L 2 10 [.slice b1.b b1.o b1.n 1, .slice more2.b more2.o more2.n 5, .int .i64 keep3] σ K =
    (w.law19_fit σ).bind fun q4 =>
    bif (!q4.1) then (
      K (.bool false) q4.2)
    else
    (w.law19_small more2 q4.2).bind fun q5 =>
    bif (!q5.1) then (
      K (.bool true) q5.2)
    else
    bif (decide ((b1.n : Int) > 200)) then (
      K (.bool true) q5.2)
    else
    (w.file_New 1048576 q5.2).bind fun q6 =>
    (w.shelf_Save q6.1 (⟨#[102]⟩ : ByteArray) b1 q6.2).bind fun q7 =>
    bif (q7.1 != 0) then (
      K (.bool false) q7.2)
    else
    law19_ShelfLasts_L9 w L L b1 keep3 q6.1 more2 0 q7.2 K := by kernel_rfl
/-! shelf_Sweep -/
set_option maxRecDepth 100000 in
theorem shelf_Sweep_eq {R : Type} (w : C_shelf_Sweep) (L : Nat) (s1 : Pt) (σ : Heap) (K : AVal → Heap → Option R) :
    callC T (O_shelf_Sweep w) L 2 36 [.ptr s1] σ K =
    (w.file_Store_Delete s1 (⟨#[126]⟩ : ByteArray) σ).bind fun q2 =>
    bif (q2.1 != 4) then (
      K (.int .i64 q2.1) q2.2)
    else
    K (.int .i64 0) q2.2 := by kernel_rfl
/-! law19_ShelfSweeps -/
noncomputable def law19_ShelfSweeps_L7 {R : Type} (w : C_law19_ShelfSweeps) (L fu0 : Nat) (s_1 : Pt) (l1 : Sl) (x_2 : Int) (σ : Heap) (K : AVal → Heap → Option R) : Option R :=
  loopAt T (O_law19_ShelfSweeps w) L 1 11 Try.f11 [1, 1, 1, 1, 0, 1, 0] [] fu0
    ([.undef, .undef, .undef, .ptr s_1] ++ List.replicate 16 .undef ++ [.slice l1.b l1.o l1.n 5, .int .i64 (l1.n : Int), .int .i64 x_2] ++ List.replicate 74 .undef)
    (List.replicate 97 .none) σ K
noncomputable def law19_ShelfSweeps_L14 {R : Type} (w : C_law19_ShelfSweeps) (L fu0 : Nat) (s_1 : Pt) (names_3 : Sl) (was_6 : Sl) (x_4 : Sl) (x_5 : Int) (x_7 : Int) (σ : Heap) (K : AVal → Heap → Option R) : Option R :=
  loopAt T (O_law19_ShelfSweeps w) L 1 11 Try.f11 [1, 1, 1, 1, 1, 1, 1, 0, 1, 0] [] fu0
    ([.undef, .undef, .undef, .ptr s_1, .undef, .undef, .slice names_3.b names_3.o names_3.n 1, .slice was_6.b was_6.o was_6.n 3] ++ List.replicate 24 .undef ++ [.slice x_4.b x_4.o x_4.n 1, .int .i64 x_5, .int .i64 x_7] ++ List.replicate 62 .undef)
    (List.replicate 97 .none) σ K
noncomputable def law19_ShelfSweeps_L25 {R : Type} (w : C_law19_ShelfSweeps) (L fu0 : Nat) (s_1 : Pt) (names_3 : Sl) (was_6 : Sl) (had_8 : Bool) (all_9 : Int) (x_10 : Int) (σ : Heap) (K : AVal → Heap → Option R) : Option R :=
  loopAt T (O_law19_ShelfSweeps w) L 1 11 Try.f11 [1, 1, 1, 1, 1, 1, 1, 1, 1, 1, 1, 0, 1, 0] [] fu0
    ([.undef, .undef, .undef, .ptr s_1, .undef, .undef, .slice names_3.b names_3.o names_3.n 1, .slice was_6.b was_6.o was_6.n 3, .undef, .undef, .bool had_8, .int .i64 all_9] ++ List.replicate 54 .undef ++ [.slice names_3.b names_3.o names_3.n 1, .int .i64 (names_3.n : Int), .int .i64 x_10] ++ List.replicate 28 .undef)
    (List.replicate 97 .none) σ K
set_option maxRecDepth 100000 in
theorem law19_ShelfSweeps_L7_eq {R : Type} (w : C_law19_ShelfSweeps) (L fu0 : Nat) (s_1 : Pt) (l1 : Sl) (x_2 : Int) (σ : Heap) (K : AVal → Heap → Option R) :
    law19_ShelfSweeps_L7 w L (fu0 + 1) s_1 l1 x_2 σ K =
    bif (decide (x_2 < (l1.n : Int))) then (
      bif ((decide (0 ≤ x_2)) && (decide (x_2 < (l1.n : Int)))) then (
        (l1.b).bind fun b5 =>
        (int? (Heap.cell? σ b5 (l1.o + x_2.toNat * 5)) .i64).bind fun x6 =>
        (int? (Heap.cell? σ b5 ((l1.o + x_2.toNat * 5) + 1)) .i64).bind fun x7 =>
        (str? (Heap.cell? σ b5 ((l1.o + x_2.toNat * 5) + 2))).bind fun x8 =>
        (str? (Heap.cell? σ b5 ((l1.o + x_2.toNat * 5) + 3))).bind fun x9 =>
        (slice? (Heap.cell? σ b5 ((l1.o + x_2.toNat * 5) + 4)) 1).bind fun x10 =>
        (w.law19_Do s_1 ⟨x6, x7, x8, x9, ⟨x10.1, x10.2.1, x10.2.2⟩⟩ σ).bind fun q11 =>
        law19_ShelfSweeps_L7 w L fu0 s_1 l1 (IntKind.i64.wrap (x_2 + 1)) q11.2 K)
      else none)
    else
    (w.shelf_Names s_1 σ).bind fun q12 =>
    law19_ShelfSweeps_L14 w L L s_1 q12.1 ⟨none, 0, 0⟩ q12.1 (q12.1.n : Int) 0 q12.2 K := by kernel_rfl
set_option maxRecDepth 100000 in
theorem law19_ShelfSweeps_L14_eq {R : Type} (w : C_law19_ShelfSweeps) (L fu0 : Nat) (s_1 : Pt) (names_3 : Sl) (was_6 : Sl) (x_4 : Sl) (x_5 : Int) (x_7 : Int) (σ : Heap) (K : AVal → Heap → Option R) :
    law19_ShelfSweeps_L14 w L (fu0 + 1) s_1 names_3 was_6 x_4 x_5 x_7 σ K =
    bif (decide (x_7 < x_5)) then (
      bif ((decide (0 ≤ x_7)) && (decide (x_7 < (x_4.n : Int)))) then (
        (x_4.b).bind fun b13 =>
        (str? (Heap.cell? σ b13 (x_4.o + x_7.toNat * 1))).bind fun x14 =>
        bif (x14.toList == (⟨#[126]⟩ : ByteArray).toList) then (
          K (.bool false) σ)
        else
        (w.law19_Get s_1 x14 σ).bind fun q15 =>
        (Heap.append q15.2 was_6.b was_6.o was_6.n 3 32 [.str q15.1.Data, .int .i64 q15.1.Sure, .bool q15.1.There] 1).bind fun q16 =>
        law19_ShelfSweeps_L14 w L fu0 s_1 names_3 ⟨q16.1.1, q16.1.2.1, q16.1.2.2⟩ x_4 x_5 (IntKind.i64.wrap (x_7 + 1)) q16.2 K)
      else none)
    else
    (w.law19_Get s_1 (⟨#[126]⟩ : ByteArray) σ).bind fun q17 =>
    (w.file_Store_Names s_1 q17.2).bind fun q18 =>
    (w.shelf_Sweep s_1 q18.2).bind fun q19 =>
    bif (q19.1 != 0) then (
      K (.bool false) q19.2)
    else
    (w.shelf_Sweep s_1 q19.2).bind fun q20 =>
    bif (q20.1 != 0) then (
      K (.bool false) q20.2)
    else
    (w.law19_Get s_1 (⟨#[126]⟩ : ByteArray) q20.2).bind fun q21 =>
    bif q21.1.There then (
      K (.bool false) q21.2)
    else
    law19_ShelfSweeps_L25 w L L s_1 names_3 was_6 q17.1.There (q18.1.n : Int) 0 q21.2 K := by kernel_rfl
set_option maxRecDepth 100000 in
theorem law19_ShelfSweeps_L25_eq {R : Type} (w : C_law19_ShelfSweeps) (L fu0 : Nat) (s_1 : Pt) (names_3 : Sl) (was_6 : Sl) (had_8 : Bool) (all_9 : Int) (x_10 : Int) (σ : Heap) (K : AVal → Heap → Option R) :
    law19_ShelfSweeps_L25 w L (fu0 + 1) s_1 names_3 was_6 had_8 all_9 x_10 σ K =
    bif (decide (x_10 < (names_3.n : Int))) then (
      bif ((decide (0 ≤ x_10)) && (decide (x_10 < (names_3.n : Int)))) then (
        (names_3.b).bind fun b22 =>
        (str? (Heap.cell? σ b22 (names_3.o + x_10.toNat * 1))).bind fun x23 =>
        (w.law19_Get s_1 x23 (Heap.frz σ)).bind fun q24 =>
        bif ((decide (0 ≤ x_10)) && (decide (x_10 < (was_6.n : Int)))) then (
          (was_6.b).bind fun b25 =>
          (str? (Heap.cell? (Heap.back σ q24.2) b25 (was_6.o + x_10.toNat * 3))).bind fun x26 =>
          (int? (Heap.cell? (Heap.back σ q24.2) b25 ((was_6.o + x_10.toNat * 3) + 1)) .i64).bind fun x27 =>
          (bool? (Heap.cell? (Heap.back σ q24.2) b25 ((was_6.o + x_10.toNat * 3) + 2))).bind fun x28 =>
          bif (!((q24.1.Data.toList == x26.toList) && (((q24.1.Sure : Int) == x27) && ((q24.1.There == x28) && true)))) then (
            K (.bool false) (Heap.back σ q24.2))
          else
          law19_ShelfSweeps_L25 w L fu0 s_1 names_3 was_6 had_8 all_9 (IntKind.i64.wrap (x_10 + 1)) (Heap.back σ q24.2) K)
        else none)
      else none)
    else
    (w.file_Store_Names s_1 σ).bind fun q29 =>
    bif ((q29.1.n : Int) == (names_3.n : Int)) then (
      K (.bool (had_8 == (all_9 == (IntKind.i64.wrap ((names_3.n : Int) + 1))))) q29.2)
    else
    K (.bool false) q29.2 := by kernel_rfl
set_option maxRecDepth 100000 in
theorem law19_ShelfSweeps_eq {R : Type} (w : C_law19_ShelfSweeps) (L : Nat) (l1 : Sl) (σ : Heap) (K : AVal → Heap → Option R) :
    callC T (O_law19_ShelfSweeps w) L 2 11 [.slice l1.b l1.o l1.n 5] σ K =
    (w.law19_fit σ).bind fun q2 =>
    bif (!q2.1) then (
      K (.bool false) q2.2)
    else
    (w.law19_small l1 q2.2).bind fun q3 =>
    bif (!q3.1) then (
      K (.bool true) q3.2)
    else
    (w.file_New 1048576 q3.2).bind fun q4 =>
    law19_ShelfSweeps_L7 w L L q4.1 l1 0 q4.2 K := by kernel_rfl
/-! law19_ShelfFuses -/
noncomputable def law19_ShelfFuses_L7 {R : Type} (w : C_law19_ShelfFuses) (L fu0 : Nat) (b2 : Sl) (s_1 : Pt) (l1 : Sl) (x_2 : Int) (at3 : Arr_3_Int) (σ : Heap) (K : AVal → Heap → Option R) : Option R :=
  loopAt T (O_law19_ShelfFuses w) L 1 12 Try.f12 [1, 1, 1, 1, 0, 1, 0] [] fu0
    ([.undef, .slice b2.b b2.o b2.n 1, .undef, .undef, .undef, .lptr 5 0, .undef, .ptr s_1] ++ List.replicate 17 .undef ++ [.slice l1.b l1.o l1.n 5, .int .i64 (l1.n : Int), .int .i64 x_2] ++ List.replicate 72 .undef)
    (List.replicate 5 .none ++ [.cells [.int .i64 at3.i0, .int .i64 at3.i1, .int .i64 at3.i2]] ++ List.replicate 94 .none) σ K
set_option maxRecDepth 100000 in
theorem law19_ShelfFuses_L7_eq {R : Type} (w : C_law19_ShelfFuses) (L fu0 : Nat) (b2 : Sl) (s_1 : Pt) (l1 : Sl) (x_2 : Int) (at3 : Arr_3_Int) (σ : Heap) (K : AVal → Heap → Option R) :
    law19_ShelfFuses_L7 w L (fu0 + 1) b2 s_1 l1 x_2 at3 σ K =
    bif (decide (x_2 < (l1.n : Int))) then (
      bif ((decide (0 ≤ x_2)) && (decide (x_2 < (l1.n : Int)))) then (
        (l1.b).bind fun b7 =>
        (int? (Heap.cell? σ b7 (l1.o + x_2.toNat * 5)) .i64).bind fun x8 =>
        (int? (Heap.cell? σ b7 ((l1.o + x_2.toNat * 5) + 1)) .i64).bind fun x9 =>
        (str? (Heap.cell? σ b7 ((l1.o + x_2.toNat * 5) + 2))).bind fun x10 =>
        (str? (Heap.cell? σ b7 ((l1.o + x_2.toNat * 5) + 3))).bind fun x11 =>
        (slice? (Heap.cell? σ b7 ((l1.o + x_2.toNat * 5) + 4)) 1).bind fun x12 =>
        (w.law19_Do s_1 ⟨x8, x9, x10, x11, ⟨x12.1, x12.2.1, x12.2.2⟩⟩ σ).bind fun q13 =>
        law19_ShelfFuses_L7 w L fu0 b2 s_1 l1 (IntKind.i64.wrap (x_2 + 1)) at3 q13.2 K)
      else none)
    else
    alloc σ [.int .i64 at3.i2] fun b14 σ15 =>
    (w.file_Store_Crash s_1 ⟨(some b14), 0, 1⟩ σ15).bind fun q16 =>
    (w.law19_Get s_1 (⟨#[102]⟩ : ByteArray) q16.2).bind fun q17 =>
    (w.law19_Get s_1 (⟨#[98]⟩ : ByteArray) q17.2).bind fun q18 =>
    (w.file_Store_Fuse s_1 (IntKind.i64.wrap (BitVec.ofInt IntKind.i64.bits at3.i0 &&& BitVec.ofInt IntKind.i64.bits 7).toNat) q18.2).bind fun q19 =>
    (w.shelf_Save s_1 (⟨#[102]⟩ : ByteArray) b2 q19.2).bind fun q20 =>
    bif (q20.1 != 0) then (
      bif (q20.1 != 8) then (
        K (.bool false) q20.2)
      else
      (w.file_Store_Up s_1 q20.2).bind fun q21 =>
      bif q21.1 then (
        K (.bool false) q21.2)
      else
      alloc q21.2 [.int .i64 at3.i1, .int .i64 at3.i1, .int .i64 at3.i1, .int .i64 at3.i1] fun b22 σ23 =>
      (w.file_Store_Crash s_1 ⟨(some b22), 0, 4⟩ σ23).bind fun q24 =>
      (w.law19_Get s_1 (⟨#[102]⟩ : ByteArray) q24.2).bind fun q25 =>
      (w.law19_Get s_1 (⟨#[98]⟩ : ByteArray) (Heap.frz q25.2)).bind fun q26 =>
      bif (!((q26.1.Data.toList == q18.1.Data.toList) && (((q26.1.Sure : Int) == q18.1.Sure) && ((q26.1.There == q18.1.There) && true)))) then (
        K (.bool false) (Heap.back q25.2 q26.2))
      else
      bif (q20.1 == 0) then (
        (Heap.read (Heap.back q25.2 q26.2) b2.b b2.o b2.n 1).bind fun cs27 =>
        (bytesOf cs27).bind fun bs28 =>
        K (.bool ((q25.1.Data.toList == (⟨bs28.toArray⟩ : ByteArray).toList) && (((q25.1.Sure : Int) == (b2.n : Int)) && ((q25.1.There == true) && true)))) (Heap.back q25.2 q26.2))
      else
      bif ((q25.1.Data.toList == q17.1.Data.toList) && (((q25.1.Sure : Int) == q17.1.Sure) && ((q25.1.There == q17.1.There) && true))) then (
        K (.bool true) (Heap.back q25.2 q26.2))
      else
      (Heap.read (Heap.back q25.2 q26.2) b2.b b2.o b2.n 1).bind fun cs29 =>
      (bytesOf cs29).bind fun bs30 =>
      K (.bool ((q25.1.Data.toList == (⟨bs30.toArray⟩ : ByteArray).toList) && (((q25.1.Sure : Int) == (b2.n : Int)) && ((q25.1.There == true) && true)))) (Heap.back q25.2 q26.2))
    else
    alloc q20.2 [.int .i64 at3.i1, .int .i64 at3.i1, .int .i64 at3.i1, .int .i64 at3.i1] fun b31 σ32 =>
    (w.file_Store_Crash s_1 ⟨(some b31), 0, 4⟩ σ32).bind fun q33 =>
    (w.law19_Get s_1 (⟨#[102]⟩ : ByteArray) q33.2).bind fun q34 =>
    (w.law19_Get s_1 (⟨#[98]⟩ : ByteArray) (Heap.frz q34.2)).bind fun q35 =>
    bif (!((q35.1.Data.toList == q18.1.Data.toList) && (((q35.1.Sure : Int) == q18.1.Sure) && ((q35.1.There == q18.1.There) && true)))) then (
      K (.bool false) (Heap.back q34.2 q35.2))
    else
    bif (q20.1 == 0) then (
      (Heap.read (Heap.back q34.2 q35.2) b2.b b2.o b2.n 1).bind fun cs36 =>
      (bytesOf cs36).bind fun bs37 =>
      K (.bool ((q34.1.Data.toList == (⟨bs37.toArray⟩ : ByteArray).toList) && (((q34.1.Sure : Int) == (b2.n : Int)) && ((q34.1.There == true) && true)))) (Heap.back q34.2 q35.2))
    else
    bif ((q34.1.Data.toList == q17.1.Data.toList) && (((q34.1.Sure : Int) == q17.1.Sure) && ((q34.1.There == q17.1.There) && true))) then (
      K (.bool true) (Heap.back q34.2 q35.2))
    else
    (Heap.read (Heap.back q34.2 q35.2) b2.b b2.o b2.n 1).bind fun cs38 =>
    (bytesOf cs38).bind fun bs39 =>
    K (.bool ((q34.1.Data.toList == (⟨bs39.toArray⟩ : ByteArray).toList) && (((q34.1.Sure : Int) == (b2.n : Int)) && ((q34.1.There == true) && true)))) (Heap.back q34.2 q35.2) := by kernel_rfl
set_option maxRecDepth 100000 in
theorem law19_ShelfFuses_eq {R : Type} (w : C_law19_ShelfFuses) (L : Nat) (l1 : Sl) (b2 : Sl) (at3 : Arr_3_Int) (σ : Heap) (K : AVal → Heap → Option R) :
    callC T (O_law19_ShelfFuses w) L 2 12 [.slice l1.b l1.o l1.n 5, .slice b2.b b2.o b2.n 1, .agg [.int .i64 at3.i0, .int .i64 at3.i1, .int .i64 at3.i2]] σ K =
    (w.law19_fit σ).bind fun q4 =>
    bif (!q4.1) then (
      K (.bool false) q4.2)
    else
    (w.law19_small l1 q4.2).bind fun q5 =>
    bif (!q5.1) then (
      K (.bool true) q5.2)
    else
    bif (decide ((b2.n : Int) > 200)) then (
      K (.bool true) q5.2)
    else
    (w.file_New 1048576 q5.2).bind fun q6 =>
    law19_ShelfFuses_L7 w L L b2 q6.1 l1 0 at3 q6.2 K := by kernel_rfl
/-! shelf_write_1 -/
set_option maxRecDepth 100000 in
theorem shelf_write_1_eq {R : Type} (L : Nat) (σ : Heap) (K : AVal → Heap → Option R) :
    callC T known0 L 2 57 [] σ K =
    none := by kernel_rfl
end Go.Abs.TC
