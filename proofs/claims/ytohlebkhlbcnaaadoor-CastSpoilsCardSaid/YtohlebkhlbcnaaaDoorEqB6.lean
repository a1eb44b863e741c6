/-
Lifted functions: what the machine does, one equation for each entry and each loop (printed by lift.py).
-/
import Derived.Test.YtohlebkhlbcnaaaDoorSigB
namespace Go.Abs.TB
open Go Go.Abs Go.Proofs
/-! strings_CutPrefix -/
set_option maxRecDepth 100000 in
theorem strings_CutPrefix_eq {R : Type} (w : C_strings_CutPrefix) (L : Nat) (s1 : ByteArray) (prefix2 : ByteArray) (σ : Heap) (K : AVal → Heap → Option R) :
    callC T (O_strings_CutPrefix w) L 2 48 [.str s1, .str prefix2] σ K =
    (w.internal_stringslite_CutPrefix s1 prefix2 σ).bind fun q3 =>
    K (.tuple [.str q3.1.1, .bool q3.1.2]) q3.2 := by kernel_rfl
/-! cast_reader_skip -/
set_option maxRecDepth 100000 in
theorem cast_reader_skip_eq {R : Type} (w : C_cast_reader_skip) (L : Nat) (r1 : Pt) (s2 : ByteArray) (σ : Heap) (K : AVal → Heap → Option R) :
    callC T (O_cast_reader_skip w) L 2 36 [.ptr r1, .str s2] σ K =
    (r1).bind fun q3 =>
    (str? (Heap.cell? σ q3.1 q3.2)).bind fun x4 =>
    (w.strings_CutPrefix x4 s2 σ).bind fun q5 =>
    (r1).bind fun q6 =>
    (bool? (Heap.cell? q5.2 q6.1 (q6.2 + 1))).bind fun x7 =>
    bif x7 then (
      (r1).bind fun q8 =>
      (Heap.store q5.2 q8.1 q8.2 [.str q5.1.1]).bind fun σ9 =>
      (r1).bind fun q10 =>
      (Heap.store σ9 q10.1 (q10.2 + 1) [.bool q5.1.2]).bind fun σ11 =>
      K (.tuple []) σ11)
    else
    (r1).bind fun q12 =>
    (Heap.store q5.2 q12.1 q12.2 [.str q5.1.1]).bind fun σ13 =>
    (r1).bind fun q14 =>
    (Heap.store σ13 q14.1 (q14.2 + 1) [.bool false]).bind fun σ15 =>
    K (.tuple []) σ15 := by kernel_rfl
/-! cast_reader_number -/
set_option maxRecDepth 100000 in
theorem cast_reader_number_eq {R : Type} (w : C_cast_reader_number) (L : Nat) (r1 : Pt) (σ : Heap) (K : AVal → Heap → Option R) :
    callC T (O_cast_reader_number w) L 2 37 [.ptr r1] σ K =
    (r1).bind fun q2 =>
    (str? (Heap.cell? σ q2.1 q2.2)).bind fun x3 =>
    (w.json_Number x3 σ).bind fun q4 =>
    (r1).bind fun q5 =>
    (bool? (Heap.cell? q4.2 q5.1 (q5.2 + 1))).bind fun x6 =>
    bif x6 then (
      (r1).bind fun q7 =>
      (Heap.store q4.2 q7.1 q7.2 [.str q4.1.2.1]).bind fun σ8 =>
      (r1).bind fun q9 =>
      (Heap.store σ8 q9.1 (q9.2 + 1) [.bool q4.1.2.2]).bind fun σ10 =>
      K (.int .i64 q4.1.1) σ10)
    else
    (r1).bind fun q11 =>
    (Heap.store q4.2 q11.1 q11.2 [.str q4.1.2.1]).bind fun σ12 =>
    (r1).bind fun q13 =>
    (Heap.store σ12 q13.1 (q13.2 + 1) [.bool false]).bind fun σ14 =>
    K (.int .i64 q4.1.1) σ14 := by kernel_rfl
/-! cast_reader_time -/
set_option maxRecDepth 100000 in
theorem cast_reader_time_eq {R : Type} (w : C_cast_reader_time) (L : Nat) (r1 : Pt) (σ : Heap) (K : AVal → Heap → Option R) :
    callC T (O_cast_reader_time w) L 2 49 [.ptr r1] σ K =
    (r1).bind fun q2 =>
    (str? (Heap.cell? σ q2.1 q2.2)).bind fun x3 =>
    (w.json_Untime x3 σ).bind fun q4 =>
    (r1).bind fun q5 =>
    (bool? (Heap.cell? q4.2 q5.1 (q5.2 + 1))).bind fun x6 =>
    bif x6 then (
      (r1).bind fun q7 =>
      (Heap.store q4.2 q7.1 q7.2 [.str q4.1.2.1]).bind fun σ8 =>
      (r1).bind fun q9 =>
      (Heap.store σ8 q9.1 (q9.2 + 1) [.bool q4.1.2.2]).bind fun σ10 =>
      K (.int .i64 q4.1.1) σ10)
    else
    (r1).bind fun q11 =>
    (Heap.store q4.2 q11.1 q11.2 [.str q4.1.2.1]).bind fun σ12 =>
    (r1).bind fun q13 =>
    (Heap.store σ12 q13.1 (q13.2 + 1) [.bool false]).bind fun σ14 =>
    K (.int .i64 q4.1.1) σ14 := by kernel_rfl
/-! cast_reader_kind -/
noncomputable def cast_reader_kind_L5 {R : Type} (L fu0 : Nat) (r1 : Pt) (x_1 : Int) (σ : Heap) (K : AVal → Heap → Option R) : Option R :=
  loopAt T known0 L 1 50 Tryd.f50 [1, 1, 0, 1, 0] [] fu0
    ([.ptr r1] ++ List.replicate 11 .undef ++ [.int .i64 x_1] ++ List.replicate 23 .undef)
    (List.replicate 36 .none) σ K
set_option maxRecDepth 100000 in
theorem cast_reader_kind_L5_eq {R : Type} (L fu0 : Nat) (r1 : Pt) (x_1 : Int) (σ : Heap) (K : AVal → Heap → Option R) :
    cast_reader_kind_L5 L (fu0 + 1) r1 x_1 σ K =
    bif (decide (x_1 < 4)) then (
      bif ((decide (0 ≤ x_1)) && (decide (x_1 < 4))) then (
        (r1).bind fun q6 =>
        (str? (Heap.cell? σ q6.1 q6.2)).bind fun x7 =>
        bif (decide (0 < (x7.size : Int))) then (
          bif ((((⟨#[111, 105, 114, 109]⟩ : ByteArray).data.toList.getD x_1.toNat 0).toNat : Int) == ((x7.data.toList.getD 0 0).toNat : Int)) then (
            (r1).bind fun q8 =>
            (str? (Heap.cell? σ q8.1 q8.2)).bind fun x9 =>
            bif ((decide (1 ≤ (x9.size : Int))) && (decide ((x9.size : Int) ≤ (x9.size : Int)))) then (
              (r1).bind fun q10 =>
              (Heap.store σ q10.1 q10.2 [.str (x9.extract 1 x9.size)]).bind fun σ11 =>
              K (.int .i64 x_1) σ11)
            else none)
          else cast_reader_kind_L5 L fu0 r1 (IntKind.i64.wrap (x_1 + 1)) σ K)
        else none)
      else none)
    else
    (r1).bind fun q12 =>
    (Heap.store σ q12.1 (q12.2 + 1) [.bool false]).bind fun σ13 =>
    K (.int .i64 0) σ13 := by kernel_rfl
set_option maxRecDepth 100000 in
theorem cast_reader_kind_eq {R : Type} (L : Nat) (r1 : Pt) (σ : Heap) (K : AVal → Heap → Option R) :
    callC T known0 L 2 50 [.ptr r1] σ K =
    (r1).bind fun q2 =>
    (str? (Heap.cell? σ q2.1 q2.2)).bind fun x3 =>
    bif (x3.toList == (⟨#[]⟩ : ByteArray).toList) then (
      (r1).bind fun q4 =>
      (Heap.store σ q4.1 (q4.2 + 1) [.bool false]).bind fun σ5 =>
      K (.int .i64 0) σ5)
    else cast_reader_kind_L5 L L r1 0 σ K := by kernel_rfl
/-! cast_reader_text -/
set_option maxRecDepth 100000 in
theorem cast_reader_text_eq {R : Type} (w : C_cast_reader_text) (L : Nat) (r1 : Pt) (σ : Heap) (K : AVal → Heap → Option R) :
    callC T (O_cast_reader_text w) L 2 51 [.ptr r1] σ K =
    (r1).bind fun q2 =>
    (str? (Heap.cell? σ q2.1 q2.2)).bind fun x3 =>
    (w.json_Unquote x3 σ).bind fun q4 =>
    (r1).bind fun q5 =>
    (bool? (Heap.cell? q4.2 q5.1 (q5.2 + 1))).bind fun x6 =>
    bif x6 then (
      (r1).bind fun q7 =>
      (Heap.store q4.2 q7.1 q7.2 [.str q4.1.2.1]).bind fun σ8 =>
      (r1).bind fun q9 =>
      (Heap.store σ8 q9.1 (q9.2 + 1) [.bool q4.1.2.2]).bind fun σ10 =>
      K (.str q4.1.1) σ10)
    else
    (r1).bind fun q11 =>
    (Heap.store q4.2 q11.1 q11.2 [.str q4.1.2.1]).bind fun σ12 =>
    (r1).bind fun q13 =>
    (Heap.store σ12 q13.1 (q13.2 + 1) [.bool false]).bind fun σ14 =>
    K (.str q4.1.1) σ14 := by kernel_rfl
/-! cast_reader_event -/
set_option maxRecDepth 100000 in
theorem cast_reader_event_eq {R : Type} (w : C_cast_reader_event) (L : Nat) (r1 : Pt) (σ : Heap) (K : AVal → Heap → Option R) :
    callC T (O_cast_reader_event w) L 2 38 [.ptr r1] σ K =
    (w.cast_reader_skip r1 (⟨#[91]⟩ : ByteArray) σ).bind fun q2 =>
    (w.cast_reader_time r1 q2.2).bind fun q3 =>
    (w.cast_reader_skip r1 (⟨#[44, 32, 34]⟩ : ByteArray) q3.2).bind fun q4 =>
    (w.cast_reader_kind r1 q4.2).bind fun q5 =>
    (w.cast_reader_skip r1 (⟨#[34, 44, 32]⟩ : ByteArray) q5.2).bind fun q6 =>
    (w.cast_reader_text r1 q6.2).bind fun q7 =>
    (w.cast_reader_skip r1 (⟨#[93, 10]⟩ : ByteArray) q7.2).bind fun q8 =>
    bif (q5.1 == 2) then (
      (r1).bind fun q9 =>
      (bool? (Heap.cell? q8.2 q9.1 (q9.2 + 1))).bind fun x10 =>
      alloc (Heap.frz q8.2) [.str (⟨#[]⟩ : ByteArray), .bool false] fun b11 σ12 =>
      (Heap.store (Heap.back q8.2 σ12) b11 0 [.str q7.1, .bool x10]).bind fun σ13 =>
      (w.cast_reader_number (some (b11, 0)) σ13).bind fun q14 =>
      (w.cast_reader_skip (some (b11, 0)) (⟨#[120]⟩ : ByteArray) q14.2).bind fun q15 =>
      (w.cast_reader_number (some (b11, 0)) q15.2).bind fun q16 =>
      (bool? (Heap.cell? q16.2 b11 1)).bind fun x17 =>
      bif x17 then (
        (str? (Heap.cell? q16.2 b11 0)).bind fun x18 =>
        (r1).bind fun q19 =>
        (Heap.store q16.2 q19.1 (q19.2 + 1) [.bool (x18.toList == (⟨#[]⟩ : ByteArray).toList)]).bind fun σ20 =>
        K (.agg [.int .i64 q3.1, .int .i64 q5.1, .str (⟨#[]⟩ : ByteArray), .int .i64 q14.1, .int .i64 q16.1]) σ20)
      else
      (r1).bind fun q21 =>
      (Heap.store q16.2 q21.1 (q21.2 + 1) [.bool false]).bind fun σ22 =>
      K (.agg [.int .i64 q3.1, .int .i64 q5.1, .str (⟨#[]⟩ : ByteArray), .int .i64 q14.1, .int .i64 q16.1]) σ22)
    else K (.agg [.int .i64 q3.1, .int .i64 q5.1, .str q7.1, .int .i64 0, .int .i64 0]) q8.2 := by kernel_rfl
/-! event_Right -/
set_option maxRecDepth 100000 in
theorem event_Right_eq {R : Type} (L : Nat) (e1 : api_Event) (σ : Heap) (K : AVal → Heap → Option R) :
    callC T known0 L 2 52 [.agg [.int .i64 e1.Time, .int .i64 e1.Kind, .str e1.Data, .int .i64 e1.W, .int .i64 e1.H]] σ K =
    bif (decide (e1.Time < 0)) then (
      K (.bool false) σ)
    else
    bif (decide (e1.Time ≥ 4611686018427387904)) then (
      K (.bool false) σ)
    else
    bif (decide ((e1.Data.size : Int) > 400)) then (
      K (.bool false) σ)
    else
    bif (e1.Kind == 2) then (
      bif (e1.Data.toList == (⟨#[]⟩ : ByteArray).toList) then (
        bif (decide (e1.W ≥ 1)) then (
          bif (decide (e1.H ≥ 1)) then (
            bif (decide (e1.W ≤ 1000)) then (
              K (.bool (decide (e1.H ≤ 1000))) σ)
            else
            K (.bool false) σ)
          else K (.bool false) σ)
        else K (.bool false) σ)
      else K (.bool false) σ)
    else
    bif (e1.Kind == 0) then (
      bif (e1.W == 0) then (
        K (.bool (e1.H == 0)) σ)
      else
      K (.bool false) σ)
    else
    bif (e1.Kind == 1) then (
      bif (e1.W == 0) then (
        K (.bool (e1.H == 0)) σ)
      else
      K (.bool false) σ)
    else
    bif (e1.Kind == 3) then (
      bif (e1.W == 0) then (
        K (.bool (e1.H == 0)) σ)
      else
      K (.bool false) σ)
    else K (.bool false) σ := by kernel_rfl
/-! event_List -/
noncomputable def event_List_L3 {R : Type} (w : C_event_List) (L fu0 : Nat) (last_1 : Int) (l1 : Sl) (x_2 : Int) (σ : Heap) (K : AVal → Heap → Option R) : Option R :=
  loopAt T (O_event_List w) L 1 39 Tryd.f39 [1, 1, 0, 1, 0] [] fu0
    ([.undef, .undef, .undef, .int .i64 last_1, .undef, .undef, .slice l1.b l1.o l1.n 5, .int .i64 (l1.n : Int), .int .i64 x_2] ++ List.replicate 15 .undef)
    (List.replicate 24 .none) σ K
set_option maxRecDepth 100000 in
theorem event_List_L3_eq {R : Type} (w : C_event_List) (L fu0 : Nat) (last_1 : Int) (l1 : Sl) (x_2 : Int) (σ : Heap) (K : AVal → Heap → Option R) :
    event_List_L3 w L (fu0 + 1) last_1 l1 x_2 σ K =
    bif (decide (x_2 < (l1.n : Int))) then (
      bif ((decide (0 ≤ x_2)) && (decide (x_2 < (l1.n : Int)))) then (
        (l1.b).bind fun b2 =>
        (int? (Heap.cell? σ b2 (l1.o + x_2.toNat * 5)) .i64).bind fun x3 =>
        (int? (Heap.cell? σ b2 ((l1.o + x_2.toNat * 5) + 1)) .i64).bind fun x4 =>
        (str? (Heap.cell? σ b2 ((l1.o + x_2.toNat * 5) + 2))).bind fun x5 =>
        (int? (Heap.cell? σ b2 ((l1.o + x_2.toNat * 5) + 3)) .i64).bind fun x6 =>
        (int? (Heap.cell? σ b2 ((l1.o + x_2.toNat * 5) + 4)) .i64).bind fun x7 =>
        (w.event_Right ⟨x3, x4, x5, x6, x7⟩ σ).bind fun q8 =>
        bif (!q8.1) then (
          K (.bool false) q8.2)
        else
        bif (decide (x3 < last_1)) then (
          K (.bool false) q8.2)
        else
        event_List_L3 w L fu0 x3 l1 (IntKind.i64.wrap (x_2 + 1)) q8.2 K)
      else none)
    else K (.bool true) σ := by kernel_rfl
set_option maxRecDepth 100000 in
theorem event_List_eq {R : Type} (w : C_event_List) (L : Nat) (l1 : Sl) (σ : Heap) (K : AVal → Heap → Option R) :
    callC T (O_event_List w) L 2 39 [.slice l1.b l1.o l1.n 5] σ K =
    event_List_L3 w L L 0 l1 0 σ K := by kernel_rfl
/-! cast_Import -/
noncomputable def cast_Import_L8 {R : Type} (w : C_cast_Import) (L fu0 : Nat) (b2 : Nat) (w_1 : Int) (h_2 : Int) (l_3 : Sl) (σ : Heap) (K : AVal → Heap → Option R) : Option R :=
  loopAt T (O_cast_Import w) L 1 26 Tryd.f26 [1, 1, 1, 1, 1, 1, 1, 1, 0, 0] [] fu0
    (List.replicate 6 .undef ++ [.ptr (some (b2, 0)), .int .i64 w_1, .int .i64 h_2, .slice l_3.b l_3.o l_3.n 5] ++ List.replicate 42 .undef)
    (List.replicate 52 .none) σ K
set_option maxRecDepth 100000 in
theorem cast_Import_L8_eq {R : Type} (w : C_cast_Import) (L fu0 : Nat) (b2 : Nat) (w_1 : Int) (h_2 : Int) (l_3 : Sl) (σ : Heap) (K : AVal → Heap → Option R) :
    cast_Import_L8 w L (fu0 + 1) b2 w_1 h_2 l_3 σ K =
    (bool? (Heap.cell? σ b2 1)).bind fun x9 =>
    bif x9 then (
      (str? (Heap.cell? σ b2 0)).bind fun x10 =>
      bif (!(x10.toList == (⟨#[]⟩ : ByteArray).toList)) then (
        (w.cast_reader_event (some (b2, 0)) σ).bind fun q11 =>
        (Heap.append q11.2 l_3.b l_3.o l_3.n 5 48 [.int .i64 q11.1.Time, .int .i64 q11.1.Kind, .str q11.1.Data, .int .i64 q11.1.W, .int .i64 q11.1.H] 1).bind fun q12 =>
        cast_Import_L8 w L fu0 b2 w_1 h_2 ⟨q12.1.1, q12.1.2.1, q12.1.2.2⟩ q12.2 K)
      else
      (bool? (Heap.cell? σ b2 1)).bind fun x13 =>
      bif (!x13) then (
        K (.tuple [.int .i64 0, .int .i64 0, .slice none 0 0 5, .int .i64 1]) σ)
      else
      (w.event_List l_3 σ).bind fun q14 =>
      bif (!q14.1) then (
        K (.tuple [.int .i64 0, .int .i64 0, .slice none 0 0 5, .int .i64 1]) q14.2)
      else
      K (.tuple [.int .i64 w_1, .int .i64 h_2, .slice l_3.b l_3.o l_3.n 5, .int .i64 0]) q14.2)
    else
    (bool? (Heap.cell? σ b2 1)).bind fun x15 =>
    bif (!x15) then (
      K (.tuple [.int .i64 0, .int .i64 0, .slice none 0 0 5, .int .i64 1]) σ)
    else
    (w.event_List l_3 σ).bind fun q16 =>
    bif (!q16.1) then (
      K (.tuple [.int .i64 0, .int .i64 0, .slice none 0 0 5, .int .i64 1]) q16.2)
    else
    K (.tuple [.int .i64 w_1, .int .i64 h_2, .slice l_3.b l_3.o l_3.n 5, .int .i64 0]) q16.2 := by kernel_rfl
set_option maxRecDepth 100000 in
theorem cast_Import_eq {R : Type} (w : C_cast_Import) (L : Nat) (s1 : ByteArray) (σ : Heap) (K : AVal → Heap → Option R) :
    callC T (O_cast_Import w) L 2 26 [.str s1] σ K =
    alloc σ [.str s1, .bool true] fun b2 σ3 =>
    (w.cast_reader_skip (some (b2, 0)) (⟨#[123, 34, 118, 101, 114, 115, 105, 111, 110, 34, 58, 32, 50, 44, 32, 34, 119, 105, 100, 116, 104, 34, 58, 32]⟩ : ByteArray) σ3).bind fun q4 =>
    (w.cast_reader_number (some (b2, 0)) q4.2).bind fun q5 =>
    (w.cast_reader_skip (some (b2, 0)) (⟨#[44, 32, 34, 104, 101, 105, 103, 104, 116, 34, 58, 32]⟩ : ByteArray) q5.2).bind fun q6 =>
    (w.cast_reader_number (some (b2, 0)) q6.2).bind fun q7 =>
    (w.cast_reader_skip (some (b2, 0)) (⟨#[125, 10]⟩ : ByteArray) q7.2).bind fun q8 =>
    cast_Import_L8 w L L b2 q5.1 q7.1 ⟨none, 0, 0⟩ q8.2 K := by kernel_rfl
/-! ref12_Same -/
noncomputable def ref12_Same_L4 {R : Type} (L fu0 : Nat) (a1 : Sl) (b2 : Sl) (i_1 : Int) (σ : Heap) (K : AVal → Heap → Option R) : Option R :=
  loopAt T known0 L 1 27 Tryd.f27 [1, 1, 0, 1, 0] [] fu0
    ([.slice a1.b a1.o a1.n 5, .slice b2.b b2.o b2.n 5, .undef, .undef, .undef, .int .i64 i_1] ++ List.replicate 20 .undef)
    (List.replicate 26 .none) σ K
set_option maxRecDepth 100000 in
theorem ref12_Same_L4_eq {R : Type} (L fu0 : Nat) (a1 : Sl) (b2 : Sl) (i_1 : Int) (σ : Heap) (K : AVal → Heap → Option R) :
    ref12_Same_L4 L (fu0 + 1) a1 b2 i_1 σ K =
    bif (decide (i_1 < (a1.n : Int))) then (
      bif ((decide (0 ≤ i_1)) && (decide (i_1 < (a1.n : Int)))) then (
        (a1.b).bind fun b3 =>
        (int? (Heap.cell? σ b3 (a1.o + i_1.toNat * 5)) .i64).bind fun x4 =>
        (int? (Heap.cell? σ b3 ((a1.o + i_1.toNat * 5) + 1)) .i64).bind fun x5 =>
        (str? (Heap.cell? σ b3 ((a1.o + i_1.toNat * 5) + 2))).bind fun x6 =>
        (int? (Heap.cell? σ b3 ((a1.o + i_1.toNat * 5) + 3)) .i64).bind fun x7 =>
        (int? (Heap.cell? σ b3 ((a1.o + i_1.toNat * 5) + 4)) .i64).bind fun x8 =>
        bif ((decide (0 ≤ i_1)) && (decide (i_1 < (b2.n : Int)))) then (
          (b2.b).bind fun b9 =>
          (int? (Heap.cell? σ b9 (b2.o + i_1.toNat * 5)) .i64).bind fun x10 =>
          (int? (Heap.cell? σ b9 ((b2.o + i_1.toNat * 5) + 1)) .i64).bind fun x11 =>
          (str? (Heap.cell? σ b9 ((b2.o + i_1.toNat * 5) + 2))).bind fun x12 =>
          (int? (Heap.cell? σ b9 ((b2.o + i_1.toNat * 5) + 3)) .i64).bind fun x13 =>
          (int? (Heap.cell? σ b9 ((b2.o + i_1.toNat * 5) + 4)) .i64).bind fun x14 =>
          bif (!(((x4 : Int) == x10) && (((x5 : Int) == x11) && ((x6.toList == x12.toList) && (((x7 : Int) == x13) && (((x8 : Int) == x14) && true)))))) then (
            K (.bool false) σ)
          else
          ref12_Same_L4 L fu0 a1 b2 (IntKind.i64.wrap (i_1 + 1)) σ K)
        else none)
      else none)
    else K (.bool true) σ := by kernel_rfl
set_option maxRecDepth 100000 in
theorem ref12_Same_eq {R : Type} (L : Nat) (a1 : Sl) (b2 : Sl) (σ : Heap) (K : AVal → Heap → Option R) :
    callC T known0 L 2 27 [.slice a1.b a1.o a1.n 5, .slice b2.b b2.o b2.n 5] σ K =
    bif ((a1.n : Int) != (b2.n : Int)) then (
      K (.bool false) σ)
    else
    ref12_Same_L4 L L a1 b2 0 σ K := by kernel_rfl
/-! law17_CastBack -/
noncomputable def law17_CastBack_L8 {R : Type} (w : C_law17_CastBack) (L fu0 : Nat) (w1 : Int) (h2 : Int) (l_1 : Sl) (x_2 : Int) (x_3 : Int) (σ : Heap) (K : AVal → Heap → Option R) : Option R :=
  loopAt T (O_law17_CastBack w) L 1 11 Tryd.f11 [1, 1, 1, 1, 1, 0, 1, 0] [] fu0
    ([.int .i64 (IntKind.i64.wrap (BitVec.ofInt IntKind.i64.bits w1 &&& BitVec.ofInt IntKind.i64.bits 4611686018427387903).toNat), .int .i64 (IntKind.i64.wrap (BitVec.ofInt IntKind.i64.bits h2 &&& BitVec.ofInt IntKind.i64.bits 4611686018427387903).toNat), .slice l_1.b l_1.o l_1.n 5] ++ List.replicate 21 .undef ++ [.int .i64 x_2, .int .i64 x_3] ++ List.replicate 47 .undef)
    (List.replicate 73 .none) σ K
set_option maxRecDepth 100000 in
theorem law17_CastBack_L8_eq {R : Type} (w : C_law17_CastBack) (L fu0 : Nat) (w1 : Int) (h2 : Int) (l_1 : Sl) (x_2 : Int) (x_3 : Int) (σ : Heap) (K : AVal → Heap → Option R) :
    law17_CastBack_L8 w L (fu0 + 1) w1 h2 l_1 x_2 x_3 σ K =
    bif (decide (x_3 < x_2)) then (
      bif ((decide (0 ≤ x_3)) && (decide (x_3 < (l_1.n : Int)))) then (
        (l_1.b).bind fun b6 =>
        (str? (Heap.cell? σ b6 ((l_1.o + x_3.toNat * 5) + 2))).bind fun x7 =>
        (w.law17_whole x7 σ).bind fun q8 =>
        bif ((decide (0 ≤ x_3)) && (decide (x_3 < (l_1.n : Int)))) then (
          (l_1.b).bind fun b9 =>
          (Heap.store q8.2 b9 ((l_1.o + x_3.toNat * 5) + 2) [.str q8.1]).bind fun σ10 =>
          bif ((decide (0 ≤ x_3)) && (decide (x_3 < (l_1.n : Int)))) then (
            (l_1.b).bind fun b11 =>
            (str? (Heap.cell? σ10 b11 ((l_1.o + x_3.toNat * 5) + 2))).bind fun x12 =>
            bif (decide ((x12.size : Int) > 400)) then (
              K (.bool true) σ10)
            else
            law17_CastBack_L8 w L fu0 w1 h2 l_1 x_2 (IntKind.i64.wrap (x_3 + 1)) σ10 K)
          else none)
        else none)
      else none)
    else
    (w.cast_Export (IntKind.i64.wrap (BitVec.ofInt IntKind.i64.bits w1 &&& BitVec.ofInt IntKind.i64.bits 4611686018427387903).toNat) (IntKind.i64.wrap (BitVec.ofInt IntKind.i64.bits h2 &&& BitVec.ofInt IntKind.i64.bits 4611686018427387903).toNat) l_1 σ).bind fun q13 =>
    (w.cast_Import q13.1 q13.2).bind fun q14 =>
    bif (q14.1.2.2.2 == 0) then (
      bif (q14.1.1 == (IntKind.i64.wrap (BitVec.ofInt IntKind.i64.bits w1 &&& BitVec.ofInt IntKind.i64.bits 4611686018427387903).toNat)) then (
        bif (q14.1.2.1 == (IntKind.i64.wrap (BitVec.ofInt IntKind.i64.bits h2 &&& BitVec.ofInt IntKind.i64.bits 4611686018427387903).toNat)) then (
          (w.ref12_Same q14.1.2.2.1 l_1 q14.2).bind fun q15 =>
          K (.bool q15.1) q15.2)
        else K (.bool false) q14.2)
      else K (.bool false) q14.2)
    else K (.bool false) q14.2 := by kernel_rfl
set_option maxRecDepth 100000 in
theorem law17_CastBack_eq {R : Type} (w : C_law17_CastBack) (L : Nat) (w1 : Int) (h2 : Int) (l3 : Sl) (σ : Heap) (K : AVal → Heap → Option R) :
    callC T (O_law17_CastBack w) L 2 11 [.int .i64 w1, .int .i64 h2, .slice l3.b l3.o l3.n 5] σ K =
    (w.law17_fit σ).bind fun q4 =>
    bif (!q4.1) then (
      K (.bool false) q4.2)
    else
    bif (decide ((l3.n : Int) > 60)) then (
      K (.bool true) q4.2)
    else
    (w.ref12_Tame l3 q4.2).bind fun q5 =>
    law17_CastBack_L8 w L L w1 h2 q5.1 (q5.1.n : Int) 0 q5.2 K := by kernel_rfl
/-! ref12_Right -/
set_option maxRecDepth 100000 in
theorem ref12_Right_eq {R : Type} (L : Nat) (e1 : api_Event) (σ : Heap) (K : AVal → Heap → Option R) :
    callC T known0 L 2 40 [.agg [.int .i64 e1.Time, .int .i64 e1.Kind, .str e1.Data, .int .i64 e1.W, .int .i64 e1.H]] σ K =
    bif (decide (e1.Time < 0)) then (
      K (.bool false) σ)
    else
    bif (decide (e1.Time > 4611686018427387903)) then (
      K (.bool false) σ)
    else
    bif (decide ((e1.Data.size : Int) > 400)) then (
      K (.bool false) σ)
    else
    bif (decide (e1.Kind < 0)) then (
      K (.bool false) σ)
    else
    bif (decide (e1.Kind > 3)) then (
      K (.bool false) σ)
    else
    bif (e1.Kind == 2) then (
      bif ((e1.Data.size : Int) == 0) then (
        bif (decide (e1.W > 0)) then (
          bif (decide (e1.W < 1001)) then (
            bif (decide (e1.H > 0)) then (
              K (.bool (decide (e1.H < 1001))) σ)
            else
            K (.bool false) σ)
          else K (.bool false) σ)
        else K (.bool false) σ)
      else K (.bool false) σ)
    else
    bif (e1.W == 0) then (
      K (.bool (e1.H == 0)) σ)
    else
    K (.bool false) σ := by kernel_rfl
/-! ref12_List -/
noncomputable def ref12_List_L2 {R : Type} (w : C_ref12_List) (L fu0 : Nat) (l1 : Sl) (i_1 : Int) (σ : Heap) (K : AVal → Heap → Option R) : Option R :=
  loopAt T (O_ref12_List w) L 1 28 Tryd.f28 [1, 0, 1, 0] [] fu0
    ([.slice l1.b l1.o l1.n 5, .undef, .undef, .int .i64 i_1] ++ List.replicate 30 .undef)
    (List.replicate 34 .none) σ K
set_option maxRecDepth 100000 in
theorem ref12_List_L2_eq {R : Type} (w : C_ref12_List) (L fu0 : Nat) (l1 : Sl) (i_1 : Int) (σ : Heap) (K : AVal → Heap → Option R) :
    ref12_List_L2 w L (fu0 + 1) l1 i_1 σ K =
    bif (decide (i_1 < (l1.n : Int))) then (
      bif ((decide (0 ≤ i_1)) && (decide (i_1 < (l1.n : Int)))) then (
        (l1.b).bind fun b2 =>
        (int? (Heap.cell? σ b2 (l1.o + i_1.toNat * 5)) .i64).bind fun x3 =>
        (int? (Heap.cell? σ b2 ((l1.o + i_1.toNat * 5) + 1)) .i64).bind fun x4 =>
        (str? (Heap.cell? σ b2 ((l1.o + i_1.toNat * 5) + 2))).bind fun x5 =>
        (int? (Heap.cell? σ b2 ((l1.o + i_1.toNat * 5) + 3)) .i64).bind fun x6 =>
        (int? (Heap.cell? σ b2 ((l1.o + i_1.toNat * 5) + 4)) .i64).bind fun x7 =>
        (w.ref12_Right ⟨x3, x4, x5, x6, x7⟩ σ).bind fun q8 =>
        bif (!q8.1) then (
          K (.bool false) q8.2)
        else
        bif (decide (i_1 > 0)) then (
          bif ((decide (0 ≤ i_1)) && (decide (i_1 < (l1.n : Int)))) then (
            (l1.b).bind fun b9 =>
            (int? (Heap.cell? q8.2 b9 (l1.o + i_1.toNat * 5)) .i64).bind fun x10 =>
            bif ((decide (0 ≤ (IntKind.i64.wrap (i_1 - 1)))) && (decide ((IntKind.i64.wrap (i_1 - 1)) < (l1.n : Int)))) then (
              (l1.b).bind fun b11 =>
              (int? (Heap.cell? q8.2 b11 (l1.o + ((IntKind.i64.wrap (i_1 - 1)).toNat) * 5)) .i64).bind fun x12 =>
              bif (decide (x10 < x12)) then (
                K (.bool false) q8.2)
              else
              ref12_List_L2 w L fu0 l1 (IntKind.i64.wrap (i_1 + 1)) q8.2 K)
            else none)
          else none)
        else ref12_List_L2 w L fu0 l1 (IntKind.i64.wrap (i_1 + 1)) q8.2 K)
      else none)
    else K (.bool true) σ := by kernel_rfl
set_option maxRecDepth 100000 in
theorem ref12_List_eq {R : Type} (w : C_ref12_List) (L : Nat) (l1 : Sl) (σ : Heap) (K : AVal → Heap → Option R) :
    callC T (O_ref12_List w) L 2 28 [.slice l1.b l1.o l1.n 5] σ K =
    ref12_List_L2 w L L l1 0 σ K := by kernel_rfl
/-! law17_CastAny -/
noncomputable def law17_CastAny_L9 {R : Type} (w : C_law17_CastAny) (L fu0 : Nat) (s1 : ByteArray) (w_1 : Int) (h_2 : Int) (l_3 : Sl) (x_4 : Sl) (x_5 : Int) (x_6 : Int) (σ : Heap) (K : AVal → Heap → Option R) : Option R :=
  loopAt T (O_law17_CastAny w) L 1 12 Tryd.f12 [1, 1, 1, 1, 1, 0, 1, 0] [] fu0
    ([.str s1, .undef, .undef, .int .i64 w_1, .int .i64 h_2, .slice l_3.b l_3.o l_3.n 5] ++ List.replicate 32 .undef ++ [.slice x_4.b x_4.o x_4.n 5, .int .i64 x_5, .int .i64 x_6] ++ List.replicate 28 .undef)
    (List.replicate 69 .none) σ K
set_option maxRecDepth 100000 in
theorem law17_CastAny_L9_eq {R : Type} (w : C_law17_CastAny) (L fu0 : Nat) (s1 : ByteArray) (w_1 : Int) (h_2 : Int) (l_3 : Sl) (x_4 : Sl) (x_5 : Int) (x_6 : Int) (σ : Heap) (K : AVal → Heap → Option R) :
    law17_CastAny_L9 w L (fu0 + 1) s1 w_1 h_2 l_3 x_4 x_5 x_6 σ K =
    bif (decide (x_6 < x_5)) then (
      bif ((decide (0 ≤ x_6)) && (decide (x_6 < (x_4.n : Int)))) then (
        (x_4.b).bind fun b4 =>
        (int? (Heap.cell? σ b4 (x_4.o + x_6.toNat * 5)) .i64).bind fun _ =>
        (int? (Heap.cell? σ b4 ((x_4.o + x_6.toNat * 5) + 1)) .i64).bind fun _ =>
        (str? (Heap.cell? σ b4 ((x_4.o + x_6.toNat * 5) + 2))).bind fun x7 =>
        (int? (Heap.cell? σ b4 ((x_4.o + x_6.toNat * 5) + 3)) .i64).bind fun _ =>
        (int? (Heap.cell? σ b4 ((x_4.o + x_6.toNat * 5) + 4)) .i64).bind fun _ =>
        (w.law17_whole x7 (Heap.frz σ)).bind fun q10 =>
        bif (!(q10.1.toList == x7.toList)) then (
          K (.bool false) (Heap.back σ q10.2))
        else
        law17_CastAny_L9 w L fu0 s1 w_1 h_2 l_3 x_4 x_5 (IntKind.i64.wrap (x_6 + 1)) (Heap.back σ q10.2) K)
      else none)
    else
    bif (decide (w_1 ≥ 0)) then (
      bif (decide (h_2 ≥ 0)) then (
        (w.ref12_List l_3 σ).bind fun q11 =>
        bif q11.1 then (
          (w.law17_write w_1 h_2 l_3 q11.2).bind fun q12 =>
          K (.bool (q12.1.toList == s1.toList)) q12.2)
        else K (.bool false) q11.2)
      else K (.bool false) σ)
    else K (.bool false) σ := by kernel_rfl
set_option maxRecDepth 100000 in
theorem law17_CastAny_eq {R : Type} (w : C_law17_CastAny) (L : Nat) (s1 : ByteArray) (σ : Heap) (K : AVal → Heap → Option R) :
    callC T (O_law17_CastAny w) L 2 12 [.str s1] σ K =
    (w.law17_fit σ).bind fun q2 =>
    bif (!q2.1) then (
      K (.bool false) q2.2)
    else
    bif (decide ((s1.size : Int) > 2000)) then (
      K (.bool true) q2.2)
    else
    (w.cast_Import s1 q2.2).bind fun q3 =>
    bif (q3.1.2.2.2 != 0) then (
      bif (q3.1.2.2.2 == 1) then (
        bif (q3.1.1 == 0) then (
          bif (q3.1.2.1 == 0) then (
            K (.bool ((q3.1.2.2.1.n : Int) == 0)) q3.2)
          else
          K (.bool false) q3.2)
        else K (.bool false) q3.2)
      else K (.bool false) q3.2)
    else law17_CastAny_L9 w L L s1 q3.1.1 q3.1.2.1 q3.1.2.2.1 q3.1.2.2.1 (q3.1.2.2.1.n : Int) 0 q3.2 K := by kernel_rfl
/-! law17_CastSpoils -/
set_option maxRecDepth 100000 in
theorem law17_CastSpoils_eq {R : Type} (w : C_law17_CastSpoils) (L : Nat) (l1 : Sl) (at2 : Int) (turn3 : Int) (σ : Heap) (K : AVal → Heap → Option R) :
    callC T (O_law17_CastSpoils w) L 2 13 [.slice l1.b l1.o l1.n 5, .int .i64 at2, .int .u8 turn3] σ K =
    (w.law17_fit σ).bind fun q4 =>
    bif (!q4.1) then (
      K (.bool false) q4.2)
    else
    bif (decide ((l1.n : Int) > 30)) then (
      K (.bool true) q4.2)
    else
    (w.ref12_Tame l1 q4.2).bind fun q5 =>
    (w.cast_Export 80 24 q5.1 q5.2).bind fun q6 =>
    bif (decide (q6.1.size ≤ 70368744177664)) then (
      alloc q6.2 (q6.1.data.toList.map fun b => AVal.int .u8 b.toNat) fun b7 σ8 =>
      if (q6.1.size : Int) = 0 then (
        none)
      else (
        bif ((decide (0 ≤ (Int.tmod (IntKind.i64.wrap (BitVec.ofInt IntKind.i64.bits at2 &&& BitVec.ofInt IntKind.i64.bits 16777215).toNat) (q6.1.size : Int)))) && (decide ((Int.tmod (IntKind.i64.wrap (BitVec.ofInt IntKind.i64.bits at2 &&& BitVec.ofInt IntKind.i64.bits 16777215).toNat) (q6.1.size : Int)) < (q6.1.size : Int)))) then (
          (int? (Heap.cell? σ8 b7 (0 + ((Int.tmod (IntKind.i64.wrap (BitVec.ofInt IntKind.i64.bits at2 &&& BitVec.ofInt IntKind.i64.bits 16777215).toNat) (q6.1.size : Int)).toNat) * 1)) .u8).bind fun x9 =>
          bif ((decide (0 ≤ (Int.tmod (IntKind.i64.wrap (BitVec.ofInt IntKind.i64.bits at2 &&& BitVec.ofInt IntKind.i64.bits 16777215).toNat) (q6.1.size : Int)))) && (decide ((Int.tmod (IntKind.i64.wrap (BitVec.ofInt IntKind.i64.bits at2 &&& BitVec.ofInt IntKind.i64.bits 16777215).toNat) (q6.1.size : Int)) < (q6.1.size : Int)))) then (
            (Heap.store σ8 b7 (0 + ((Int.tmod (IntKind.i64.wrap (BitVec.ofInt IntKind.i64.bits at2 &&& BitVec.ofInt IntKind.i64.bits 16777215).toNat) (q6.1.size : Int)).toNat) * 1) [.int .u8 (IntKind.u8.wrap (BitVec.ofInt IntKind.u8.bits x9 ^^^ BitVec.ofInt IntKind.u8.bits turn3).toNat)]).bind fun σ10 =>
            (Heap.read σ10 (some b7) 0 q6.1.size 1).bind fun cs11 =>
            (bytesOf cs11).bind fun bs12 =>
            (w.cast_Import (⟨bs12.toArray⟩ : ByteArray) σ10).bind fun q13 =>
            bif (q13.1.2.2.2 != 0) then (
              bif (q13.1.2.2.2 == 1) then (
                K (.bool ((q13.1.2.2.1.n : Int) == 0)) q13.2)
              else
              K (.bool false) q13.2)
            else
            (w.law17_write q13.1.1 q13.1.2.1 q13.1.2.2.1 (Heap.frz q13.2)).bind fun q14 =>
            (Heap.read (Heap.back q13.2 q14.2) (some b7) 0 q6.1.size 1).bind fun cs15 =>
            (bytesOf cs15).bind fun bs16 =>
            bif (q14.1.toList == (⟨bs16.toArray⟩ : ByteArray).toList) then (
              (w.ref12_List q13.1.2.2.1 (Heap.back q13.2 q14.2)).bind fun q17 =>
              K (.bool q17.1) q17.2)
            else K (.bool false) (Heap.back q13.2 q14.2))
          else none)
        else none))
    else none := by kernel_rfl
/-! errors_New -/
set_option maxRecDepth 100000 in
theorem errors_New_eq {R : Type} (L : Nat) (text1 : ByteArray) (σ : Heap) (K : AVal → Heap → Option R) :
    callC T known0 L 2 67 [.str text1] σ K =
    alloc σ [.str text1] fun _ _ =>
    none := by kernel_rfl
/-! strconv_baseError -/
set_option maxRecDepth 100000 in
theorem strconv_baseError_eq {R : Type} (w : C_strconv_baseError) (L : Nat) (fn1 : ByteArray) (str2 : ByteArray) (base3 : Int) (σ : Heap) (K : AVal → Heap → Option R) :
    callC T (O_strconv_baseError w) L 2 58 [.str fn1, .str str2, .int .i64 base3] σ K =
    (w.internal_stringslite_Clone str2 σ).bind fun q4 =>
    (w.strconv_Itoa base3 q4.2).bind fun q5 =>
    if (⟨#[105, 110, 118, 97, 108, 105, 100, 32, 98, 97, 115, 101, 32]⟩ : ByteArray).size + q5.1.size ≤ 9223372036854775807 then (
      (w.errors_New ((⟨#[105, 110, 118, 97, 108, 105, 100, 32, 98, 97, 115, 101, 32]⟩ : ByteArray) ++ q5.1) q5.2).bind fun q6 =>
      alloc q6.2 [.str fn1, .str q4.1, .errv q6.1.nil] fun b7 σ8 =>
      K (.ptr (some (b7, 0))) σ8)
    else (
      none) := by kernel_rfl
/-! strconv_bitSizeError -/
set_option maxRecDepth 100000 in
theorem strconv_bitSizeError_eq {R : Type} (w : C_strconv_bitSizeError) (L : Nat) (fn1 : ByteArray) (str2 : ByteArray) (bitSize3 : Int) (σ : Heap) (K : AVal → Heap → Option R) :
    callC T (O_strconv_bitSizeError w) L 2 59 [.str fn1, .str str2, .int .i64 bitSize3] σ K =
    (w.internal_stringslite_Clone str2 σ).bind fun q4 =>
    (w.strconv_Itoa bitSize3 q4.2).bind fun q5 =>
    if (⟨#[105, 110, 118, 97, 108, 105, 100, 32, 98, 105, 116, 32, 115, 105, 122, 101, 32]⟩ : ByteArray).size + q5.1.size ≤ 9223372036854775807 then (
      (w.errors_New ((⟨#[105, 110, 118, 97, 108, 105, 100, 32, 98, 105, 116, 32, 115, 105, 122, 101, 32]⟩ : ByteArray) ++ q5.1) q5.2).bind fun q6 =>
      alloc q6.2 [.str fn1, .str q4.1, .errv q6.1.nil] fun b7 σ8 =>
      K (.ptr (some (b7, 0))) σ8)
    else (
      none) := by kernel_rfl
end Go.Abs.TB
