/-
Lifted functions: what the machine does, one equation for each entry and each loop (printed by lift.py).
-/
import Derived.Test.YtnoplfndpemmpaaGreatDoorSigE
namespace Go.Abs.TE
open Go Go.Abs Go.Proofs
/-! json_Quote -/
noncomputable def json_Quote_L3 {R : Type} (w : C_json_Quote) (L fu0 : Nat) (out_1 : Sl) (s1 : ByteArray) (p_2 : Nat) (σ : Heap) (K : AVal → Heap → Option R) : Option R :=
  loopAt T (O_json_Quote w) L 1 41 Tryz.f41 [1, 1, 0, 1, 0] [] fu0
    ([.undef, .undef, .undef, .slice out_1.b out_1.o out_1.n 1] ++ List.replicate 4 .undef ++ [.lptr 8 0] ++ List.replicate 50 .undef)
    (List.replicate 8 .none ++ [.iter s1 p_2] ++ List.replicate 50 .none) σ K
set_option maxRecDepth 100000 in
theorem json_Quote_L3_eq {R : Type} (w : C_json_Quote) (L fu0 : Nat) (out_1 : Sl) (s1 : ByteArray) (p_2 : Nat) (σ : Heap) (K : AVal → Heap → Option R) :
    json_Quote_L3 w L (fu0 + 1) out_1 s1 p_2 σ K =
    bif (decide (p_2 < s1.size)) then (
      bif (((Utf8.decode s1 p_2).1 : Int) == 34) then (
        (Heap.append σ out_1.b out_1.o out_1.n 1 1 [.int .u8 92, .int .u8 (IntKind.u8.wrap ((Utf8.decode s1 p_2).1 : Int))] 2).bind fun q4 =>
        json_Quote_L3 w L fu0 ⟨q4.1.1, q4.1.2.1, q4.1.2.2⟩ s1 (p_2 + (Utf8.decode s1 p_2).2) q4.2 K)
      else
      bif (((Utf8.decode s1 p_2).1 : Int) == 92) then (
        (Heap.append σ out_1.b out_1.o out_1.n 1 1 [.int .u8 92, .int .u8 (IntKind.u8.wrap ((Utf8.decode s1 p_2).1 : Int))] 2).bind fun q5 =>
        json_Quote_L3 w L fu0 ⟨q5.1.1, q5.1.2.1, q5.1.2.2⟩ s1 (p_2 + (Utf8.decode s1 p_2).2) q5.2 K)
      else
      bif (((Utf8.decode s1 p_2).1 : Int) == 10) then (
        (Heap.append σ out_1.b out_1.o out_1.n 1 1 [.int .u8 92, .int .u8 110] 2).bind fun q6 =>
        json_Quote_L3 w L fu0 ⟨q6.1.1, q6.1.2.1, q6.1.2.2⟩ s1 (p_2 + (Utf8.decode s1 p_2).2) q6.2 K)
      else
      bif (((Utf8.decode s1 p_2).1 : Int) == 13) then (
        (Heap.append σ out_1.b out_1.o out_1.n 1 1 [.int .u8 92, .int .u8 114] 2).bind fun q7 =>
        json_Quote_L3 w L fu0 ⟨q7.1.1, q7.1.2.1, q7.1.2.2⟩ s1 (p_2 + (Utf8.decode s1 p_2).2) q7.2 K)
      else
      bif (decide (((Utf8.decode s1 p_2).1 : Int) < 32)) then (
        bif ((decide (0 ≤ (Int.fdiv ((Utf8.decode s1 p_2).1 : Int) (2 ^ 4)))) && (decide ((Int.fdiv ((Utf8.decode s1 p_2).1 : Int) (2 ^ 4)) < 16))) then (
          bif ((decide (0 ≤ (IntKind.i32.wrap (BitVec.ofInt IntKind.i32.bits ((Utf8.decode s1 p_2).1 : Int) &&& BitVec.ofInt IntKind.i32.bits 15).toNat))) && (decide ((IntKind.i32.wrap (BitVec.ofInt IntKind.i32.bits ((Utf8.decode s1 p_2).1 : Int) &&& BitVec.ofInt IntKind.i32.bits 15).toNat) < 16))) then (
            (Heap.append σ out_1.b out_1.o out_1.n 1 1 [.int .u8 92, .int .u8 117, .int .u8 48, .int .u8 48, .int .u8 (((⟨#[48, 49, 50, 51, 52, 53, 54, 55, 56, 57, 97, 98, 99, 100, 101, 102]⟩ : ByteArray).data.toList.getD ((Int.fdiv ((Utf8.decode s1 p_2).1 : Int) (2 ^ 4)).toNat) 0).toNat : Int), .int .u8 (((⟨#[48, 49, 50, 51, 52, 53, 54, 55, 56, 57, 97, 98, 99, 100, 101, 102]⟩ : ByteArray).data.toList.getD ((IntKind.i32.wrap (BitVec.ofInt IntKind.i32.bits ((Utf8.decode s1 p_2).1 : Int) &&& BitVec.ofInt IntKind.i32.bits 15).toNat).toNat) 0).toNat : Int)] 6).bind fun q8 =>
            json_Quote_L3 w L fu0 ⟨q8.1.1, q8.1.2.1, q8.1.2.2⟩ s1 (p_2 + (Utf8.decode s1 p_2).2) q8.2 K)
          else none)
        else none)
      else
      bif (((Utf8.decode s1 p_2).1 : Int) == 127) then (
        bif ((decide (0 ≤ (Int.fdiv ((Utf8.decode s1 p_2).1 : Int) (2 ^ 4)))) && (decide ((Int.fdiv ((Utf8.decode s1 p_2).1 : Int) (2 ^ 4)) < 16))) then (
          bif ((decide (0 ≤ (IntKind.i32.wrap (BitVec.ofInt IntKind.i32.bits ((Utf8.decode s1 p_2).1 : Int) &&& BitVec.ofInt IntKind.i32.bits 15).toNat))) && (decide ((IntKind.i32.wrap (BitVec.ofInt IntKind.i32.bits ((Utf8.decode s1 p_2).1 : Int) &&& BitVec.ofInt IntKind.i32.bits 15).toNat) < 16))) then (
            (Heap.append σ out_1.b out_1.o out_1.n 1 1 [.int .u8 92, .int .u8 117, .int .u8 48, .int .u8 48, .int .u8 (((⟨#[48, 49, 50, 51, 52, 53, 54, 55, 56, 57, 97, 98, 99, 100, 101, 102]⟩ : ByteArray).data.toList.getD ((Int.fdiv ((Utf8.decode s1 p_2).1 : Int) (2 ^ 4)).toNat) 0).toNat : Int), .int .u8 (((⟨#[48, 49, 50, 51, 52, 53, 54, 55, 56, 57, 97, 98, 99, 100, 101, 102]⟩ : ByteArray).data.toList.getD ((IntKind.i32.wrap (BitVec.ofInt IntKind.i32.bits ((Utf8.decode s1 p_2).1 : Int) &&& BitVec.ofInt IntKind.i32.bits 15).toNat).toNat) 0).toNat : Int)] 6).bind fun q9 =>
            json_Quote_L3 w L fu0 ⟨q9.1.1, q9.1.2.1, q9.1.2.2⟩ s1 (p_2 + (Utf8.decode s1 p_2).2) q9.2 K)
          else none)
        else none)
      else
      (w.unicode_utf8_AppendRune out_1 ((Utf8.decode s1 p_2).1 : Int) σ).bind fun q10 =>
      json_Quote_L3 w L fu0 q10.1 s1 (p_2 + (Utf8.decode s1 p_2).2) q10.2 K)
    else
    (Heap.append σ out_1.b out_1.o out_1.n 1 1 [.int .u8 34] 1).bind fun q11 =>
    (Heap.read q11.2 q11.1.1 q11.1.2.1 q11.1.2.2 1).bind fun cs12 =>
    (bytesOf cs12).bind fun bs13 =>
    K (.str (⟨bs13.toArray⟩ : ByteArray)) q11.2 := by kernel_rfl
set_option maxRecDepth 100000 in
theorem json_Quote_eq {R : Type} (w : C_json_Quote) (L : Nat) (s1 : ByteArray) (σ : Heap) (K : AVal → Heap → Option R) :
    callC T (O_json_Quote w) L 2 41 [.str s1] σ K =
    alloc σ [.int .u8 34] fun b2 σ3 =>
    json_Quote_L3 w L L ⟨(some b2), 0, 1⟩ s1 0 σ3 K := by kernel_rfl
/-! grid_Grid_there -/
set_option maxRecDepth 100000 in
theorem grid_Grid_there_eq {R : Type} (L : Nat) (g1 : Pt) (x2 : Int) (y3 : Int) (σ : Heap) (K : AVal → Heap → Option R) :
    callC T known0 L 2 62 [.ptr g1, .int .i64 x2, .int .i64 y3] σ K =
    bif (decide (x2 ≥ 0)) then (
      bif (decide (y3 ≥ 0)) then (
        (g1).bind fun q4 =>
        (int? (Heap.cell? σ q4.1 q4.2) .i64).bind fun x5 =>
        bif (decide (x2 < x5)) then (
          (g1).bind fun q6 =>
          (int? (Heap.cell? σ q6.1 (q6.2 + 1)) .i64).bind fun x7 =>
          K (.bool (decide (y3 < x7))) σ)
        else K (.bool false) σ)
      else K (.bool false) σ)
    else K (.bool false) σ := by kernel_rfl
/-! grid_Grid_Text -/
noncomputable def grid_Grid_Text_L6 {R : Type} (w : C_grid_Grid_Text) (L fu0 : Nat) (out_2 : Sl) (n_3 : Int) (x7 : Option Nat × Nat × Nat) (x_1 : Int) (σ : Heap) (K : AVal → Heap → Option R) : Option R :=
  loopAt T (O_grid_Grid_Text w) L 1 42 Tryz.f42 [1, 1, 1, 1, 0, 1, 0] [] fu0
    (List.replicate 5 .undef ++ [.slice out_2.b out_2.o out_2.n 1, .int .i64 n_3] ++ List.replicate 12 .undef ++ [.slice x7.1 x7.2.1 x7.2.2 6, .int .i64 (x7.2.2 : Int), .int .i64 x_1] ++ List.replicate 21 .undef)
    (List.replicate 43 .none) σ K
set_option maxRecDepth 100000 in
theorem grid_Grid_Text_L6_eq {R : Type} (w : C_grid_Grid_Text) (L fu0 : Nat) (out_2 : Sl) (n_3 : Int) (x7 : Option Nat × Nat × Nat) (x_1 : Int) (σ : Heap) (K : AVal → Heap → Option R) :
    grid_Grid_Text_L6 w L (fu0 + 1) out_2 n_3 x7 x_1 σ K =
    bif (decide (x_1 < (x7.2.2 : Int))) then (
      bif ((decide (0 ≤ x_1)) && (decide (x_1 < (x7.2.2 : Int)))) then (
        (x7.1).bind fun b8 =>
        (int? (Heap.cell? σ b8 (x7.2.1 + x_1.toNat * 6)) .i32).bind fun x9 =>
        (bool? (Heap.cell? σ b8 ((x7.2.1 + x_1.toNat * 6) + 1))).bind fun _ =>
        (bool? (Heap.cell? σ b8 ((x7.2.1 + x_1.toNat * 6) + 2))).bind fun _ =>
        (bool? (Heap.cell? σ b8 ((x7.2.1 + x_1.toNat * 6) + 3))).bind fun _ =>
        (int? (Heap.cell? σ b8 ((x7.2.1 + x_1.toNat * 6) + 4)) .i64).bind fun _ =>
        (int? (Heap.cell? σ b8 ((x7.2.1 + x_1.toNat * 6) + 5)) .i64).bind fun _ =>
        bif (x9 == 0) then (
          grid_Grid_Text_L6 w L fu0 out_2 n_3 x7 (IntKind.i64.wrap (x_1 + 1)) σ K)
        else
        (Heap.append σ out_2.b out_2.o out_2.n 1 4 [.int .i32 x9] 1).bind fun q15 =>
        bif (x9 != 32) then (
          grid_Grid_Text_L6 w L fu0 ⟨q15.1.1, q15.1.2.1, q15.1.2.2⟩ (q15.1.2.2 : Int) x7 (IntKind.i64.wrap (x_1 + 1)) q15.2 K)
        else
        grid_Grid_Text_L6 w L fu0 ⟨q15.1.1, q15.1.2.1, q15.1.2.2⟩ n_3 x7 (IntKind.i64.wrap (x_1 + 1)) q15.2 K)
      else none)
    else
    bif ((decide (0 ≤ n_3)) && (decide (n_3 ≤ (out_2.n : Int)))) then (
      (Heap.read σ out_2.b out_2.o n_3.toNat 1).bind fun cs16 =>
      (runesIn cs16).bind fun rs17 =>
      K (.str (encodeAll rs17)) σ)
    else none := by kernel_rfl
set_option maxRecDepth 100000 in
theorem grid_Grid_Text_eq {R : Type} (w : C_grid_Grid_Text) (L : Nat) (g1 : Pt) (y2 : Int) (σ : Heap) (K : AVal → Heap → Option R) :
    callC T (O_grid_Grid_Text w) L 2 42 [.ptr g1, .int .i64 y2] σ K =
    (w.grid_Grid_there g1 0 y2 σ).bind fun q3 =>
    bif (!q3.1) then (
      K (.str (⟨#[]⟩ : ByteArray)) q3.2)
    else
    (g1).bind fun q4 =>
    (slice? (Heap.cell? q3.2 q4.1 (q4.2 + 2)) 1).bind fun x5 =>
    bif ((decide (0 ≤ y2)) && (decide (y2 < (x5.2.2 : Int)))) then (
      (x5.1).bind fun b6 =>
      (slice? (Heap.cell? q3.2 b6 (x5.2.1 + y2.toNat * 1)) 6).bind fun x7 =>
      grid_Grid_Text_L6 w L L ⟨none, 0, 0⟩ 0 x7 0 q3.2 K)
    else none := by kernel_rfl
/-! tell_ints -/
noncomputable def tell_ints_L3 {R : Type} (w : C_tell_ints) (L fu0 : Nat) (s_1 : ByteArray) (l1 : Sl) (x_2 : Int) (σ : Heap) (K : AVal → Heap → Option R) : Option R :=
  loopAt T (O_tell_ints w) L 1 73 Tryz.f73 [1, 1, 0, 1, 0] [] fu0
    ([.undef, .undef, .undef, .str s_1, .undef, .undef, .slice l1.b l1.o l1.n 1, .int .i64 (l1.n : Int), .int .i64 x_2] ++ List.replicate 10 .undef)
    (List.replicate 19 .none) σ K
set_option maxRecDepth 100000 in
theorem tell_ints_L3_eq {R : Type} (w : C_tell_ints) (L fu0 : Nat) (s_1 : ByteArray) (l1 : Sl) (x_2 : Int) (σ : Heap) (K : AVal → Heap → Option R) :
    tell_ints_L3 w L (fu0 + 1) s_1 l1 x_2 σ K =
    bif (decide (x_2 < (l1.n : Int))) then (
      bif ((decide (0 ≤ x_2)) && (decide (x_2 < (l1.n : Int)))) then (
        (l1.b).bind fun b2 =>
        (int? (Heap.cell? σ b2 (l1.o + x_2.toNat * 1)) .i64).bind fun x3 =>
        (w.strconv_Itoa x3 σ).bind fun q4 =>
        if (⟨#[32]⟩ : ByteArray).size + q4.1.size ≤ 9223372036854775807 then (
          if s_1.size + ((⟨#[32]⟩ : ByteArray) ++ q4.1).size ≤ 9223372036854775807 then (
            tell_ints_L3 w L fu0 (s_1 ++ ((⟨#[32]⟩ : ByteArray) ++ q4.1)) l1 (IntKind.i64.wrap (x_2 + 1)) q4.2 K)
          else (
            none))
        else (
          none))
      else none)
    else K (.str s_1) σ := by kernel_rfl
set_option maxRecDepth 100000 in
theorem tell_ints_eq {R : Type} (w : C_tell_ints) (L : Nat) (l1 : Sl) (σ : Heap) (K : AVal → Heap → Option R) :
    callC T (O_tell_ints w) L 2 73 [.slice l1.b l1.o l1.n 1] σ K =
    tell_ints_L3 w L L (⟨#[]⟩ : ByteArray) l1 0 σ K := by kernel_rfl
/-! tell_rec_Lines -/
noncomputable def tell_rec_Lines_L3 {R : Type} (w : C_tell_rec_Lines) (L fu0 : Nat) (out_1 : Sl) (x3 : Option Nat × Nat × Nat) (x_2 : Int) (σ : Heap) (K : AVal → Heap → Option R) : Option R :=
  loopAt T (O_tell_rec_Lines w) L 1 389 Tryz.f389 [1, 1, 0, 1, 0] [] fu0
    ([.undef, .undef, .undef, .slice out_1.b out_1.o out_1.n 1] ++ List.replicate 7 .undef ++ [.slice x3.1 x3.2.1 x3.2.2 5, .int .i64 (x3.2.2 : Int), .int .i64 x_2] ++ List.replicate 33 .undef)
    (List.replicate 47 .none) σ K
set_option maxRecDepth 100000 in
theorem tell_rec_Lines_L3_eq {R : Type} (w : C_tell_rec_Lines) (L fu0 : Nat) (out_1 : Sl) (x3 : Option Nat × Nat × Nat) (x_2 : Int) (σ : Heap) (K : AVal → Heap → Option R) :
    tell_rec_Lines_L3 w L (fu0 + 1) out_1 x3 x_2 σ K =
    bif (decide (x_2 < (x3.2.2 : Int))) then (
      bif ((decide (0 ≤ x_2)) && (decide (x_2 < (x3.2.2 : Int)))) then (
        (x3.1).bind fun b4 =>
        (int? (Heap.cell? σ b4 (x3.2.1 + x_2.toNat * 5)) .i64).bind fun x5 =>
        (int? (Heap.cell? σ b4 ((x3.2.1 + x_2.toNat * 5) + 1)) .i64).bind fun x6 =>
        (str? (Heap.cell? σ b4 ((x3.2.1 + x_2.toNat * 5) + 2))).bind fun x7 =>
        (int? (Heap.cell? σ b4 ((x3.2.1 + x_2.toNat * 5) + 3)) .i64).bind fun x8 =>
        (int? (Heap.cell? σ b4 ((x3.2.1 + x_2.toNat * 5) + 4)) .i64).bind fun x9 =>
        alloc σ [.int .i64 x5, .int .i64 x6] fun b10 σ11 =>
        (w.tell_ints ⟨(some b10), 0, 2⟩ σ11).bind fun q12 =>
        if (⟨#[101, 118, 101, 110, 116]⟩ : ByteArray).size + q12.1.size ≤ 9223372036854775807 then (
          bif (x6 == 2) then (
            alloc q12.2 [.int .i64 x8, .int .i64 x9] fun b13 σ14 =>
            (w.tell_ints ⟨(some b13), 0, 2⟩ σ14).bind fun q15 =>
            if ((⟨#[101, 118, 101, 110, 116]⟩ : ByteArray) ++ q12.1).size + q15.1.size ≤ 9223372036854775807 then (
              (Heap.append q15.2 out_1.b out_1.o out_1.n 1 16 [.str (((⟨#[101, 118, 101, 110, 116]⟩ : ByteArray) ++ q12.1) ++ q15.1)] 1).bind fun q16 =>
              tell_rec_Lines_L3 w L fu0 ⟨q16.1.1, q16.1.2.1, q16.1.2.2⟩ x3 (IntKind.i64.wrap (x_2 + 1)) q16.2 K)
            else (
              none))
          else
          (w.json_Quote x7 q12.2).bind fun q17 =>
          if (⟨#[32]⟩ : ByteArray).size + q17.1.size ≤ 9223372036854775807 then (
            if ((⟨#[101, 118, 101, 110, 116]⟩ : ByteArray) ++ q12.1).size + ((⟨#[32]⟩ : ByteArray) ++ q17.1).size ≤ 9223372036854775807 then (
              (Heap.append q17.2 out_1.b out_1.o out_1.n 1 16 [.str (((⟨#[101, 118, 101, 110, 116]⟩ : ByteArray) ++ q12.1) ++ ((⟨#[32]⟩ : ByteArray) ++ q17.1))] 1).bind fun q18 =>
              tell_rec_Lines_L3 w L fu0 ⟨q18.1.1, q18.1.2.1, q18.1.2.2⟩ x3 (IntKind.i64.wrap (x_2 + 1)) q18.2 K)
            else (
              none))
          else (
            none))
        else (
          none))
      else none)
    else K (.slice out_1.b out_1.o out_1.n 1) σ := by kernel_rfl
set_option maxRecDepth 100000 in
theorem tell_rec_Lines_eq {R : Type} (w : C_tell_rec_Lines) (L : Nat) (r1 : tell_rec) (σ : Heap) (K : AVal → Heap → Option R) :
    callC T (O_tell_rec_Lines w) L 2 389 [.agg [.ptr r1.Rec]] σ K =
    (r1.Rec).bind fun q2 =>
    (slice? (Heap.cell? σ q2.1 (q2.2 + 1)) 5).bind fun x3 =>
    tell_rec_Lines_L3 w L L ⟨none, 0, 0⟩ x3 0 σ K := by kernel_rfl
/-! tell_lines -/
noncomputable def tell_lines_L3 {R : Type} (w : C_tell_lines) (L fu0 : Nat) (b2 : Nat) (l1 : Sl) (x_2 : Int) (σ : Heap) (K : AVal → Heap → Option R) : Option R :=
  loopAt T (O_tell_lines w) L 1 39 Tryz.f39 [1, 1, 0, 1, 0] [] fu0
    ([.undef, .undef, .undef, .ptr (some (b2, 0))] ++ List.replicate 4 .undef ++ [.slice l1.b l1.o l1.n 1, .int .i64 (l1.n : Int), .int .i64 x_2] ++ List.replicate 16 .undef)
    (List.replicate 27 .none) σ K
noncomputable def tell_lines_L6 {R : Type} (w : C_tell_lines) (L fu0 fu1 : Nat) (b2 : Nat) (l1 : Sl) (x_2 : Int) (x8 : Option Nat × Nat × Nat) (x_1 : Int) (σ : Heap) (K : AVal → Heap → Option R) : Option R :=
  loopAt T (O_tell_lines w) L 1 39 Tryz.f39 [1, 1, 0, 1, 0, 0, 1, 1, 0, 0, 1, 1, 0] [fu0] fu1
    ([.undef, .undef, .undef, .ptr (some (b2, 0))] ++ List.replicate 4 .undef ++ [.slice l1.b l1.o l1.n 1, .int .i64 (l1.n : Int), .int .i64 x_2] ++ List.replicate 4 .undef ++ [.slice x8.1 x8.2.1 x8.2.2 1, .int .i64 (x8.2.2 : Int), .int .i64 x_1] ++ List.replicate 9 .undef)
    (List.replicate 27 .none) σ K
set_option maxRecDepth 100000 in
theorem tell_lines_L3_eq {R : Type} (w : C_tell_lines) (L fu0 : Nat) (b2 : Nat) (l1 : Sl) (x_2 : Int) (σ : Heap) (K : AVal → Heap → Option R) :
    tell_lines_L3 w L (fu0 + 1) b2 l1 x_2 σ K =
    bif (decide (x_2 < (l1.n : Int))) then (
      bif ((decide (0 ≤ x_2)) && (decide (x_2 < (l1.n : Int)))) then (
        (l1.b).bind fun b4 =>
        (iface? (Heap.cell? σ b4 (l1.o + x_2.toNat * 1))).bind fun x5 =>
        invC T (callC T (O_tell_lines w) L 1) "Lines" (fixV T 139 (fixV T 139 x5)) [] σ fun v6 σ7 =>
        (slice? (some v6) 1).bind fun x8 =>
        tell_lines_L6 w L fu0 L b2 l1 x_2 x8 0 σ7 K)
      else none)
    else
    (w.strings_Builder_String (some (b2, 0)) σ).bind fun q9 =>
    K (.str q9.1) q9.2 := by kernel_rfl
set_option maxRecDepth 100000 in
theorem tell_lines_L6_eq {R : Type} (w : C_tell_lines) (L fu0 fu1 : Nat) (b2 : Nat) (l1 : Sl) (x_2 : Int) (x8 : Option Nat × Nat × Nat) (x_1 : Int) (σ : Heap) (K : AVal → Heap → Option R) :
    tell_lines_L6 w L fu0 (fu1 + 1) b2 l1 x_2 x8 x_1 σ K =
    bif (decide (x_1 < (x8.2.2 : Int))) then (
      bif ((decide (0 ≤ x_1)) && (decide (x_1 < (x8.2.2 : Int)))) then (
        (x8.1).bind fun b10 =>
        (str? (Heap.cell? σ b10 (x8.2.1 + x_1.toNat * 1))).bind fun x11 =>
        if x11.size + (⟨#[10]⟩ : ByteArray).size ≤ 9223372036854775807 then (
          (w.strings_Builder_WriteString (some (b2, 0)) (x11 ++ (⟨#[10]⟩ : ByteArray)) σ).bind fun q12 =>
          tell_lines_L6 w L fu0 fu1 b2 l1 x_2 x8 (IntKind.i64.wrap (x_1 + 1)) q12.2 K)
        else (
          none))
      else none)
    else tell_lines_L3 w L fu0 b2 l1 (IntKind.i64.wrap (x_2 + 1)) σ K := by kernel_rfl
set_option maxRecDepth 100000 in
theorem tell_lines_eq {R : Type} (w : C_tell_lines) (L : Nat) (l1 : Sl) (σ : Heap) (K : AVal → Heap → Option R) :
    callC T (O_tell_lines w) L 2 39 [.slice l1.b l1.o l1.n 1] σ K =
    allocT σ 137 [.ptr none, .slice none 0 0 1] fun b2 σ3 =>
    tell_lines_L3 w L L b2 l1 0 σ3 K := by kernel_rfl
/-! tell_Rec -/
set_option maxRecDepth 100000 in
theorem tell_Rec_eq {R : Type} (w : C_tell_Rec) (L : Nat) (r1 : Pt) (σ : Heap) (K : AVal → Heap → Option R) :
    callC T (O_tell_Rec w) L 2 22 [.ptr r1] σ K =
    alloc σ [.iface 98 (.agg [.ptr r1])] fun b2 σ3 =>
    (w.tell_lines ⟨(some b2), 0, 1⟩ σ3).bind fun q4 =>
    K (.str q4.1) q4.2 := by kernel_rfl
/-! law13_Plan_Few -/
set_option maxRecDepth 100000 in
theorem law13_Plan_Few_eq {R : Type} (L : Nat) (p1 : law13_Plan) (σ : Heap) (K : AVal → Heap → Option R) :
    callC T known0 L 2 20 [.agg [.int .i64 p1.Size.i0, .int .i64 p1.Size.i1, .slice p1.Events.b p1.Events.o p1.Events.n 5, .slice p1.Marks.b p1.Marks.o p1.Marks.n 1]] σ K =
    bif (decide ((p1.Events.n : Int) ≤ 40)) then (
      K (.bool (decide ((p1.Marks.n : Int) ≤ 60))) σ)
    else
    K (.bool false) σ := by kernel_rfl
end Go.Abs.TE
