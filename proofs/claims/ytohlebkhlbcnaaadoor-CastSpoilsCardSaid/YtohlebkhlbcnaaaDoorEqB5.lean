/-
Lifted functions: what the machine does, one equation for each entry and each loop (printed by lift.py).
-/
import Derived.Test.YtohlebkhlbcnaaaDoorSigB
namespace Go.Abs.TB
open Go Go.Abs Go.Proofs
/-! internal_strconv_ParseInt -/
set_option maxRecDepth 100000 in
theorem internal_strconv_ParseInt_eq {R : Type} (w : C_internal_strconv_ParseInt) (L : Nat) (s1 : ByteArray) (base2 : Int) (bitSize3 : Int) (σ : Heap) (K : AVal → Heap → Option R) :
    callC T (O_internal_strconv_ParseInt w) L 2 55 [.str s1, .int .i64 base2, .int .i64 bitSize3] σ K =
    bif (s1.toList == (⟨#[]⟩ : ByteArray).toList) then (
      none)
    else
    bif (decide (0 < (s1.size : Int))) then (
      bif (((s1.data.toList.getD 0 0).toNat : Int) == 43) then (
        bif ((decide (1 ≤ (s1.size : Int))) && (decide ((s1.size : Int) ≤ (s1.size : Int)))) then (
          (w.internal_strconv_ParseUint (s1.extract 1 s1.size) base2 bitSize3 σ).bind fun q4 =>
          bif (!q4.1.2.nil) then (
            none)
          else
          bif (bitSize3 == 0) then (
            bif (decide (q4.1.1 ≥ 9223372036854775808)) then (
              none)
            else
            K (.tuple [.int .i64 (IntKind.i64.wrap q4.1.1), .niliface]) q4.2)
          else
          if (IntKind.u64.wrap (IntKind.i64.wrap (bitSize3 - 1))) < 0 then (
            none)
          else (
            bif (decide (q4.1.1 ≥ (IntKind.u64.wrap (1 * 2 ^ (min (IntKind.u64.wrap (IntKind.i64.wrap (bitSize3 - 1))).toNat IntKind.u64.bits))))) then (
              none)
            else
            K (.tuple [.int .i64 (IntKind.i64.wrap q4.1.1), .niliface]) q4.2))
        else none)
      else
      bif (((s1.data.toList.getD 0 0).toNat : Int) == 45) then (
        bif ((decide (1 ≤ (s1.size : Int))) && (decide ((s1.size : Int) ≤ (s1.size : Int)))) then (
          (w.internal_strconv_ParseUint (s1.extract 1 s1.size) base2 bitSize3 σ).bind fun q5 =>
          bif (!q5.1.2.nil) then (
            none)
          else
          bif (bitSize3 == 0) then (
            bif (decide (q5.1.1 > 9223372036854775808)) then (
              none)
            else
            K (.tuple [.int .i64 (IntKind.i64.wrap (0 - (IntKind.i64.wrap q5.1.1))), .niliface]) q5.2)
          else
          if (IntKind.u64.wrap (IntKind.i64.wrap (bitSize3 - 1))) < 0 then (
            none)
          else (
            bif (decide (q5.1.1 > (IntKind.u64.wrap (1 * 2 ^ (min (IntKind.u64.wrap (IntKind.i64.wrap (bitSize3 - 1))).toNat IntKind.u64.bits))))) then (
              none)
            else
            K (.tuple [.int .i64 (IntKind.i64.wrap (0 - (IntKind.i64.wrap q5.1.1))), .niliface]) q5.2))
        else none)
      else
      (w.internal_strconv_ParseUint s1 base2 bitSize3 σ).bind fun q6 =>
      bif (!q6.1.2.nil) then (
        none)
      else
      bif (bitSize3 == 0) then (
        bif (decide (q6.1.1 ≥ 9223372036854775808)) then (
          none)
        else
        K (.tuple [.int .i64 (IntKind.i64.wrap q6.1.1), .niliface]) q6.2)
      else
      if (IntKind.u64.wrap (IntKind.i64.wrap (bitSize3 - 1))) < 0 then (
        none)
      else (
        bif (decide (q6.1.1 ≥ (IntKind.u64.wrap (1 * 2 ^ (min (IntKind.u64.wrap (IntKind.i64.wrap (bitSize3 - 1))).toNat IntKind.u64.bits))))) then (
          none)
        else
        K (.tuple [.int .i64 (IntKind.i64.wrap q6.1.1), .niliface]) q6.2))
    else none := by kernel_rfl
/-! internal_strconv_Atoi -/
noncomputable def internal_strconv_Atoi_L10 {R : Type} (w : C_internal_strconv_Atoi) (L fu0 : Nat) (s1 : ByteArray) (n_3 : Int) (x_1 : Sl) (x_2 : Int) (x_4 : Int) (σ : Heap) (K : AVal → Heap → Option R) : Option R :=
  loopAt T (O_internal_strconv_Atoi w) L 1 46 Tryd.f46 [1, 1, 0, 1, 0, 1, 1, 1, 0, 1, 0] [] fu0
    (List.replicate 5 .undef ++ [.str s1, .int .i64 n_3] ++ List.replicate 40 .undef ++ [.slice x_1.b x_1.o x_1.n 1, .int .i64 x_2, .int .i64 x_4] ++ List.replicate 27 .undef)
    (List.replicate 77 .none) σ K
set_option maxRecDepth 100000 in
theorem internal_strconv_Atoi_L10_eq {R : Type} (w : C_internal_strconv_Atoi) (L fu0 : Nat) (s1 : ByteArray) (n_3 : Int) (x_1 : Sl) (x_2 : Int) (x_4 : Int) (σ : Heap) (K : AVal → Heap → Option R) :
    internal_strconv_Atoi_L10 w L (fu0 + 1) s1 n_3 x_1 x_2 x_4 σ K =
    bif (decide (x_4 < x_2)) then (
      bif ((decide (0 ≤ x_4)) && (decide (x_4 < (x_1.n : Int)))) then (
        (x_1.b).bind fun b10 =>
        (int? (Heap.cell? σ b10 (x_1.o + x_4.toNat * 1)) .u8).bind fun x11 =>
        bif (decide ((IntKind.u8.wrap (x11 - 48)) > 9)) then (
          none)
        else
        internal_strconv_Atoi_L10 w L fu0 s1 (IntKind.i64.wrap ((IntKind.i64.wrap (n_3 * 10)) + (IntKind.i64.wrap (IntKind.u8.wrap (x11 - 48))))) x_1 x_2 (IntKind.i64.wrap (x_4 + 1)) σ K)
      else none)
    else
    bif (decide (0 < (s1.size : Int))) then (
      bif (((s1.data.toList.getD 0 0).toNat : Int) == 45) then (
        K (.tuple [.int .i64 (IntKind.i64.wrap (0 - n_3)), .niliface]) σ)
      else
      K (.tuple [.int .i64 n_3, .niliface]) σ)
    else none := by kernel_rfl
set_option maxRecDepth 100000 in
theorem internal_strconv_Atoi_eq {R : Type} (w : C_internal_strconv_Atoi) (L : Nat) (s1 : ByteArray) (σ : Heap) (K : AVal → Heap → Option R) :
    callC T (O_internal_strconv_Atoi w) L 2 46 [.str s1] σ K =
    bif (decide (0 < (s1.size : Int))) then (
      bif (decide ((s1.size : Int) < 19)) then (
        bif (decide (0 < (s1.size : Int))) then (
          bif (((s1.data.toList.getD 0 0).toNat : Int) == 45) then (
            bif ((decide (1 ≤ (s1.size : Int))) && (decide ((s1.size : Int) ≤ (s1.size : Int)))) then (
              bif (decide (((s1.extract 1 s1.size).size : Int) < 1)) then (
                none)
              else
              bif (decide ((s1.extract 1 s1.size).size ≤ 70368744177664)) then (
                alloc σ ((s1.extract 1 s1.size).data.toList.map fun b => AVal.int .u8 b.toNat) fun b2 σ3 =>
                internal_strconv_Atoi_L10 w L L s1 0 ⟨(some b2), 0, (s1.extract 1 s1.size).size⟩ (((s1.extract 1 s1.size).size : Nat) : Int) 0 σ3 K)
              else none)
            else none)
          else
          bif (decide (0 < (s1.size : Int))) then (
            bif (((s1.data.toList.getD 0 0).toNat : Int) == 43) then (
              bif ((decide (1 ≤ (s1.size : Int))) && (decide ((s1.size : Int) ≤ (s1.size : Int)))) then (
                bif (decide (((s1.extract 1 s1.size).size : Int) < 1)) then (
                  none)
                else
                bif (decide ((s1.extract 1 s1.size).size ≤ 70368744177664)) then (
                  alloc σ ((s1.extract 1 s1.size).data.toList.map fun b => AVal.int .u8 b.toNat) fun b4 σ5 =>
                  internal_strconv_Atoi_L10 w L L s1 0 ⟨(some b4), 0, (s1.extract 1 s1.size).size⟩ (((s1.extract 1 s1.size).size : Nat) : Int) 0 σ5 K)
                else none)
              else none)
            else
            bif (decide (s1.size ≤ 70368744177664)) then (
              alloc σ (s1.data.toList.map fun b => AVal.int .u8 b.toNat) fun b6 σ7 =>
              internal_strconv_Atoi_L10 w L L s1 0 ⟨(some b6), 0, s1.size⟩ (s1.size : Int) 0 σ7 K)
            else none)
          else none)
        else none)
      else
      (w.internal_strconv_ParseInt s1 10 0 σ).bind fun q8 =>
      K (.tuple [.int .i64 q8.1.1, .errv q8.1.2.nil]) q8.2)
    else
    (w.internal_strconv_ParseInt s1 10 0 σ).bind fun q9 =>
    K (.tuple [.int .i64 q9.1.1, .errv q9.1.2.nil]) q9.2 := by kernel_rfl
/-! strconv_toError -/
set_option maxRecDepth 100000 in
theorem strconv_toError_eq {R : Type} (L : Nat) (fn1 : ByteArray) (s2 : ByteArray) (base3 : Int) (bitSize4 : Int) (err5 : Er) (σ : Heap) (K : AVal → Heap → Option R) :
    callC T known0 L 2 47 [.str fn1, .str s2, .int .i64 base3, .int .i64 bitSize4, .errv err5.nil] σ K =
    none := by kernel_rfl
/-! strconv_Atoi -/
set_option maxRecDepth 100000 in
theorem strconv_Atoi_eq {R : Type} (w : C_strconv_Atoi) (L : Nat) (s1 : ByteArray) (σ : Heap) (K : AVal → Heap → Option R) :
    callC T (O_strconv_Atoi w) L 2 35 [.str s1] σ K =
    (w.internal_strconv_Atoi s1 σ).bind fun q2 =>
    bif (!q2.1.2.nil) then (
      (w.strconv_toError (⟨#[65, 116, 111, 105]⟩ : ByteArray) s1 0 0 q2.1.2 q2.2).bind fun q3 =>
      K (.tuple [.int .i64 q2.1.1, .errv q3.1.nil]) q3.2)
    else K (.tuple [.int .i64 q2.1.1, .niliface]) q2.2 := by kernel_rfl
/-! json_Number -/
noncomputable def json_Number_L2 {R : Type} (w : C_json_Number) (L fu0 : Nat) (s1 : ByteArray) (k_1 : Int) (σ : Heap) (K : AVal → Heap → Option R) : Option R :=
  loopAt T (O_json_Number w) L 1 22 Tryd.f22 [1, 1, 0, 0] [] fu0
    ([.str s1] ++ List.replicate 4 .undef ++ [.int .i64 k_1] ++ List.replicate 42 .undef)
    (List.replicate 48 .none) σ K
noncomputable def json_Number_J4 {R : Type} (w : C_json_Number) (L : Nat) (s1 : ByteArray) (k_1 : Int) (σ : Heap) (K : AVal → Heap → Option R) : Option R :=
  codeAt T (O_json_Number w) L 1 22 Tryd.f22 [1, 1, 1] []
    ([.str s1] ++ List.replicate 4 .undef ++ [.int .i64 k_1] ++ List.replicate 42 .undef)
    (List.replicate 48 .none) σ K
set_option maxRecDepth 100000 in
theorem json_Number_L2_eq0 {R : Type} (w : C_json_Number) (L fu0 : Nat) (s1 : ByteArray) (k_1 : Int) (σ : Heap) (K : AVal → Heap → Option R) :
    json_Number_L2 w L (fu0 + 1) s1 k_1 σ K =
    bif (decide (k_1 < (s1.size : Int))) then (
      bif ((decide (0 ≤ k_1)) && (decide (k_1 < (s1.size : Int)))) then (
        bif (decide (((s1.data.toList.getD k_1.toNat 0).toNat : Int) ≥ 48)) then (
          bif ((decide (0 ≤ k_1)) && (decide (k_1 < (s1.size : Int)))) then (
            bif (decide (((s1.data.toList.getD k_1.toNat 0).toNat : Int) ≤ 57)) then (
              json_Number_L2 w L fu0 s1 (IntKind.i64.wrap (k_1 + 1)) σ K)
            else
            joinC (T.join 22 4) σ (json_Number_J4 w L s1 k_1 σ K))
          else none)
        else joinC (T.join 22 4) σ (json_Number_J4 w L s1 k_1 σ K))
      else none)
    else joinC (T.join 22 4) σ (json_Number_J4 w L s1 k_1 σ K) := by kernel_rfl
theorem json_Number_L2_eq {R : Type} (w : C_json_Number) (L fu0 : Nat) (s1 : ByteArray) (k_1 : Int) (σ : Heap) (K : AVal → Heap → Option R) :
    json_Number_L2 w L (fu0 + 1) s1 k_1 σ K =
    bif (decide (k_1 < (s1.size : Int))) then (
      bif ((decide (0 ≤ k_1)) && (decide (k_1 < (s1.size : Int)))) then (
        bif (decide (((s1.data.toList.getD k_1.toNat 0).toNat : Int) ≥ 48)) then (
          bif ((decide (0 ≤ k_1)) && (decide (k_1 < (s1.size : Int)))) then (
            bif (decide (((s1.data.toList.getD k_1.toNat 0).toNat : Int) ≤ 57)) then (
              json_Number_L2 w L fu0 s1 (IntKind.i64.wrap (k_1 + 1)) σ K)
            else
            json_Number_J4 w L s1 k_1 σ K)
          else none)
        else json_Number_J4 w L s1 k_1 σ K)
      else none)
    else json_Number_J4 w L s1 k_1 σ K := by 
  rw [json_Number_L2_eq0]; simp only [joinC_eq]
set_option maxRecDepth 100000 in
theorem json_Number_J4_eq {R : Type} (w : C_json_Number) (L : Nat) (s1 : ByteArray) (k_1 : Int) (σ : Heap) (K : AVal → Heap → Option R) :
    json_Number_J4 w L s1 k_1 σ K =
    bif ((decide (0 ≤ k_1)) && (decide (k_1 ≤ (s1.size : Int)))) then (
      (w.strconv_Atoi (s1.extract 0 k_1.toNat) σ).bind fun q2 =>
      bif (!q2.1.2.nil) then (
        K (.tuple [.int .i64 0, .str (⟨#[]⟩ : ByteArray), .bool false]) q2.2)
      else
      bif (decide (k_1 > 1)) then (
        bif (decide (0 < (s1.size : Int))) then (
          bif (((s1.data.toList.getD 0 0).toNat : Int) == 48) then (
            K (.tuple [.int .i64 0, .str (⟨#[]⟩ : ByteArray), .bool false]) q2.2)
          else
          bif (((decide (0 ≤ k_1)) && (decide (k_1 ≤ (s1.size : Int)))) && (decide ((s1.size : Int) ≤ (s1.size : Int)))) then (
            K (.tuple [.int .i64 q2.1.1, .str (s1.extract k_1.toNat s1.size), .bool true]) q2.2)
          else
          none)
        else none)
      else
      bif (((decide (0 ≤ k_1)) && (decide (k_1 ≤ (s1.size : Int)))) && (decide ((s1.size : Int) ≤ (s1.size : Int)))) then (
        K (.tuple [.int .i64 q2.1.1, .str (s1.extract k_1.toNat s1.size), .bool true]) q2.2)
      else
      none)
    else none := by kernel_rfl
set_option maxRecDepth 100000 in
theorem json_Number_eq {R : Type} (w : C_json_Number) (L : Nat) (s1 : ByteArray) (σ : Heap) (K : AVal → Heap → Option R) :
    callC T (O_json_Number w) L 2 22 [.str s1] σ K =
    json_Number_L2 w L L s1 0 σ K := by kernel_rfl
/-! law03_JsonNumbers -/
noncomputable def law03_JsonNumbers_L6 {R : Type} (w : C_law03_JsonNumbers) (L fu0 : Nat) (s1 : ByteArray) (k_1 : Int) (σ : Heap) (K : AVal → Heap → Option R) : Option R :=
  loopAt T (O_law03_JsonNumbers w) L 1 8 Tryd.f8 [1, 1, 1, 1, 0, 0] [] fu0
    ([.str s1, .undef, .undef, .int .i64 k_1] ++ List.replicate 102 .undef)
    (List.replicate 106 .none) σ K
noncomputable def law03_JsonNumbers_J8 {R : Type} (w : C_law03_JsonNumbers) (L : Nat) (s1 : ByteArray) (k_1 : Int) (σ : Heap) (K : AVal → Heap → Option R) : Option R :=
  codeAt T (O_law03_JsonNumbers w) L 1 8 Tryd.f8 [1, 1, 1, 1, 1] []
    ([.str s1, .undef, .undef, .int .i64 k_1] ++ List.replicate 102 .undef)
    (List.replicate 106 .none) σ K
noncomputable def law03_JsonNumbers_L10 {R : Type} (w : C_law03_JsonNumbers) (L fu0 : Nat) (s1 : ByteArray) (k_1 : Int) (want_5 : Int) (ok_3 : Bool) (x_4 : Sl) (x_2 : Int) (σ : Heap) (K : AVal → Heap → Option R) : Option R :=
  loopAt T (O_law03_JsonNumbers w) L 1 8 Tryd.f8 [1, 1, 1, 1, 1, 1, 0, 1, 0] [] fu0
    ([.str s1, .undef, .undef, .int .i64 k_1, .int .i64 want_5, .bool ok_3] ++ List.replicate 43 .undef ++ [.slice x_4.b x_4.o x_4.n 1, .int .i64 (((s1.extract 0 k_1.toNat).size : Nat) : Int), .int .i64 x_2] ++ List.replicate 54 .undef)
    (List.replicate 106 .none) σ K
noncomputable def law03_JsonNumbers_J18 {R : Type} (w : C_law03_JsonNumbers) (L : Nat) (s1 : ByteArray) (k_1 : Int) (want_5 : Int) (ok_3 : Bool) (σ : Heap) (K : AVal → Heap → Option R) : Option R :=
  codeAt T (O_law03_JsonNumbers w) L 1 8 Tryd.f8 [1, 1, 1, 1, 1, 1, 1] []
    ([.str s1, .undef, .undef, .int .i64 k_1, .int .i64 want_5, .bool ok_3] ++ List.replicate 100 .undef)
    (List.replicate 106 .none) σ K
set_option maxRecDepth 100000 in
theorem law03_JsonNumbers_L6_eq0 {R : Type} (w : C_law03_JsonNumbers) (L fu0 : Nat) (s1 : ByteArray) (k_1 : Int) (σ : Heap) (K : AVal → Heap → Option R) :
    law03_JsonNumbers_L6 w L (fu0 + 1) s1 k_1 σ K =
    bif (decide (k_1 < (s1.size : Int))) then (
      bif ((decide (0 ≤ k_1)) && (decide (k_1 < (s1.size : Int)))) then (
        bif (decide (((s1.data.toList.getD k_1.toNat 0).toNat : Int) ≥ 48)) then (
          bif ((decide (0 ≤ k_1)) && (decide (k_1 < (s1.size : Int)))) then (
            bif (decide (((s1.data.toList.getD k_1.toNat 0).toNat : Int) ≤ 57)) then (
              law03_JsonNumbers_L6 w L fu0 s1 (IntKind.i64.wrap (k_1 + 1)) σ K)
            else
            joinC (T.join 8 8) σ (law03_JsonNumbers_J8 w L s1 k_1 σ K))
          else none)
        else joinC (T.join 8 8) σ (law03_JsonNumbers_J8 w L s1 k_1 σ K))
      else none)
    else joinC (T.join 8 8) σ (law03_JsonNumbers_J8 w L s1 k_1 σ K) := by kernel_rfl
theorem law03_JsonNumbers_L6_eq {R : Type} (w : C_law03_JsonNumbers) (L fu0 : Nat) (s1 : ByteArray) (k_1 : Int) (σ : Heap) (K : AVal → Heap → Option R) :
    law03_JsonNumbers_L6 w L (fu0 + 1) s1 k_1 σ K =
    bif (decide (k_1 < (s1.size : Int))) then (
      bif ((decide (0 ≤ k_1)) && (decide (k_1 < (s1.size : Int)))) then (
        bif (decide (((s1.data.toList.getD k_1.toNat 0).toNat : Int) ≥ 48)) then (
          bif ((decide (0 ≤ k_1)) && (decide (k_1 < (s1.size : Int)))) then (
            bif (decide (((s1.data.toList.getD k_1.toNat 0).toNat : Int) ≤ 57)) then (
              law03_JsonNumbers_L6 w L fu0 s1 (IntKind.i64.wrap (k_1 + 1)) σ K)
            else
            law03_JsonNumbers_J8 w L s1 k_1 σ K)
          else none)
        else law03_JsonNumbers_J8 w L s1 k_1 σ K)
      else none)
    else law03_JsonNumbers_J8 w L s1 k_1 σ K := by 
  rw [law03_JsonNumbers_L6_eq0]; simp only [joinC_eq]
set_option maxRecDepth 100000 in
theorem law03_JsonNumbers_J8_eq {R : Type} (w : C_law03_JsonNumbers) (L : Nat) (s1 : ByteArray) (k_1 : Int) (σ : Heap) (K : AVal → Heap → Option R) :
    law03_JsonNumbers_J8 w L s1 k_1 σ K =
    bif (decide (k_1 > 0)) then (
      bif (k_1 == 1) then (
        bif ((decide (0 ≤ k_1)) && (decide (k_1 ≤ (s1.size : Int)))) then (
          bif (decide ((s1.extract 0 k_1.toNat).size ≤ 70368744177664)) then (
            alloc σ ((s1.extract 0 k_1.toNat).data.toList.map fun b => AVal.int .u8 b.toNat) fun b3 σ4 =>
            law03_JsonNumbers_L10 w L L s1 k_1 0 true ⟨(some b3), 0, (s1.extract 0 k_1.toNat).size⟩ 0 σ4 K)
          else none)
        else none)
      else
      bif (decide (0 < (s1.size : Int))) then (
        bif ((decide (0 ≤ k_1)) && (decide (k_1 ≤ (s1.size : Int)))) then (
          bif (decide ((s1.extract 0 k_1.toNat).size ≤ 70368744177664)) then (
            alloc σ ((s1.extract 0 k_1.toNat).data.toList.map fun b => AVal.int .u8 b.toNat) fun b5 σ6 =>
            law03_JsonNumbers_L10 w L L s1 k_1 0 (((s1.data.toList.getD 0 0).toNat : Int) != 48) ⟨(some b5), 0, (s1.extract 0 k_1.toNat).size⟩ 0 σ6 K)
          else none)
        else none)
      else none)
    else
    bif ((decide (0 ≤ k_1)) && (decide (k_1 ≤ (s1.size : Int)))) then (
      bif (decide ((s1.extract 0 k_1.toNat).size ≤ 70368744177664)) then (
        alloc σ ((s1.extract 0 k_1.toNat).data.toList.map fun b => AVal.int .u8 b.toNat) fun b7 σ8 =>
        law03_JsonNumbers_L10 w L L s1 k_1 0 false ⟨(some b7), 0, (s1.extract 0 k_1.toNat).size⟩ 0 σ8 K)
      else none)
    else none := by kernel_rfl
set_option maxRecDepth 100000 in
theorem law03_JsonNumbers_L10_eq0 {R : Type} (w : C_law03_JsonNumbers) (L fu0 : Nat) (s1 : ByteArray) (k_1 : Int) (want_5 : Int) (ok_3 : Bool) (x_4 : Sl) (x_2 : Int) (σ : Heap) (K : AVal → Heap → Option R) :
    law03_JsonNumbers_L10 w L (fu0 + 1) s1 k_1 want_5 ok_3 x_4 x_2 σ K =
    bif (decide (x_2 < (((s1.extract 0 k_1.toNat).size : Nat) : Int))) then (
      bif ((decide (0 ≤ x_2)) && (decide (x_2 < (x_4.n : Int)))) then (
        (x_4.b).bind fun b9 =>
        (int? (Heap.cell? σ b9 (x_4.o + x_2.toNat * 1)) .u8).bind fun x10 =>
        bif ok_3 then (
          bif (decide (want_5 > (IntKind.i64.wrap (Int.tdiv (IntKind.i64.wrap (9223372036854775807 - (IntKind.i64.wrap (IntKind.u8.wrap (x10 - 48))))) 10)))) then (
            law03_JsonNumbers_L10 w L fu0 s1 k_1 want_5 false x_4 (IntKind.i64.wrap (x_2 + 1)) σ K)
          else
          bif ok_3 then (
            law03_JsonNumbers_L10 w L fu0 s1 k_1 (IntKind.i64.wrap ((IntKind.i64.wrap (10 * want_5)) + (IntKind.i64.wrap (IntKind.u8.wrap (x10 - 48))))) ok_3 x_4 (IntKind.i64.wrap (x_2 + 1)) σ K)
          else
          law03_JsonNumbers_L10 w L fu0 s1 k_1 want_5 ok_3 x_4 (IntKind.i64.wrap (x_2 + 1)) σ K)
        else
        bif ok_3 then (
          law03_JsonNumbers_L10 w L fu0 s1 k_1 (IntKind.i64.wrap ((IntKind.i64.wrap (10 * want_5)) + (IntKind.i64.wrap (IntKind.u8.wrap (x10 - 48))))) ok_3 x_4 (IntKind.i64.wrap (x_2 + 1)) σ K)
        else
        law03_JsonNumbers_L10 w L fu0 s1 k_1 want_5 ok_3 x_4 (IntKind.i64.wrap (x_2 + 1)) σ K)
      else none)
    else joinC (T.join 8 18) σ (law03_JsonNumbers_J18 w L s1 k_1 want_5 ok_3 σ K) := by kernel_rfl
theorem law03_JsonNumbers_L10_eq {R : Type} (w : C_law03_JsonNumbers) (L fu0 : Nat) (s1 : ByteArray) (k_1 : Int) (want_5 : Int) (ok_3 : Bool) (x_4 : Sl) (x_2 : Int) (σ : Heap) (K : AVal → Heap → Option R) :
    law03_JsonNumbers_L10 w L (fu0 + 1) s1 k_1 want_5 ok_3 x_4 x_2 σ K =
    bif (decide (x_2 < (((s1.extract 0 k_1.toNat).size : Nat) : Int))) then (
      bif ((decide (0 ≤ x_2)) && (decide (x_2 < (x_4.n : Int)))) then (
        (x_4.b).bind fun b9 =>
        (int? (Heap.cell? σ b9 (x_4.o + x_2.toNat * 1)) .u8).bind fun x10 =>
        bif ok_3 then (
          bif (decide (want_5 > (IntKind.i64.wrap (Int.tdiv (IntKind.i64.wrap (9223372036854775807 - (IntKind.i64.wrap (IntKind.u8.wrap (x10 - 48))))) 10)))) then (
            law03_JsonNumbers_L10 w L fu0 s1 k_1 want_5 false x_4 (IntKind.i64.wrap (x_2 + 1)) σ K)
          else
          bif ok_3 then (
            law03_JsonNumbers_L10 w L fu0 s1 k_1 (IntKind.i64.wrap ((IntKind.i64.wrap (10 * want_5)) + (IntKind.i64.wrap (IntKind.u8.wrap (x10 - 48))))) ok_3 x_4 (IntKind.i64.wrap (x_2 + 1)) σ K)
          else
          law03_JsonNumbers_L10 w L fu0 s1 k_1 want_5 ok_3 x_4 (IntKind.i64.wrap (x_2 + 1)) σ K)
        else
        bif ok_3 then (
          law03_JsonNumbers_L10 w L fu0 s1 k_1 (IntKind.i64.wrap ((IntKind.i64.wrap (10 * want_5)) + (IntKind.i64.wrap (IntKind.u8.wrap (x10 - 48))))) ok_3 x_4 (IntKind.i64.wrap (x_2 + 1)) σ K)
        else
        law03_JsonNumbers_L10 w L fu0 s1 k_1 want_5 ok_3 x_4 (IntKind.i64.wrap (x_2 + 1)) σ K)
      else none)
    else law03_JsonNumbers_J18 w L s1 k_1 want_5 ok_3 σ K := by 
  rw [law03_JsonNumbers_L10_eq0]; simp only [joinC_eq]
set_option maxRecDepth 100000 in
theorem law03_JsonNumbers_J18_eq {R : Type} (w : C_law03_JsonNumbers) (L : Nat) (s1 : ByteArray) (k_1 : Int) (want_5 : Int) (ok_3 : Bool) (σ : Heap) (K : AVal → Heap → Option R) :
    law03_JsonNumbers_J18 w L s1 k_1 want_5 ok_3 σ K =
    (w.json_Number s1 σ).bind fun q11 =>
    bif (!(q11.1.2.2 == ok_3)) then (
      K (.bool false) q11.2)
    else
    bif (!ok_3) then (
      bif (q11.1.1 == 0) then (
        bif (q11.1.2.1.toList == (⟨#[]⟩ : ByteArray).toList) then (
          K (.bool true) q11.2)
        else
        bif ok_3 then (
          bif (q11.1.1 == want_5) then (
            bif (((decide (0 ≤ k_1)) && (decide (k_1 ≤ (s1.size : Int)))) && (decide ((s1.size : Int) ≤ (s1.size : Int)))) then (
              K (.bool (q11.1.2.1.toList == (s1.extract k_1.toNat s1.size).toList)) q11.2)
            else
            none)
          else K (.bool false) q11.2)
        else K (.bool false) q11.2)
      else
      bif ok_3 then (
        bif (q11.1.1 == want_5) then (
          bif (((decide (0 ≤ k_1)) && (decide (k_1 ≤ (s1.size : Int)))) && (decide ((s1.size : Int) ≤ (s1.size : Int)))) then (
            K (.bool (q11.1.2.1.toList == (s1.extract k_1.toNat s1.size).toList)) q11.2)
          else
          none)
        else K (.bool false) q11.2)
      else K (.bool false) q11.2)
    else
    bif ok_3 then (
      bif (q11.1.1 == want_5) then (
        bif (((decide (0 ≤ k_1)) && (decide (k_1 ≤ (s1.size : Int)))) && (decide ((s1.size : Int) ≤ (s1.size : Int)))) then (
          K (.bool (q11.1.2.1.toList == (s1.extract k_1.toNat s1.size).toList)) q11.2)
        else
        none)
      else K (.bool false) q11.2)
    else K (.bool false) q11.2 := by kernel_rfl
set_option maxRecDepth 100000 in
theorem law03_JsonNumbers_eq {R : Type} (w : C_law03_JsonNumbers) (L : Nat) (s1 : ByteArray) (σ : Heap) (K : AVal → Heap → Option R) :
    callC T (O_law03_JsonNumbers w) L 2 8 [.str s1] σ K =
    (w.law03_fit σ).bind fun q2 =>
    bif (!q2.1) then (
      K (.bool false) q2.2)
    else
    bif (decide ((s1.size : Int) > 100)) then (
      K (.bool true) q2.2)
    else
    law03_JsonNumbers_L6 w L L s1 0 q2.2 K := by kernel_rfl
/-! json_Untime -/
noncomputable def json_Untime_L6 {R : Type} (w : C_json_Untime) (L fu0 : Nat) (n_1 : Int) (rest_2 : ByteArray) (m_3 : Int) (i_4 : Int) (σ : Heap) (K : AVal → Heap → Option R) : Option R :=
  loopAt T (O_json_Untime w) L 1 24 Tryd.f24 [1, 1, 1, 1, 0, 1, 0] [] fu0
    (List.replicate 5 .undef ++ [.int .i64 n_1, .str rest_2, .undef, .int .i64 m_3, .int .i64 i_4] ++ List.replicate 50 .undef)
    (List.replicate 60 .none) σ K
set_option maxRecDepth 100000 in
theorem json_Untime_L6_eq {R : Type} (w : C_json_Untime) (L fu0 : Nat) (n_1 : Int) (rest_2 : ByteArray) (m_3 : Int) (i_4 : Int) (σ : Heap) (K : AVal → Heap → Option R) :
    json_Untime_L6 w L (fu0 + 1) n_1 rest_2 m_3 i_4 σ K =
    bif (decide (i_4 < 7)) then (
      bif ((decide (0 ≤ i_4)) && (decide (i_4 < (rest_2.size : Int)))) then (
        bif (decide (((rest_2.data.toList.getD i_4.toNat 0).toNat : Int) < 48)) then (
          K (.tuple [.int .i64 0, .str (⟨#[]⟩ : ByteArray), .bool false]) σ)
        else
        bif ((decide (0 ≤ i_4)) && (decide (i_4 < (rest_2.size : Int)))) then (
          bif (decide (((rest_2.data.toList.getD i_4.toNat 0).toNat : Int) > 57)) then (
            K (.tuple [.int .i64 0, .str (⟨#[]⟩ : ByteArray), .bool false]) σ)
          else
          bif ((decide (0 ≤ i_4)) && (decide (i_4 < (rest_2.size : Int)))) then (
            json_Untime_L6 w L fu0 n_1 rest_2 (IntKind.i64.wrap ((IntKind.i64.wrap (10 * m_3)) + (IntKind.i64.wrap (IntKind.u8.wrap (((rest_2.data.toList.getD i_4.toNat 0).toNat : Int) - 48))))) (IntKind.i64.wrap (i_4 + 1)) σ K)
          else
          none)
        else none)
      else none)
    else
    bif ((decide (7 ≤ (rest_2.size : Int))) && (decide ((rest_2.size : Int) ≤ (rest_2.size : Int)))) then (
      K (.tuple [.int .i64 (IntKind.i64.wrap ((IntKind.i64.wrap (n_1 * 1000000)) + m_3)), .str (rest_2.extract 7 rest_2.size), .bool true]) σ)
    else
    none := by kernel_rfl
set_option maxRecDepth 100000 in
theorem json_Untime_eq {R : Type} (w : C_json_Untime) (L : Nat) (s1 : ByteArray) (σ : Heap) (K : AVal → Heap → Option R) :
    callC T (O_json_Untime w) L 2 24 [.str s1] σ K =
    (w.json_Number s1 σ).bind fun q2 =>
    bif (!q2.1.2.2) then (
      K (.tuple [.int .i64 0, .str (⟨#[]⟩ : ByteArray), .bool false]) q2.2)
    else
    bif (decide ((q2.1.2.1.size : Int) < 7)) then (
      K (.tuple [.int .i64 0, .str (⟨#[]⟩ : ByteArray), .bool false]) q2.2)
    else
    bif (decide (0 < (q2.1.2.1.size : Int))) then (
      bif (((q2.1.2.1.data.toList.getD 0 0).toNat : Int) != 46) then (
        K (.tuple [.int .i64 0, .str (⟨#[]⟩ : ByteArray), .bool false]) q2.2)
      else
      bif (decide (q2.1.1 > 4611686018427)) then (
        K (.tuple [.int .i64 0, .str (⟨#[]⟩ : ByteArray), .bool false]) q2.2)
      else
      json_Untime_L6 w L L q2.1.1 q2.1.2.1 0 1 q2.2 K)
    else none := by kernel_rfl
/-! law03_JsonTimes -/
set_option maxRecDepth 100000 in
theorem law03_JsonTimes_eq {R : Type} (w : C_law03_JsonTimes) (L : Nat) (n1 : Int) (more2 : ByteArray) (σ : Heap) (K : AVal → Heap → Option R) :
    callC T (O_law03_JsonTimes w) L 2 9 [.int .i64 n1, .str more2] σ K =
    (w.law03_fit σ).bind fun q3 =>
    bif (!q3.1) then (
      K (.bool false) q3.2)
    else
    bif (decide ((more2.size : Int) > 50)) then (
      K (.bool true) q3.2)
    else
    (w.json_Time (IntKind.i64.wrap (BitVec.ofInt IntKind.i64.bits n1 &&& BitVec.ofInt IntKind.i64.bits 4611686018427387903).toNat) q3.2).bind fun q4 =>
    if q4.1.size + more2.size ≤ 9223372036854775807 then (
      (w.json_Untime (q4.1 ++ more2) q4.2).bind fun q5 =>
      bif q5.1.2.2 then (
        bif (q5.1.1 == (IntKind.i64.wrap (BitVec.ofInt IntKind.i64.bits n1 &&& BitVec.ofInt IntKind.i64.bits 4611686018427387903).toNat)) then (
          bif (q5.1.2.1.toList == more2.toList) then (
            bif (decide ((q4.1.size : Int) ≥ 8)) then (
              bif ((decide (0 ≤ (IntKind.i64.wrap ((q4.1.size : Int) - 7)))) && (decide ((IntKind.i64.wrap ((q4.1.size : Int) - 7)) < (q4.1.size : Int)))) then (
                K (.bool (((q4.1.data.toList.getD ((IntKind.i64.wrap ((q4.1.size : Int) - 7)).toNat) 0).toNat : Int) == 46)) q5.2)
              else
              none)
            else K (.bool false) q5.2)
          else K (.bool false) q5.2)
        else K (.bool false) q5.2)
      else K (.bool false) q5.2)
    else (
      none) := by kernel_rfl
/-! law03_JsonUntimes -/
noncomputable def law03_JsonUntimes_L9 {R : Type} (w : C_law03_JsonUntimes) (L fu0 : Nat) (s1 : ByteArray) (n_1 : Int) (rest_2 : ByteArray) (k_3 : Int) (σ : Heap) (K : AVal → Heap → Option R) : Option R :=
  loopAt T (O_law03_JsonUntimes w) L 1 10 Tryd.f10 [1, 1, 1, 1, 1, 1, 0, 0] [] fu0
    ([.str s1, .undef, .undef, .int .i64 n_1, .str rest_2, .undef, .int .i64 k_3] ++ List.replicate 101 .undef)
    (List.replicate 108 .none) σ K
noncomputable def law03_JsonUntimes_J11 {R : Type} (w : C_law03_JsonUntimes) (L : Nat) (s1 : ByteArray) (n_1 : Int) (rest_2 : ByteArray) (k_3 : Int) (σ : Heap) (K : AVal → Heap → Option R) : Option R :=
  codeAt T (O_law03_JsonUntimes w) L 1 10 Tryd.f10 [1, 1, 1, 1, 1, 1, 1] []
    ([.str s1, .undef, .undef, .int .i64 n_1, .str rest_2, .undef, .int .i64 k_3] ++ List.replicate 101 .undef)
    (List.replicate 108 .none) σ K
noncomputable def law03_JsonUntimes_L14 {R : Type} (w : C_law03_JsonUntimes) (L fu0 : Nat) (n_1 : Int) (rest_2 : ByteArray) (x_4 : Sl) (s1 : ByteArray) (k_3 : Int) (x_5 : Int) (σ : Heap) (K : AVal → Heap → Option R) : Option R :=
  loopAt T (O_law03_JsonUntimes w) L 1 10 Tryd.f10 [1, 1, 1, 1, 1, 1, 1, 1, 0, 1, 0] [] fu0
    ([.undef, .undef, .undef, .int .i64 n_1, .str rest_2] ++ List.replicate 84 .undef ++ [.slice x_4.b x_4.o x_4.n 1, .int .i64 (((s1.extract (IntKind.i64.wrap (k_3 + 1)).toNat (IntKind.i64.wrap (k_3 + 7)).toNat).size : Nat) : Int), .int .i64 x_5] ++ List.replicate 16 .undef)
    (List.replicate 108 .none) σ K
noncomputable def law03_JsonUntimes_J19 {R : Type} (w : C_law03_JsonUntimes) (L : Nat) (σ : Heap) (K : AVal → Heap → Option R) : Option R :=
  codeAt T (O_law03_JsonUntimes w) L 1 10 Tryd.f10 [1, 1, 1, 1, 1, 1, 1, 1, 1] []
    (List.replicate 108 .undef)
    (List.replicate 108 .none) σ K
set_option maxRecDepth 100000 in
theorem law03_JsonUntimes_L9_eq0 {R : Type} (w : C_law03_JsonUntimes) (L fu0 : Nat) (s1 : ByteArray) (n_1 : Int) (rest_2 : ByteArray) (k_3 : Int) (σ : Heap) (K : AVal → Heap → Option R) :
    law03_JsonUntimes_L9 w L (fu0 + 1) s1 n_1 rest_2 k_3 σ K =
    bif (decide (k_3 < (s1.size : Int))) then (
      bif ((decide (0 ≤ k_3)) && (decide (k_3 < (s1.size : Int)))) then (
        bif (decide (((s1.data.toList.getD k_3.toNat 0).toNat : Int) ≥ 48)) then (
          bif ((decide (0 ≤ k_3)) && (decide (k_3 < (s1.size : Int)))) then (
            bif (decide (((s1.data.toList.getD k_3.toNat 0).toNat : Int) ≤ 57)) then (
              law03_JsonUntimes_L9 w L fu0 s1 n_1 rest_2 (IntKind.i64.wrap (k_3 + 1)) σ K)
            else
            joinC (T.join 10 11) σ (law03_JsonUntimes_J11 w L s1 n_1 rest_2 k_3 σ K))
          else none)
        else joinC (T.join 10 11) σ (law03_JsonUntimes_J11 w L s1 n_1 rest_2 k_3 σ K))
      else none)
    else joinC (T.join 10 11) σ (law03_JsonUntimes_J11 w L s1 n_1 rest_2 k_3 σ K) := by kernel_rfl
theorem law03_JsonUntimes_L9_eq {R : Type} (w : C_law03_JsonUntimes) (L fu0 : Nat) (s1 : ByteArray) (n_1 : Int) (rest_2 : ByteArray) (k_3 : Int) (σ : Heap) (K : AVal → Heap → Option R) :
    law03_JsonUntimes_L9 w L (fu0 + 1) s1 n_1 rest_2 k_3 σ K =
    bif (decide (k_3 < (s1.size : Int))) then (
      bif ((decide (0 ≤ k_3)) && (decide (k_3 < (s1.size : Int)))) then (
        bif (decide (((s1.data.toList.getD k_3.toNat 0).toNat : Int) ≥ 48)) then (
          bif ((decide (0 ≤ k_3)) && (decide (k_3 < (s1.size : Int)))) then (
            bif (decide (((s1.data.toList.getD k_3.toNat 0).toNat : Int) ≤ 57)) then (
              law03_JsonUntimes_L9 w L fu0 s1 n_1 rest_2 (IntKind.i64.wrap (k_3 + 1)) σ K)
            else
            law03_JsonUntimes_J11 w L s1 n_1 rest_2 k_3 σ K)
          else none)
        else law03_JsonUntimes_J11 w L s1 n_1 rest_2 k_3 σ K)
      else none)
    else law03_JsonUntimes_J11 w L s1 n_1 rest_2 k_3 σ K := by 
  rw [law03_JsonUntimes_L9_eq0]; simp only [joinC_eq]
set_option maxRecDepth 100000 in
theorem law03_JsonUntimes_J11_eq {R : Type} (w : C_law03_JsonUntimes) (L : Nat) (s1 : ByteArray) (n_1 : Int) (rest_2 : ByteArray) (k_3 : Int) (σ : Heap) (K : AVal → Heap → Option R) :
    law03_JsonUntimes_J11 w L s1 n_1 rest_2 k_3 σ K =
    bif (k_3 == 0) then (
      bif (n_1 == 0) then (
        K (.bool (rest_2.toList == (⟨#[]⟩ : ByteArray).toList)) σ)
      else
      K (.bool false) σ)
    else
    bif (decide (k_3 > 12)) then (
      bif (n_1 == 0) then (
        K (.bool (rest_2.toList == (⟨#[]⟩ : ByteArray).toList)) σ)
      else
      K (.bool false) σ)
    else
    bif (decide (k_3 > 1)) then (
      bif (decide (0 < (s1.size : Int))) then (
        bif (((s1.data.toList.getD 0 0).toNat : Int) == 48) then (
          bif (n_1 == 0) then (
            K (.bool (rest_2.toList == (⟨#[]⟩ : ByteArray).toList)) σ)
          else
          K (.bool false) σ)
        else
        bif (decide ((s1.size : Int) < (IntKind.i64.wrap (k_3 + 7)))) then (
          bif (n_1 == 0) then (
            K (.bool (rest_2.toList == (⟨#[]⟩ : ByteArray).toList)) σ)
          else
          K (.bool false) σ)
        else
        bif ((decide (0 ≤ k_3)) && (decide (k_3 < (s1.size : Int)))) then (
          bif (((s1.data.toList.getD k_3.toNat 0).toNat : Int) != 46) then (
            bif (n_1 == 0) then (
              K (.bool (rest_2.toList == (⟨#[]⟩ : ByteArray).toList)) σ)
            else
            K (.bool false) σ)
          else
          bif (((decide (0 ≤ (IntKind.i64.wrap (k_3 + 1)))) && (decide ((IntKind.i64.wrap (k_3 + 1)) ≤ (IntKind.i64.wrap (k_3 + 7))))) && (decide ((IntKind.i64.wrap (k_3 + 7)) ≤ (s1.size : Int)))) then (
            bif (decide ((s1.extract (IntKind.i64.wrap (k_3 + 1)).toNat (IntKind.i64.wrap (k_3 + 7)).toNat).size ≤ 70368744177664)) then (
              alloc σ ((s1.extract (IntKind.i64.wrap (k_3 + 1)).toNat (IntKind.i64.wrap (k_3 + 7)).toNat).data.toList.map fun b => AVal.int .u8 b.toNat) fun b5 σ6 =>
              law03_JsonUntimes_L14 w L L n_1 rest_2 ⟨(some b5), 0, (s1.extract (IntKind.i64.wrap (k_3 + 1)).toNat (IntKind.i64.wrap (k_3 + 7)).toNat).size⟩ s1 k_3 0 σ6 K)
            else none)
          else none)
        else none)
      else none)
    else
    bif (decide ((s1.size : Int) < (IntKind.i64.wrap (k_3 + 7)))) then (
      bif (n_1 == 0) then (
        K (.bool (rest_2.toList == (⟨#[]⟩ : ByteArray).toList)) σ)
      else
      K (.bool false) σ)
    else
    bif ((decide (0 ≤ k_3)) && (decide (k_3 < (s1.size : Int)))) then (
      bif (((s1.data.toList.getD k_3.toNat 0).toNat : Int) != 46) then (
        bif (n_1 == 0) then (
          K (.bool (rest_2.toList == (⟨#[]⟩ : ByteArray).toList)) σ)
        else
        K (.bool false) σ)
      else
      bif (((decide (0 ≤ (IntKind.i64.wrap (k_3 + 1)))) && (decide ((IntKind.i64.wrap (k_3 + 1)) ≤ (IntKind.i64.wrap (k_3 + 7))))) && (decide ((IntKind.i64.wrap (k_3 + 7)) ≤ (s1.size : Int)))) then (
        bif (decide ((s1.extract (IntKind.i64.wrap (k_3 + 1)).toNat (IntKind.i64.wrap (k_3 + 7)).toNat).size ≤ 70368744177664)) then (
          alloc σ ((s1.extract (IntKind.i64.wrap (k_3 + 1)).toNat (IntKind.i64.wrap (k_3 + 7)).toNat).data.toList.map fun b => AVal.int .u8 b.toNat) fun b7 σ8 =>
          law03_JsonUntimes_L14 w L L n_1 rest_2 ⟨(some b7), 0, (s1.extract (IntKind.i64.wrap (k_3 + 1)).toNat (IntKind.i64.wrap (k_3 + 7)).toNat).size⟩ s1 k_3 0 σ8 K)
        else none)
      else none)
    else none := by kernel_rfl
set_option maxRecDepth 100000 in
theorem law03_JsonUntimes_L14_eq0 {R : Type} (w : C_law03_JsonUntimes) (L fu0 : Nat) (n_1 : Int) (rest_2 : ByteArray) (x_4 : Sl) (s1 : ByteArray) (k_3 : Int) (x_5 : Int) (σ : Heap) (K : AVal → Heap → Option R) :
    law03_JsonUntimes_L14 w L (fu0 + 1) n_1 rest_2 x_4 s1 k_3 x_5 σ K =
    bif (decide (x_5 < (((s1.extract (IntKind.i64.wrap (k_3 + 1)).toNat (IntKind.i64.wrap (k_3 + 7)).toNat).size : Nat) : Int))) then (
      bif ((decide (0 ≤ x_5)) && (decide (x_5 < (x_4.n : Int)))) then (
        (x_4.b).bind fun b9 =>
        (int? (Heap.cell? σ b9 (x_4.o + x_5.toNat * 1)) .u8).bind fun x10 =>
        bif (decide (x10 < 48)) then (
          bif (n_1 == 0) then (
            K (.bool (rest_2.toList == (⟨#[]⟩ : ByteArray).toList)) σ)
          else
          K (.bool false) σ)
        else
        bif (decide (x10 > 57)) then (
          bif (n_1 == 0) then (
            K (.bool (rest_2.toList == (⟨#[]⟩ : ByteArray).toList)) σ)
          else
          K (.bool false) σ)
        else law03_JsonUntimes_L14 w L fu0 n_1 rest_2 x_4 s1 k_3 (IntKind.i64.wrap (x_5 + 1)) σ K)
      else none)
    else joinC (T.join 10 19) σ (law03_JsonUntimes_J19 w L σ K) := by kernel_rfl
theorem law03_JsonUntimes_L14_eq {R : Type} (w : C_law03_JsonUntimes) (L fu0 : Nat) (n_1 : Int) (rest_2 : ByteArray) (x_4 : Sl) (s1 : ByteArray) (k_3 : Int) (x_5 : Int) (σ : Heap) (K : AVal → Heap → Option R) :
    law03_JsonUntimes_L14 w L (fu0 + 1) n_1 rest_2 x_4 s1 k_3 x_5 σ K =
    bif (decide (x_5 < (((s1.extract (IntKind.i64.wrap (k_3 + 1)).toNat (IntKind.i64.wrap (k_3 + 7)).toNat).size : Nat) : Int))) then (
      bif ((decide (0 ≤ x_5)) && (decide (x_5 < (x_4.n : Int)))) then (
        (x_4.b).bind fun b9 =>
        (int? (Heap.cell? σ b9 (x_4.o + x_5.toNat * 1)) .u8).bind fun x10 =>
        bif (decide (x10 < 48)) then (
          bif (n_1 == 0) then (
            K (.bool (rest_2.toList == (⟨#[]⟩ : ByteArray).toList)) σ)
          else
          K (.bool false) σ)
        else
        bif (decide (x10 > 57)) then (
          bif (n_1 == 0) then (
            K (.bool (rest_2.toList == (⟨#[]⟩ : ByteArray).toList)) σ)
          else
          K (.bool false) σ)
        else law03_JsonUntimes_L14 w L fu0 n_1 rest_2 x_4 s1 k_3 (IntKind.i64.wrap (x_5 + 1)) σ K)
      else none)
    else law03_JsonUntimes_J19 w L σ K := by 
  rw [law03_JsonUntimes_L14_eq0]; simp only [joinC_eq]
set_option maxRecDepth 100000 in
theorem law03_JsonUntimes_J19_eq {R : Type} (w : C_law03_JsonUntimes) (L : Nat) (σ : Heap) (K : AVal → Heap → Option R) :
    law03_JsonUntimes_J19 w L σ K =
    K (.bool false) σ := by kernel_rfl
set_option maxRecDepth 100000 in
theorem law03_JsonUntimes_eq {R : Type} (w : C_law03_JsonUntimes) (L : Nat) (s1 : ByteArray) (σ : Heap) (K : AVal → Heap → Option R) :
    callC T (O_law03_JsonUntimes w) L 2 10 [.str s1] σ K =
    (w.law03_fit σ).bind fun q2 =>
    bif (!q2.1) then (
      K (.bool false) q2.2)
    else
    bif (decide ((s1.size : Int) > 100)) then (
      K (.bool true) q2.2)
    else
    (w.json_Untime s1 q2.2).bind fun q3 =>
    bif q3.1.2.2 then (
      bif (decide (q3.1.1 ≥ 0)) then (
        (w.json_Time q3.1.1 q3.2).bind fun q4 =>
        if q4.1.size + q3.1.2.1.size ≤ 9223372036854775807 then (
          K (.bool ((q4.1 ++ q3.1.2.1).toList == s1.toList)) q4.2)
        else (
          none))
      else K (.bool false) q3.2)
    else law03_JsonUntimes_L9 w L L s1 q3.1.1 q3.1.2.1 0 q3.2 K := by kernel_rfl
/-! law17_whole -/
set_option maxRecDepth 100000 in
theorem law17_whole_eq {R : Type} (L : Nat) (s1 : ByteArray) (σ : Heap) (K : AVal → Heap → Option R) :
    callC T known0 L 2 25 [.str s1] σ K =
    bif (decide (s1.size ≤ 70368744177664)) then (
      alloc σ ((runesA s1 s1.size 0).map fun n => AVal.int .i32 n) fun b2 σ3 =>
      (Heap.read σ3 (some b2) 0 ((runesA s1 s1.size 0).length) 1).bind fun cs4 =>
      (runesIn cs4).bind fun rs5 =>
      K (.str (encodeAll rs5)) σ3)
    else none := by kernel_rfl
/-! internal_stringslite_HasPrefix -/
set_option maxRecDepth 100000 in
theorem internal_stringslite_HasPrefix_eq {R : Type} (L : Nat) (s1 : ByteArray) (prefix2 : ByteArray) (σ : Heap) (K : AVal → Heap → Option R) :
    callC T known0 L 2 68 [.str s1, .str prefix2] σ K =
    bif (decide ((s1.size : Int) ≥ (prefix2.size : Int))) then (
      bif ((decide (0 ≤ (prefix2.size : Int))) && (decide ((prefix2.size : Int) ≤ (s1.size : Int)))) then (
        K (.bool ((s1.extract 0 prefix2.size).toList == prefix2.toList)) σ)
      else
      none)
    else K (.bool false) σ := by kernel_rfl
/-! internal_stringslite_CutPrefix -/
set_option maxRecDepth 100000 in
theorem internal_stringslite_CutPrefix_eq {R : Type} (w : C_internal_stringslite_CutPrefix) (L : Nat) (s1 : ByteArray) (prefix2 : ByteArray) (σ : Heap) (K : AVal → Heap → Option R) :
    callC T (O_internal_stringslite_CutPrefix w) L 2 60 [.str s1, .str prefix2] σ K =
    (w.internal_stringslite_HasPrefix s1 prefix2 σ).bind fun q3 =>
    bif (!q3.1) then (
      K (.tuple [.str s1, .bool false]) q3.2)
    else
    bif (((decide (0 ≤ (prefix2.size : Int))) && (decide ((prefix2.size : Int) ≤ (s1.size : Int)))) && (decide ((s1.size : Int) ≤ (s1.size : Int)))) then (
      K (.tuple [.str (s1.extract prefix2.size s1.size), .bool true]) q3.2)
    else
    none := by kernel_rfl
end Go.Abs.TB
