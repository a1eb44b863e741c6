/-
Lifted functions: what the machine does, one equation for each entry and each loop (printed by lift.py).
-/
import Derived.Test.YtohlebkhlbcnaaaDoorSigB
namespace Go.Abs.TB
open Go Go.Abs Go.Proofs
/-! unicode_utf8_appendRuneNonASCII -/
set_option maxRecDepth 100000 in
theorem unicode_utf8_appendRuneNonASCII_eq {R : Type} (L : Nat) (p1 : Sl) (r2 : Int) (σ : Heap) (K : AVal → Heap → Option R) :
    callC T known0 L 2 41 [.slice p1.b p1.o p1.n 1, .int .i32 r2] σ K =
    bif (decide ((IntKind.u32.wrap r2) ≤ 2047)) then (
      (Heap.append σ p1.b p1.o p1.n 1 1 [.int .u8 (IntKind.u8.wrap (BitVec.ofInt IntKind.u8.bits 192 ||| BitVec.ofInt IntKind.u8.bits (IntKind.u8.wrap (Int.fdiv r2 (2 ^ 6)))).toNat), .int .u8 (IntKind.u8.wrap (BitVec.ofInt IntKind.u8.bits 128 ||| BitVec.ofInt IntKind.u8.bits (IntKind.u8.wrap (BitVec.ofInt IntKind.u8.bits (IntKind.u8.wrap r2) &&& BitVec.ofInt IntKind.u8.bits 63).toNat)).toNat)] 2).bind fun q3 =>
      K (.slice q3.1.1 q3.1.2.1 q3.1.2.2 1) q3.2)
    else
    bif (decide ((IntKind.u32.wrap r2) < 55296)) then (
      bif (decide ((IntKind.u32.wrap r2) < 55296)) then (
        (Heap.append σ p1.b p1.o p1.n 1 1 [.int .u8 (IntKind.u8.wrap (BitVec.ofInt IntKind.u8.bits 224 ||| BitVec.ofInt IntKind.u8.bits (IntKind.u8.wrap (Int.fdiv r2 (2 ^ 12)))).toNat), .int .u8 (IntKind.u8.wrap (BitVec.ofInt IntKind.u8.bits 128 ||| BitVec.ofInt IntKind.u8.bits (IntKind.u8.wrap (BitVec.ofInt IntKind.u8.bits (IntKind.u8.wrap (Int.fdiv r2 (2 ^ 6))) &&& BitVec.ofInt IntKind.u8.bits 63).toNat)).toNat), .int .u8 (IntKind.u8.wrap (BitVec.ofInt IntKind.u8.bits 128 ||| BitVec.ofInt IntKind.u8.bits (IntKind.u8.wrap (BitVec.ofInt IntKind.u8.bits (IntKind.u8.wrap r2) &&& BitVec.ofInt IntKind.u8.bits 63).toNat)).toNat)] 3).bind fun q4 =>
        K (.slice q4.1.1 q4.1.2.1 q4.1.2.2 1) q4.2)
      else
      bif (decide ((IntKind.u32.wrap r2) > 65535)) then (
        bif (decide ((IntKind.u32.wrap r2) ≤ 1114111)) then (
          (Heap.append σ p1.b p1.o p1.n 1 1 [.int .u8 (IntKind.u8.wrap (BitVec.ofInt IntKind.u8.bits 240 ||| BitVec.ofInt IntKind.u8.bits (IntKind.u8.wrap (Int.fdiv r2 (2 ^ 18)))).toNat), .int .u8 (IntKind.u8.wrap (BitVec.ofInt IntKind.u8.bits 128 ||| BitVec.ofInt IntKind.u8.bits (IntKind.u8.wrap (BitVec.ofInt IntKind.u8.bits (IntKind.u8.wrap (Int.fdiv r2 (2 ^ 12))) &&& BitVec.ofInt IntKind.u8.bits 63).toNat)).toNat), .int .u8 (IntKind.u8.wrap (BitVec.ofInt IntKind.u8.bits 128 ||| BitVec.ofInt IntKind.u8.bits (IntKind.u8.wrap (BitVec.ofInt IntKind.u8.bits (IntKind.u8.wrap (Int.fdiv r2 (2 ^ 6))) &&& BitVec.ofInt IntKind.u8.bits 63).toNat)).toNat), .int .u8 (IntKind.u8.wrap (BitVec.ofInt IntKind.u8.bits 128 ||| BitVec.ofInt IntKind.u8.bits (IntKind.u8.wrap (BitVec.ofInt IntKind.u8.bits (IntKind.u8.wrap r2) &&& BitVec.ofInt IntKind.u8.bits 63).toNat)).toNat)] 4).bind fun q5 =>
          K (.slice q5.1.1 q5.1.2.1 q5.1.2.2 1) q5.2)
        else
        (Heap.append σ p1.b p1.o p1.n 1 1 [.int .u8 239, .int .u8 191, .int .u8 189] 3).bind fun q6 =>
        K (.slice q6.1.1 q6.1.2.1 q6.1.2.2 1) q6.2)
      else
      (Heap.append σ p1.b p1.o p1.n 1 1 [.int .u8 239, .int .u8 191, .int .u8 189] 3).bind fun q7 =>
      K (.slice q7.1.1 q7.1.2.1 q7.1.2.2 1) q7.2)
    else
    bif (decide (57343 < (IntKind.u32.wrap r2))) then (
      bif (decide ((IntKind.u32.wrap r2) ≤ 65535)) then (
        (Heap.append σ p1.b p1.o p1.n 1 1 [.int .u8 (IntKind.u8.wrap (BitVec.ofInt IntKind.u8.bits 224 ||| BitVec.ofInt IntKind.u8.bits (IntKind.u8.wrap (Int.fdiv r2 (2 ^ 12)))).toNat), .int .u8 (IntKind.u8.wrap (BitVec.ofInt IntKind.u8.bits 128 ||| BitVec.ofInt IntKind.u8.bits (IntKind.u8.wrap (BitVec.ofInt IntKind.u8.bits (IntKind.u8.wrap (Int.fdiv r2 (2 ^ 6))) &&& BitVec.ofInt IntKind.u8.bits 63).toNat)).toNat), .int .u8 (IntKind.u8.wrap (BitVec.ofInt IntKind.u8.bits 128 ||| BitVec.ofInt IntKind.u8.bits (IntKind.u8.wrap (BitVec.ofInt IntKind.u8.bits (IntKind.u8.wrap r2) &&& BitVec.ofInt IntKind.u8.bits 63).toNat)).toNat)] 3).bind fun q8 =>
        K (.slice q8.1.1 q8.1.2.1 q8.1.2.2 1) q8.2)
      else
      bif (decide ((IntKind.u32.wrap r2) > 65535)) then (
        bif (decide ((IntKind.u32.wrap r2) ≤ 1114111)) then (
          (Heap.append σ p1.b p1.o p1.n 1 1 [.int .u8 (IntKind.u8.wrap (BitVec.ofInt IntKind.u8.bits 240 ||| BitVec.ofInt IntKind.u8.bits (IntKind.u8.wrap (Int.fdiv r2 (2 ^ 18)))).toNat), .int .u8 (IntKind.u8.wrap (BitVec.ofInt IntKind.u8.bits 128 ||| BitVec.ofInt IntKind.u8.bits (IntKind.u8.wrap (BitVec.ofInt IntKind.u8.bits (IntKind.u8.wrap (Int.fdiv r2 (2 ^ 12))) &&& BitVec.ofInt IntKind.u8.bits 63).toNat)).toNat), .int .u8 (IntKind.u8.wrap (BitVec.ofInt IntKind.u8.bits 128 ||| BitVec.ofInt IntKind.u8.bits (IntKind.u8.wrap (BitVec.ofInt IntKind.u8.bits (IntKind.u8.wrap (Int.fdiv r2 (2 ^ 6))) &&& BitVec.ofInt IntKind.u8.bits 63).toNat)).toNat), .int .u8 (IntKind.u8.wrap (BitVec.ofInt IntKind.u8.bits 128 ||| BitVec.ofInt IntKind.u8.bits (IntKind.u8.wrap (BitVec.ofInt IntKind.u8.bits (IntKind.u8.wrap r2) &&& BitVec.ofInt IntKind.u8.bits 63).toNat)).toNat)] 4).bind fun q9 =>
          K (.slice q9.1.1 q9.1.2.1 q9.1.2.2 1) q9.2)
        else
        (Heap.append σ p1.b p1.o p1.n 1 1 [.int .u8 239, .int .u8 191, .int .u8 189] 3).bind fun q10 =>
        K (.slice q10.1.1 q10.1.2.1 q10.1.2.2 1) q10.2)
      else
      (Heap.append σ p1.b p1.o p1.n 1 1 [.int .u8 239, .int .u8 191, .int .u8 189] 3).bind fun q11 =>
      K (.slice q11.1.1 q11.1.2.1 q11.1.2.2 1) q11.2)
    else
    bif (decide ((IntKind.u32.wrap r2) > 65535)) then (
      bif (decide ((IntKind.u32.wrap r2) ≤ 1114111)) then (
        (Heap.append σ p1.b p1.o p1.n 1 1 [.int .u8 (IntKind.u8.wrap (BitVec.ofInt IntKind.u8.bits 240 ||| BitVec.ofInt IntKind.u8.bits (IntKind.u8.wrap (Int.fdiv r2 (2 ^ 18)))).toNat), .int .u8 (IntKind.u8.wrap (BitVec.ofInt IntKind.u8.bits 128 ||| BitVec.ofInt IntKind.u8.bits (IntKind.u8.wrap (BitVec.ofInt IntKind.u8.bits (IntKind.u8.wrap (Int.fdiv r2 (2 ^ 12))) &&& BitVec.ofInt IntKind.u8.bits 63).toNat)).toNat), .int .u8 (IntKind.u8.wrap (BitVec.ofInt IntKind.u8.bits 128 ||| BitVec.ofInt IntKind.u8.bits (IntKind.u8.wrap (BitVec.ofInt IntKind.u8.bits (IntKind.u8.wrap (Int.fdiv r2 (2 ^ 6))) &&& BitVec.ofInt IntKind.u8.bits 63).toNat)).toNat), .int .u8 (IntKind.u8.wrap (BitVec.ofInt IntKind.u8.bits 128 ||| BitVec.ofInt IntKind.u8.bits (IntKind.u8.wrap (BitVec.ofInt IntKind.u8.bits (IntKind.u8.wrap r2) &&& BitVec.ofInt IntKind.u8.bits 63).toNat)).toNat)] 4).bind fun q12 =>
        K (.slice q12.1.1 q12.1.2.1 q12.1.2.2 1) q12.2)
      else
      (Heap.append σ p1.b p1.o p1.n 1 1 [.int .u8 239, .int .u8 191, .int .u8 189] 3).bind fun q13 =>
      K (.slice q13.1.1 q13.1.2.1 q13.1.2.2 1) q13.2)
    else
    (Heap.append σ p1.b p1.o p1.n 1 1 [.int .u8 239, .int .u8 191, .int .u8 189] 3).bind fun q14 =>
    K (.slice q14.1.1 q14.1.2.1 q14.1.2.2 1) q14.2 := by kernel_rfl
/-! unicode_utf8_AppendRune -/
set_option maxRecDepth 100000 in
theorem unicode_utf8_AppendRune_eq {R : Type} (w : C_unicode_utf8_AppendRune) (L : Nat) (p1 : Sl) (r2 : Int) (σ : Heap) (K : AVal → Heap → Option R) :
    callC T (O_unicode_utf8_AppendRune w) L 2 29 [.slice p1.b p1.o p1.n 1, .int .i32 r2] σ K =
    bif (decide ((IntKind.u32.wrap r2) ≤ 127)) then (
      (Heap.append σ p1.b p1.o p1.n 1 1 [.int .u8 (IntKind.u8.wrap r2)] 1).bind fun q3 =>
      K (.slice q3.1.1 q3.1.2.1 q3.1.2.2 1) q3.2)
    else
    (w.unicode_utf8_appendRuneNonASCII p1 r2 σ).bind fun q4 =>
    K (.slice q4.1.b q4.1.o q4.1.n 1) q4.2 := by kernel_rfl
/-! json_Quote -/
noncomputable def json_Quote_L3 {R : Type} (w : C_json_Quote) (L fu0 : Nat) (out_1 : Sl) (s1 : ByteArray) (p_2 : Nat) (σ : Heap) (K : AVal → Heap → Option R) : Option R :=
  loopAt T (O_json_Quote w) L 1 15 Tryd.f15 [1, 1, 0, 1, 0] [] fu0
    ([.undef, .undef, .undef, .slice out_1.b out_1.o out_1.n 1] ++ List.replicate 4 .undef ++ [.lptr 8 0] ++ List.replicate 50 .undef)
    (List.replicate 8 .none ++ [.iter s1 p_2] ++ List.replicate 50 .none) σ K
set_option maxRecDepth 100000 in
theorem json_Quote_L3_eq {R : Type} (w : C_json_Quote) (L fu0 : Nat) (out_1 : Sl) (s1 : ByteArray) (p_2 : Nat) (σ : Heap) (K : AVal → Heap → Option R) :
    json_Quote_L3 w L (fu0 + 1) out_1 s1 p_2 σ K =
    bif (decide (p_2 < s1.size)) then (
      bif (((Utf8.decode s1 p_2).1 : Int) == 34) then (
        (Heap.append σ out_1.b out_1.o out_1.n 1 1 [.int .u8 92, .int .u8 (IntKind.u8.wrap ((Utf8.decode s1 p_2).1 : Int))] 2).bind fun q4 =>
        json_Quote_L3 w L fu0 ⟨q4.1.1, q4.1.2.1, q4.1.2.2⟩ s1 (p_2 + (Utf8.decode s1 p_2).2) q4.2 K)
      else
      bif (((Utf8.decode s1 p_2).1 : Int) == 92) then (
        (Heap.append σ out_1.b out_1.o out_1.n 1 1 [.int .u8 92, .int .u8 (IntKind.u8.wrap ((Utf8.decode s1 p_2).1 : Int))] 2).bind fun q5 =>
        json_Quote_L3 w L fu0 ⟨q5.1.1, q5.1.2.1, q5.1.2.2⟩ s1 (p_2 + (Utf8.decode s1 p_2).2) q5.2 K)
      else
      bif (((Utf8.decode s1 p_2).1 : Int) == 10) then (
        (Heap.append σ out_1.b out_1.o out_1.n 1 1 [.int .u8 92, .int .u8 110] 2).bind fun q6 =>
        json_Quote_L3 w L fu0 ⟨q6.1.1, q6.1.2.1, q6.1.2.2⟩ s1 (p_2 + (Utf8.decode s1 p_2).2) q6.2 K)
      else
      bif (((Utf8.decode s1 p_2).1 : Int) == 13) then (
        (Heap.append σ out_1.b out_1.o out_1.n 1 1 [.int .u8 92, .int .u8 114] 2).bind fun q7 =>
        json_Quote_L3 w L fu0 ⟨q7.1.1, q7.1.2.1, q7.1.2.2⟩ s1 (p_2 + (Utf8.decode s1 p_2).2) q7.2 K)
      else
      bif (decide (((Utf8.decode s1 p_2).1 : Int) < 32)) then (
        bif ((decide (0 ≤ (Int.fdiv ((Utf8.decode s1 p_2).1 : Int) (2 ^ 4)))) && (decide ((Int.fdiv ((Utf8.decode s1 p_2).1 : Int) (2 ^ 4)) < 16))) then (
          bif ((decide (0 ≤ (IntKind.i32.wrap (BitVec.ofInt IntKind.i32.bits ((Utf8.decode s1 p_2).1 : Int) &&& BitVec.ofInt IntKind.i32.bits 15).toNat))) && (decide ((IntKind.i32.wrap (BitVec.ofInt IntKind.i32.bits ((Utf8.decode s1 p_2).1 : Int) &&& BitVec.ofInt IntKind.i32.bits 15).toNat) < 16))) then (
            (Heap.append σ out_1.b out_1.o out_1.n 1 1 [.int .u8 92, .int .u8 117, .int .u8 48, .int .u8 48, .int .u8 (((⟨#[48, 49, 50, 51, 52, 53, 54, 55, 56, 57, 97, 98, 99, 100, 101, 102]⟩ : ByteArray).data.toList.getD ((Int.fdiv ((Utf8.decode s1 p_2).1 : Int) (2 ^ 4)).toNat) 0).toNat : Int), .int .u8 (((⟨#[48, 49, 50, 51, 52, 53, 54, 55, 56, 57, 97, 98, 99, 100, 101, 102]⟩ : ByteArray).data.toList.getD ((IntKind.i32.wrap (BitVec.ofInt IntKind.i32.bits ((Utf8.decode s1 p_2).1 : Int) &&& BitVec.ofInt IntKind.i32.bits 15).toNat).toNat) 0).toNat : Int)] 6).bind fun q8 =>
            json_Quote_L3 w L fu0 ⟨q8.1.1, q8.1.2.1, q8.1.2.2⟩ s1 (p_2 + (Utf8.decode s1 p_2).2) q8.2 K)
          else none)
        else none)
      else
      bif (((Utf8.decode s1 p_2).1 : Int) == 127) then (
        bif ((decide (0 ≤ (Int.fdiv ((Utf8.decode s1 p_2).1 : Int) (2 ^ 4)))) && (decide ((Int.fdiv ((Utf8.decode s1 p_2).1 : Int) (2 ^ 4)) < 16))) then (
          bif ((decide (0 ≤ (IntKind.i32.wrap (BitVec.ofInt IntKind.i32.bits ((Utf8.decode s1 p_2).1 : Int) &&& BitVec.ofInt IntKind.i32.bits 15).toNat))) && (decide ((IntKind.i32.wrap (BitVec.ofInt IntKind.i32.bits ((Utf8.decode s1 p_2).1 : Int) &&& BitVec.ofInt IntKind.i32.bits 15).toNat) < 16))) then (
            (Heap.append σ out_1.b out_1.o out_1.n 1 1 [.int .u8 92, .int .u8 117, .int .u8 48, .int .u8 48, .int .u8 (((⟨#[48, 49, 50, 51, 52, 53, 54, 55, 56, 57, 97, 98, 99, 100, 101, 102]⟩ : ByteArray).data.toList.getD ((Int.fdiv ((Utf8.decode s1 p_2).1 : Int) (2 ^ 4)).toNat) 0).toNat : Int), .int .u8 (((⟨#[48, 49, 50, 51, 52, 53, 54, 55, 56, 57, 97, 98, 99, 100, 101, 102]⟩ : ByteArray).data.toList.getD ((IntKind.i32.wrap (BitVec.ofInt IntKind.i32.bits ((Utf8.decode s1 p_2).1 : Int) &&& BitVec.ofInt IntKind.i32.bits 15).toNat).toNat) 0).toNat : Int)] 6).bind fun q9 =>
            json_Quote_L3 w L fu0 ⟨q9.1.1, q9.1.2.1, q9.1.2.2⟩ s1 (p_2 + (Utf8.decode s1 p_2).2) q9.2 K)
          else none)
        else none)
      else
      (w.unicode_utf8_AppendRune out_1 ((Utf8.decode s1 p_2).1 : Int) σ).bind fun q10 =>
      json_Quote_L3 w L fu0 q10.1 s1 (p_2 + (Utf8.decode s1 p_2).2) q10.2 K)
    else
    (Heap.append σ out_1.b out_1.o out_1.n 1 1 [.int .u8 34] 1).bind fun q11 =>
    (Heap.read q11.2 q11.1.1 q11.1.2.1 q11.1.2.2 1).bind fun cs12 =>
    (bytesOf cs12).bind fun bs13 =>
    K (.str (⟨bs13.toArray⟩ : ByteArray)) q11.2 := by kernel_rfl
set_option maxRecDepth 100000 in
theorem json_Quote_eq {R : Type} (w : C_json_Quote) (L : Nat) (s1 : ByteArray) (σ : Heap) (K : AVal → Heap → Option R) :
    callC T (O_json_Quote w) L 2 15 [.str s1] σ K =
    alloc σ [.int .u8 34] fun b2 σ3 =>
    json_Quote_L3 w L L ⟨(some b2), 0, 1⟩ s1 0 σ3 K := by kernel_rfl
/-! internal_strconv_small -/
set_option maxRecDepth 100000 in
theorem internal_strconv_small_eq {R : Type} (L : Nat) (i1 : Int) (σ : Heap) (K : AVal → Heap → Option R) :
    callC T known0 L 2 61 [.int .i64 i1] σ K =
    bif (decide (i1 < 10)) then (
      bif (((decide (0 ≤ i1)) && (decide (i1 ≤ (IntKind.i64.wrap (i1 + 1))))) && (decide ((IntKind.i64.wrap (i1 + 1)) ≤ 36))) then (
        K (.str ((⟨#[48, 49, 50, 51, 52, 53, 54, 55, 56, 57, 97, 98, 99, 100, 101, 102, 103, 104, 105, 106, 107, 108, 109, 110, 111, 112, 113, 114, 115, 116, 117, 118, 119, 120, 121, 122]⟩ : ByteArray).extract i1.toNat (IntKind.i64.wrap (i1 + 1)).toNat)) σ)
      else
      none)
    else
    bif (((decide (0 ≤ (IntKind.i64.wrap (i1 * 2)))) && (decide ((IntKind.i64.wrap (i1 * 2)) ≤ (IntKind.i64.wrap ((IntKind.i64.wrap (i1 * 2)) + 2))))) && (decide ((IntKind.i64.wrap ((IntKind.i64.wrap (i1 * 2)) + 2)) ≤ 200))) then (
      K (.str ((⟨#[48, 48, 48, 49, 48, 50, 48, 51, 48, 52, 48, 53, 48, 54, 48, 55, 48, 56, 48, 57, 49, 48, 49, 49, 49, 50, 49, 51, 49, 52, 49, 53, 49, 54, 49, 55, 49, 56, 49, 57, 50, 48, 50, 49, 50, 50, 50, 51, 50, 52, 50, 53, 50, 54, 50, 55, 50, 56, 50, 57, 51, 48, 51, 49, 51, 50, 51, 51, 51, 52, 51, 53, 51, 54, 51, 55, 51, 56, 51, 57, 52, 48, 52, 49, 52, 50, 52, 51, 52, 52, 52, 53, 52, 54, 52, 55, 52, 56, 52, 57, 53, 48, 53, 49, 53, 50, 53, 51, 53, 52, 53, 53, 53, 54, 53, 55, 53, 56, 53, 57, 54, 48, 54, 49, 54, 50, 54, 51, 54, 52, 54, 53, 54, 54, 54, 55, 54, 56, 54, 57, 55, 48, 55, 49, 55, 50, 55, 51, 55, 52, 55, 53, 55, 54, 55, 55, 55, 56, 55, 57, 56, 48, 56, 49, 56, 50, 56, 51, 56, 52, 56, 53, 56, 54, 56, 55, 56, 56, 56, 57, 57, 48, 57, 49, 57, 50, 57, 51, 57, 52, 57, 53, 57, 54, 57, 55, 57, 56, 57, 57]⟩ : ByteArray).extract (IntKind.i64.wrap (i1 * 2)).toNat (IntKind.i64.wrap ((IntKind.i64.wrap (i1 * 2)) + 2)).toNat)) σ)
    else
    none := by kernel_rfl
/-! internal_strconv_log10Pow2 -/
set_option maxRecDepth 100000 in
theorem internal_strconv_log10Pow2_eq {R : Type} (L : Nat) (x1 : Int) (σ : Heap) (K : AVal → Heap → Option R) :
    callC T known0 L 2 69 [.int .i64 x1] σ K =
    K (.int .i64 (Int.fdiv (IntKind.i64.wrap (x1 * 78913)) (2 ^ 18))) σ := by kernel_rfl
/-! math_bits_Len64 -/
set_option maxRecDepth 100000 in
theorem math_bits_Len64_eq {R : Type} (L : Nat) (x1 : Int) (σ : Heap) (K : AVal → Heap → Option R) :
    callC T known0 L 2 70 [.int .u64 x1] σ K =
    bif (decide (x1 ≥ 4294967296)) then (
      bif (decide ((Int.fdiv x1 (2 ^ 32)) ≥ 65536)) then (
        bif (decide ((Int.fdiv (Int.fdiv x1 (2 ^ 32)) (2 ^ 16)) ≥ 256)) then (
          bif ((decide (0 ≤ (IntKind.u8.wrap (Int.fdiv (Int.fdiv (Int.fdiv x1 (2 ^ 32)) (2 ^ 16)) (2 ^ 8))))) && (decide ((IntKind.u8.wrap (Int.fdiv (Int.fdiv (Int.fdiv x1 (2 ^ 32)) (2 ^ 16)) (2 ^ 8))) < 256))) then (
            K (.int .i64 (IntKind.i64.wrap (56 + (IntKind.i64.wrap (((⟨#[0, 1, 2, 2, 3, 3, 3, 3, 4, 4, 4, 4, 4, 4, 4, 4, 5, 5, 5, 5, 5, 5, 5, 5, 5, 5, 5, 5, 5, 5, 5, 5, 6, 6, 6, 6, 6, 6, 6, 6, 6, 6, 6, 6, 6, 6, 6, 6, 6, 6, 6, 6, 6, 6, 6, 6, 6, 6, 6, 6, 6, 6, 6, 6, 7, 7, 7, 7, 7, 7, 7, 7, 7, 7, 7, 7, 7, 7, 7, 7, 7, 7, 7, 7, 7, 7, 7, 7, 7, 7, 7, 7, 7, 7, 7, 7, 7, 7, 7, 7, 7, 7, 7, 7, 7, 7, 7, 7, 7, 7, 7, 7, 7, 7, 7, 7, 7, 7, 7, 7, 7, 7, 7, 7, 7, 7, 7, 7, 8, 8, 8, 8, 8, 8, 8, 8, 8, 8, 8, 8, 8, 8, 8, 8, 8, 8, 8, 8, 8, 8, 8, 8, 8, 8, 8, 8, 8, 8, 8, 8, 8, 8, 8, 8, 8, 8, 8, 8, 8, 8, 8, 8, 8, 8, 8, 8, 8, 8, 8, 8, 8, 8, 8, 8, 8, 8, 8, 8, 8, 8, 8, 8, 8, 8, 8, 8, 8, 8, 8, 8, 8, 8, 8, 8, 8, 8, 8, 8, 8, 8, 8, 8, 8, 8, 8, 8, 8, 8, 8, 8, 8, 8, 8, 8, 8, 8, 8, 8, 8, 8, 8, 8, 8, 8, 8, 8, 8, 8, 8, 8, 8, 8, 8, 8, 8, 8, 8, 8, 8, 8, 8, 8, 8, 8, 8, 8]⟩ : ByteArray).data.toList.getD ((IntKind.u8.wrap (Int.fdiv (Int.fdiv (Int.fdiv x1 (2 ^ 32)) (2 ^ 16)) (2 ^ 8))).toNat) 0).toNat : Int))))) σ)
          else
          none)
        else
        bif ((decide (0 ≤ (IntKind.u8.wrap (Int.fdiv (Int.fdiv x1 (2 ^ 32)) (2 ^ 16))))) && (decide ((IntKind.u8.wrap (Int.fdiv (Int.fdiv x1 (2 ^ 32)) (2 ^ 16))) < 256))) then (
          K (.int .i64 (IntKind.i64.wrap (48 + (IntKind.i64.wrap (((⟨#[0, 1, 2, 2, 3, 3, 3, 3, 4, 4, 4, 4, 4, 4, 4, 4, 5, 5, 5, 5, 5, 5, 5, 5, 5, 5, 5, 5, 5, 5, 5, 5, 6, 6, 6, 6, 6, 6, 6, 6, 6, 6, 6, 6, 6, 6, 6, 6, 6, 6, 6, 6, 6, 6, 6, 6, 6, 6, 6, 6, 6, 6, 6, 6, 7, 7, 7, 7, 7, 7, 7, 7, 7, 7, 7, 7, 7, 7, 7, 7, 7, 7, 7, 7, 7, 7, 7, 7, 7, 7, 7, 7, 7, 7, 7, 7, 7, 7, 7, 7, 7, 7, 7, 7, 7, 7, 7, 7, 7, 7, 7, 7, 7, 7, 7, 7, 7, 7, 7, 7, 7, 7, 7, 7, 7, 7, 7, 7, 8, 8, 8, 8, 8, 8, 8, 8, 8, 8, 8, 8, 8, 8, 8, 8, 8, 8, 8, 8, 8, 8, 8, 8, 8, 8, 8, 8, 8, 8, 8, 8, 8, 8, 8, 8, 8, 8, 8, 8, 8, 8, 8, 8, 8, 8, 8, 8, 8, 8, 8, 8, 8, 8, 8, 8, 8, 8, 8, 8, 8, 8, 8, 8, 8, 8, 8, 8, 8, 8, 8, 8, 8, 8, 8, 8, 8, 8, 8, 8, 8, 8, 8, 8, 8, 8, 8, 8, 8, 8, 8, 8, 8, 8, 8, 8, 8, 8, 8, 8, 8, 8, 8, 8, 8, 8, 8, 8, 8, 8, 8, 8, 8, 8, 8, 8, 8, 8, 8, 8, 8, 8, 8, 8, 8, 8, 8, 8]⟩ : ByteArray).data.toList.getD ((IntKind.u8.wrap (Int.fdiv (Int.fdiv x1 (2 ^ 32)) (2 ^ 16))).toNat) 0).toNat : Int))))) σ)
        else
        none)
      else
      bif (decide ((Int.fdiv x1 (2 ^ 32)) ≥ 256)) then (
        bif ((decide (0 ≤ (IntKind.u8.wrap (Int.fdiv (Int.fdiv x1 (2 ^ 32)) (2 ^ 8))))) && (decide ((IntKind.u8.wrap (Int.fdiv (Int.fdiv x1 (2 ^ 32)) (2 ^ 8))) < 256))) then (
          K (.int .i64 (IntKind.i64.wrap (40 + (IntKind.i64.wrap (((⟨#[0, 1, 2, 2, 3, 3, 3, 3, 4, 4, 4, 4, 4, 4, 4, 4, 5, 5, 5, 5, 5, 5, 5, 5, 5, 5, 5, 5, 5, 5, 5, 5, 6, 6, 6, 6, 6, 6, 6, 6, 6, 6, 6, 6, 6, 6, 6, 6, 6, 6, 6, 6, 6, 6, 6, 6, 6, 6, 6, 6, 6, 6, 6, 6, 7, 7, 7, 7, 7, 7, 7, 7, 7, 7, 7, 7, 7, 7, 7, 7, 7, 7, 7, 7, 7, 7, 7, 7, 7, 7, 7, 7, 7, 7, 7, 7, 7, 7, 7, 7, 7, 7, 7, 7, 7, 7, 7, 7, 7, 7, 7, 7, 7, 7, 7, 7, 7, 7, 7, 7, 7, 7, 7, 7, 7, 7, 7, 7, 8, 8, 8, 8, 8, 8, 8, 8, 8, 8, 8, 8, 8, 8, 8, 8, 8, 8, 8, 8, 8, 8, 8, 8, 8, 8, 8, 8, 8, 8, 8, 8, 8, 8, 8, 8, 8, 8, 8, 8, 8, 8, 8, 8, 8, 8, 8, 8, 8, 8, 8, 8, 8, 8, 8, 8, 8, 8, 8, 8, 8, 8, 8, 8, 8, 8, 8, 8, 8, 8, 8, 8, 8, 8, 8, 8, 8, 8, 8, 8, 8, 8, 8, 8, 8, 8, 8, 8, 8, 8, 8, 8, 8, 8, 8, 8, 8, 8, 8, 8, 8, 8, 8, 8, 8, 8, 8, 8, 8, 8, 8, 8, 8, 8, 8, 8, 8, 8, 8, 8, 8, 8, 8, 8, 8, 8, 8, 8]⟩ : ByteArray).data.toList.getD ((IntKind.u8.wrap (Int.fdiv (Int.fdiv x1 (2 ^ 32)) (2 ^ 8))).toNat) 0).toNat : Int))))) σ)
        else
        none)
      else
      bif ((decide (0 ≤ (IntKind.u8.wrap (Int.fdiv x1 (2 ^ 32))))) && (decide ((IntKind.u8.wrap (Int.fdiv x1 (2 ^ 32))) < 256))) then (
        K (.int .i64 (IntKind.i64.wrap (32 + (IntKind.i64.wrap (((⟨#[0, 1, 2, 2, 3, 3, 3, 3, 4, 4, 4, 4, 4, 4, 4, 4, 5, 5, 5, 5, 5, 5, 5, 5, 5, 5, 5, 5, 5, 5, 5, 5, 6, 6, 6, 6, 6, 6, 6, 6, 6, 6, 6, 6, 6, 6, 6, 6, 6, 6, 6, 6, 6, 6, 6, 6, 6, 6, 6, 6, 6, 6, 6, 6, 7, 7, 7, 7, 7, 7, 7, 7, 7, 7, 7, 7, 7, 7, 7, 7, 7, 7, 7, 7, 7, 7, 7, 7, 7, 7, 7, 7, 7, 7, 7, 7, 7, 7, 7, 7, 7, 7, 7, 7, 7, 7, 7, 7, 7, 7, 7, 7, 7, 7, 7, 7, 7, 7, 7, 7, 7, 7, 7, 7, 7, 7, 7, 7, 8, 8, 8, 8, 8, 8, 8, 8, 8, 8, 8, 8, 8, 8, 8, 8, 8, 8, 8, 8, 8, 8, 8, 8, 8, 8, 8, 8, 8, 8, 8, 8, 8, 8, 8, 8, 8, 8, 8, 8, 8, 8, 8, 8, 8, 8, 8, 8, 8, 8, 8, 8, 8, 8, 8, 8, 8, 8, 8, 8, 8, 8, 8, 8, 8, 8, 8, 8, 8, 8, 8, 8, 8, 8, 8, 8, 8, 8, 8, 8, 8, 8, 8, 8, 8, 8, 8, 8, 8, 8, 8, 8, 8, 8, 8, 8, 8, 8, 8, 8, 8, 8, 8, 8, 8, 8, 8, 8, 8, 8, 8, 8, 8, 8, 8, 8, 8, 8, 8, 8, 8, 8, 8, 8, 8, 8, 8, 8]⟩ : ByteArray).data.toList.getD ((IntKind.u8.wrap (Int.fdiv x1 (2 ^ 32))).toNat) 0).toNat : Int))))) σ)
      else
      none)
    else
    bif (decide (x1 ≥ 65536)) then (
      bif (decide ((Int.fdiv x1 (2 ^ 16)) ≥ 256)) then (
        bif ((decide (0 ≤ (IntKind.u8.wrap (Int.fdiv (Int.fdiv x1 (2 ^ 16)) (2 ^ 8))))) && (decide ((IntKind.u8.wrap (Int.fdiv (Int.fdiv x1 (2 ^ 16)) (2 ^ 8))) < 256))) then (
          K (.int .i64 (IntKind.i64.wrap (24 + (IntKind.i64.wrap (((⟨#[0, 1, 2, 2, 3, 3, 3, 3, 4, 4, 4, 4, 4, 4, 4, 4, 5, 5, 5, 5, 5, 5, 5, 5, 5, 5, 5, 5, 5, 5, 5, 5, 6, 6, 6, 6, 6, 6, 6, 6, 6, 6, 6, 6, 6, 6, 6, 6, 6, 6, 6, 6, 6, 6, 6, 6, 6, 6, 6, 6, 6, 6, 6, 6, 7, 7, 7, 7, 7, 7, 7, 7, 7, 7, 7, 7, 7, 7, 7, 7, 7, 7, 7, 7, 7, 7, 7, 7, 7, 7, 7, 7, 7, 7, 7, 7, 7, 7, 7, 7, 7, 7, 7, 7, 7, 7, 7, 7, 7, 7, 7, 7, 7, 7, 7, 7, 7, 7, 7, 7, 7, 7, 7, 7, 7, 7, 7, 7, 8, 8, 8, 8, 8, 8, 8, 8, 8, 8, 8, 8, 8, 8, 8, 8, 8, 8, 8, 8, 8, 8, 8, 8, 8, 8, 8, 8, 8, 8, 8, 8, 8, 8, 8, 8, 8, 8, 8, 8, 8, 8, 8, 8, 8, 8, 8, 8, 8, 8, 8, 8, 8, 8, 8, 8, 8, 8, 8, 8, 8, 8, 8, 8, 8, 8, 8, 8, 8, 8, 8, 8, 8, 8, 8, 8, 8, 8, 8, 8, 8, 8, 8, 8, 8, 8, 8, 8, 8, 8, 8, 8, 8, 8, 8, 8, 8, 8, 8, 8, 8, 8, 8, 8, 8, 8, 8, 8, 8, 8, 8, 8, 8, 8, 8, 8, 8, 8, 8, 8, 8, 8, 8, 8, 8, 8, 8, 8]⟩ : ByteArray).data.toList.getD ((IntKind.u8.wrap (Int.fdiv (Int.fdiv x1 (2 ^ 16)) (2 ^ 8))).toNat) 0).toNat : Int))))) σ)
        else
        none)
      else
      bif ((decide (0 ≤ (IntKind.u8.wrap (Int.fdiv x1 (2 ^ 16))))) && (decide ((IntKind.u8.wrap (Int.fdiv x1 (2 ^ 16))) < 256))) then (
        K (.int .i64 (IntKind.i64.wrap (16 + (IntKind.i64.wrap (((⟨#[0, 1, 2, 2, 3, 3, 3, 3, 4, 4, 4, 4, 4, 4, 4, 4, 5, 5, 5, 5, 5, 5, 5, 5, 5, 5, 5, 5, 5, 5, 5, 5, 6, 6, 6, 6, 6, 6, 6, 6, 6, 6, 6, 6, 6, 6, 6, 6, 6, 6, 6, 6, 6, 6, 6, 6, 6, 6, 6, 6, 6, 6, 6, 6, 7, 7, 7, 7, 7, 7, 7, 7, 7, 7, 7, 7, 7, 7, 7, 7, 7, 7, 7, 7, 7, 7, 7, 7, 7, 7, 7, 7, 7, 7, 7, 7, 7, 7, 7, 7, 7, 7, 7, 7, 7, 7, 7, 7, 7, 7, 7, 7, 7, 7, 7, 7, 7, 7, 7, 7, 7, 7, 7, 7, 7, 7, 7, 7, 8, 8, 8, 8, 8, 8, 8, 8, 8, 8, 8, 8, 8, 8, 8, 8, 8, 8, 8, 8, 8, 8, 8, 8, 8, 8, 8, 8, 8, 8, 8, 8, 8, 8, 8, 8, 8, 8, 8, 8, 8, 8, 8, 8, 8, 8, 8, 8, 8, 8, 8, 8, 8, 8, 8, 8, 8, 8, 8, 8, 8, 8, 8, 8, 8, 8, 8, 8, 8, 8, 8, 8, 8, 8, 8, 8, 8, 8, 8, 8, 8, 8, 8, 8, 8, 8, 8, 8, 8, 8, 8, 8, 8, 8, 8, 8, 8, 8, 8, 8, 8, 8, 8, 8, 8, 8, 8, 8, 8, 8, 8, 8, 8, 8, 8, 8, 8, 8, 8, 8, 8, 8, 8, 8, 8, 8, 8, 8]⟩ : ByteArray).data.toList.getD ((IntKind.u8.wrap (Int.fdiv x1 (2 ^ 16))).toNat) 0).toNat : Int))))) σ)
      else
      none)
    else
    bif (decide (x1 ≥ 256)) then (
      bif ((decide (0 ≤ (IntKind.u8.wrap (Int.fdiv x1 (2 ^ 8))))) && (decide ((IntKind.u8.wrap (Int.fdiv x1 (2 ^ 8))) < 256))) then (
        K (.int .i64 (IntKind.i64.wrap (8 + (IntKind.i64.wrap (((⟨#[0, 1, 2, 2, 3, 3, 3, 3, 4, 4, 4, 4, 4, 4, 4, 4, 5, 5, 5, 5, 5, 5, 5, 5, 5, 5, 5, 5, 5, 5, 5, 5, 6, 6, 6, 6, 6, 6, 6, 6, 6, 6, 6, 6, 6, 6, 6, 6, 6, 6, 6, 6, 6, 6, 6, 6, 6, 6, 6, 6, 6, 6, 6, 6, 7, 7, 7, 7, 7, 7, 7, 7, 7, 7, 7, 7, 7, 7, 7, 7, 7, 7, 7, 7, 7, 7, 7, 7, 7, 7, 7, 7, 7, 7, 7, 7, 7, 7, 7, 7, 7, 7, 7, 7, 7, 7, 7, 7, 7, 7, 7, 7, 7, 7, 7, 7, 7, 7, 7, 7, 7, 7, 7, 7, 7, 7, 7, 7, 8, 8, 8, 8, 8, 8, 8, 8, 8, 8, 8, 8, 8, 8, 8, 8, 8, 8, 8, 8, 8, 8, 8, 8, 8, 8, 8, 8, 8, 8, 8, 8, 8, 8, 8, 8, 8, 8, 8, 8, 8, 8, 8, 8, 8, 8, 8, 8, 8, 8, 8, 8, 8, 8, 8, 8, 8, 8, 8, 8, 8, 8, 8, 8, 8, 8, 8, 8, 8, 8, 8, 8, 8, 8, 8, 8, 8, 8, 8, 8, 8, 8, 8, 8, 8, 8, 8, 8, 8, 8, 8, 8, 8, 8, 8, 8, 8, 8, 8, 8, 8, 8, 8, 8, 8, 8, 8, 8, 8, 8, 8, 8, 8, 8, 8, 8, 8, 8, 8, 8, 8, 8, 8, 8, 8, 8, 8, 8]⟩ : ByteArray).data.toList.getD ((IntKind.u8.wrap (Int.fdiv x1 (2 ^ 8))).toNat) 0).toNat : Int))))) σ)
      else
      none)
    else
    bif ((decide (0 ≤ (IntKind.u8.wrap x1))) && (decide ((IntKind.u8.wrap x1) < 256))) then (
      K (.int .i64 (IntKind.i64.wrap (0 + (IntKind.i64.wrap (((⟨#[0, 1, 2, 2, 3, 3, 3, 3, 4, 4, 4, 4, 4, 4, 4, 4, 5, 5, 5, 5, 5, 5, 5, 5, 5, 5, 5, 5, 5, 5, 5, 5, 6, 6, 6, 6, 6, 6, 6, 6, 6, 6, 6, 6, 6, 6, 6, 6, 6, 6, 6, 6, 6, 6, 6, 6, 6, 6, 6, 6, 6, 6, 6, 6, 7, 7, 7, 7, 7, 7, 7, 7, 7, 7, 7, 7, 7, 7, 7, 7, 7, 7, 7, 7, 7, 7, 7, 7, 7, 7, 7, 7, 7, 7, 7, 7, 7, 7, 7, 7, 7, 7, 7, 7, 7, 7, 7, 7, 7, 7, 7, 7, 7, 7, 7, 7, 7, 7, 7, 7, 7, 7, 7, 7, 7, 7, 7, 7, 8, 8, 8, 8, 8, 8, 8, 8, 8, 8, 8, 8, 8, 8, 8, 8, 8, 8, 8, 8, 8, 8, 8, 8, 8, 8, 8, 8, 8, 8, 8, 8, 8, 8, 8, 8, 8, 8, 8, 8, 8, 8, 8, 8, 8, 8, 8, 8, 8, 8, 8, 8, 8, 8, 8, 8, 8, 8, 8, 8, 8, 8, 8, 8, 8, 8, 8, 8, 8, 8, 8, 8, 8, 8, 8, 8, 8, 8, 8, 8, 8, 8, 8, 8, 8, 8, 8, 8, 8, 8, 8, 8, 8, 8, 8, 8, 8, 8, 8, 8, 8, 8, 8, 8, 8, 8, 8, 8, 8, 8, 8, 8, 8, 8, 8, 8, 8, 8, 8, 8, 8, 8, 8, 8, 8, 8, 8, 8]⟩ : ByteArray).data.toList.getD ((IntKind.u8.wrap x1).toNat) 0).toNat : Int))))) σ)
    else
    none := by kernel_rfl
/-! internal_strconv_bool2 -/
set_option maxRecDepth 100000 in
theorem internal_strconv_bool2_eq {R : Type} (L : Nat) (b1 : Bool) (σ : Heap) (K : AVal → Heap → Option R) :
    callC T known0 L 2 71 [.bool b1] σ K =
    bif b1 then (
      K (.int .i64 1) σ)
    else
    K (.int .i64 0) σ := by kernel_rfl
/-! internal_strconv_numDigits -/
set_option maxRecDepth 100000 in
theorem internal_strconv_numDigits_eq {R : Type} (w : C_internal_strconv_numDigits) (L : Nat) (d1 : Int) (σ : Heap) (K : AVal → Heap → Option R) :
    callC T (O_internal_strconv_numDigits w) L 2 62 [.int .u64 d1] σ K =
    (w.math_bits_Len64 d1 σ).bind fun q2 =>
    (w.internal_strconv_log10Pow2 q2.1 q2.2).bind fun q3 =>
    bif ((decide (0 ≤ q3.1)) && (decide (q3.1 < 20))) then (
      (int? (Heap.cell? q3.2 4 (0 + q3.1.toNat * 1)) .u64).bind fun x4 =>
      (w.internal_strconv_bool2 (decide (d1 ≥ x4)) q3.2).bind fun q5 =>
      K (.int .i64 (IntKind.i64.wrap (q3.1 + q5.1))) q5.2)
    else none := by kernel_rfl
end Go.Abs.TB
