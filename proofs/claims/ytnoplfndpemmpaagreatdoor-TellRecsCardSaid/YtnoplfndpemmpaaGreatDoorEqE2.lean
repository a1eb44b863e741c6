/-
Lifted functions: what the machine does, one equation for each entry and each loop (printed by lift.py).
-/
import Derived.Test.YtnoplfndpemmpaaGreatDoorSigE
namespace Go.Abs.TE
open Go Go.Abs Go.Proofs
/-! strings_Builder_WriteString -/
set_option maxRecDepth 100000 in
theorem strings_Builder_WriteString_eq {R : Type} (w : C_strings_Builder_WriteString) (L : Nat) (b1 : Pt) (s2 : ByteArray) (σ : Heap) (K : AVal → Heap → Option R) :
    callC T (O_strings_Builder_WriteString w) L 2 58 [.ptr b1, .str s2] σ K =
    (w.strings_Builder_copyCheck b1 σ).bind fun q3 =>
    (b1).bind fun q4 =>
    (slice? (Heap.cell? q3.2 q4.1 (q4.2 + 1)) 1).bind fun x5 =>
    (Heap.appendT q3.2 x5.1 x5.2.1 x5.2.2 1 1 ((s2.data.toList.map fun b => AVal.int .u8 b.toNat).take s2.size) s2.size 5).bind fun q6 =>
    (b1).bind fun q7 =>
    (Heap.store q6.2 q7.1 (q7.2 + 1) [.slice q6.1.1 q6.1.2.1 q6.1.2.2 1]).bind fun σ8 =>
    K (.tuple [.int .i64 (s2.size : Int), .niliface]) σ8 := by kernel_rfl
/-! strings_Builder_String -/
set_option maxRecDepth 100000 in
theorem strings_Builder_String_eq {R : Type} (L : Nat) (b1 : Pt) (σ : Heap) (K : AVal → Heap → Option R) :
    callC T known0 L 2 59 [.ptr b1] σ K =
    (b1).bind fun q2 =>
    (slice? (Heap.cell? σ q2.1 (q2.2 + 1)) 1).bind fun x3 =>
    (sliceData x3.1 x3.2.1 x3.2.2).bind fun p4 =>
    (b1).bind fun q5 =>
    (slice? (Heap.cell? σ q5.1 (q5.2 + 1)) 1).bind fun x6 =>
    (Heap.textOf σ p4 (x6.2.2 : Int) 5).bind fun q7 =>
    K (.str q7.1) q7.2 := by kernel_rfl
/-! unicode_utf8_appendRuneNonASCII -/
set_option maxRecDepth 100000 in
theorem unicode_utf8_appendRuneNonASCII_eq {R : Type} (L : Nat) (p1 : Sl) (r2 : Int) (σ : Heap) (K : AVal → Heap → Option R) :
    callC T known0 L 2 97 [.slice p1.b p1.o p1.n 1, .int .i32 r2] σ K =
    bif (decide ((IntKind.u32.wrap r2) ≤ 2047)) then (
      (Heap.append σ p1.b p1.o p1.n 1 1 [.int .u8 (IntKind.u8.wrap (BitVec.ofInt IntKind.u8.bits 192 ||| BitVec.ofInt IntKind.u8.bits (IntKind.u8.wrap (Int.fdiv r2 (2 ^ 6)))).toNat), .int .u8 (IntKind.u8.wrap (BitVec.ofInt IntKind.u8.bits 128 ||| BitVec.ofInt IntKind.u8.bits (IntKind.u8.wrap (BitVec.ofInt IntKind.u8.bits (IntKind.u8.wrap r2) &&& BitVec.ofInt IntKind.u8.bits 63).toNat)).toNat)] 2).bind fun q3 =>
      K (.slice q3.1.1 q3.1.2.1 q3.1.2.2 1) q3.2)
    else
    bif (decide ((IntKind.u32.wrap r2) < 55296)) then (
      bif (decide ((IntKind.u32.wrap r2) < 55296)) then (
        (Heap.append σ p1.b p1.o p1.n 1 1 [.int .u8 (IntKind.u8.wrap (BitVec.ofInt IntKind.u8.bits 224 ||| BitVec.ofInt IntKind.u8.bits (IntKind.u8.wrap (Int.fdiv r2 (2 ^ 12)))).toNat), .int .u8 (IntKind.u8.wrap (BitVec.ofInt IntKind.u8.bits 128 ||| BitVec.ofInt IntKind.u8.bits (IntKind.u8.wrap (BitVec.ofInt IntKind.u8.bits (IntKind.u8.wrap (Int.fdiv r2 (2 ^ 6))) &&& BitVec.ofInt IntKind.u8.bits 63).toNat)).toNat), .int .u8 (IntKind.u8.wrap (BitVec.ofInt IntKind.u8.bits 128 ||| BitVec.ofInt IntKind.u8.bits (IntKind.u8.wrap (BitVec.ofInt IntKind.u8.bits (IntKind.u8.wrap r2) &&& BitVec.ofInt IntKind.u8.bits 63).toNat)).toNat)] 3).bind fun q4 =>
        K (.slice q4.1.1 q4.1.2.1 q4.1.2.2 1) q4.2)
      else
      bif (decide ((IntKind.u32.wrap r2) > 65535)) then (
        bif (decide ((IntKind.u32.wrap r2) ≤ 1114111)) then (
          (Heap.append σ p1.b p1.o p1.n 1 1 [.int .u8 (IntKind.u8.wrap (BitVec.ofInt IntKind.u8.bits 240 ||| BitVec.ofInt IntKind.u8.bits (IntKind.u8.wrap (Int.fdiv r2 (2 ^ 18)))).toNat), .int .u8 (IntKind.u8.wrap (BitVec.ofInt IntKind.u8.bits 128 ||| BitVec.ofInt IntKind.u8.bits (IntKind.u8.wrap (BitVec.ofInt IntKind.u8.bits (IntKind.u8.wrap (Int.fdiv r2 (2 ^ 12))) &&& BitVec.ofInt IntKind.u8.bits 63).toNat)).toNat), .int .u8 (IntKind.u8.wrap (BitVec.ofInt IntKind.u8.bits 128 ||| BitVec.ofInt IntKind.u8.bits (IntKind.u8.wrap (BitVec.ofInt IntKind.u8.bits (IntKind.u8.wrap (Int.fdiv r2 (2 ^ 6))) &&& BitVec.ofInt IntKind.u8.bits 63).toNat)).toNat), .int .u8 (IntKind.u8.wrap (BitVec.ofInt IntKind.u8.bits 128 ||| BitVec.ofInt IntKind.u8.bits (IntKind.u8.wrap (BitVec.ofInt IntKind.u8.bits (IntKind.u8.wrap r2) &&& BitVec.ofInt IntKind.u8.bits 63).toNat)).toNat)] 4).bind fun q5 =>
          K (.slice q5.1.1 q5.1.2.1 q5.1.2.2 1) q5.2)
        else
        (Heap.append σ p1.b p1.o p1.n 1 1 [.int .u8 239, .int .u8 191, .int .u8 189] 3).bind fun q6 =>
        K (.slice q6.1.1 q6.1.2.1 q6.1.2.2 1) q6.2)
      else
      (Heap.append σ p1.b p1.o p1.n 1 1 [.int .u8 239, .int .u8 191, .int .u8 189] 3).bind fun q7 =>
      K (.slice q7.1.1 q7.1.2.1 q7.1.2.2 1) q7.2)
    else
    bif (decide (57343 < (IntKind.u32.wrap r2))) then (
      bif (decide ((IntKind.u32.wrap r2) ≤ 65535)) then (
        (Heap.append σ p1.b p1.o p1.n 1 1 [.int .u8 (IntKind.u8.wrap (BitVec.ofInt IntKind.u8.bits 224 ||| BitVec.ofInt IntKind.u8.bits (IntKind.u8.wrap (Int.fdiv r2 (2 ^ 12)))).toNat), .int .u8 (IntKind.u8.wrap (BitVec.ofInt IntKind.u8.bits 128 ||| BitVec.ofInt IntKind.u8.bits (IntKind.u8.wrap (BitVec.ofInt IntKind.u8.bits (IntKind.u8.wrap (Int.fdiv r2 (2 ^ 6))) &&& BitVec.ofInt IntKind.u8.bits 63).toNat)).toNat), .int .u8 (IntKind.u8.wrap (BitVec.ofInt IntKind.u8.bits 128 ||| BitVec.ofInt IntKind.u8.bits (IntKind.u8.wrap (BitVec.ofInt IntKind.u8.bits (IntKind.u8.wrap r2) &&& BitVec.ofInt IntKind.u8.bits 63).toNat)).toNat)] 3).bind fun q8 =>
        K (.slice q8.1.1 q8.1.2.1 q8.1.2.2 1) q8.2)
      else
      bif (decide ((IntKind.u32.wrap r2) > 65535)) then (
        bif (decide ((IntKind.u32.wrap r2) ≤ 1114111)) then (
          (Heap.append σ p1.b p1.o p1.n 1 1 [.int .u8 (IntKind.u8.wrap (BitVec.ofInt IntKind.u8.bits 240 ||| BitVec.ofInt IntKind.u8.bits (IntKind.u8.wrap (Int.fdiv r2 (2 ^ 18)))).toNat), .int .u8 (IntKind.u8.wrap (BitVec.ofInt IntKind.u8.bits 128 ||| BitVec.ofInt IntKind.u8.bits (IntKind.u8.wrap (BitVec.ofInt IntKind.u8.bits (IntKind.u8.wrap (Int.fdiv r2 (2 ^ 12))) &&& BitVec.ofInt IntKind.u8.bits 63).toNat)).toNat), .int .u8 (IntKind.u8.wrap (BitVec.ofInt IntKind.u8.bits 128 ||| BitVec.ofInt IntKind.u8.bits (IntKind.u8.wrap (BitVec.ofInt IntKind.u8.bits (IntKind.u8.wrap (Int.fdiv r2 (2 ^ 6))) &&& BitVec.ofInt IntKind.u8.bits 63).toNat)).toNat), .int .u8 (IntKind.u8.wrap (BitVec.ofInt IntKind.u8.bits 128 ||| BitVec.ofInt IntKind.u8.bits (IntKind.u8.wrap (BitVec.ofInt IntKind.u8.bits (IntKind.u8.wrap r2) &&& BitVec.ofInt IntKind.u8.bits 63).toNat)).toNat)] 4).bind fun q9 =>
          K (.slice q9.1.1 q9.1.2.1 q9.1.2.2 1) q9.2)
        else
        (Heap.append σ p1.b p1.o p1.n 1 1 [.int .u8 239, .int .u8 191, .int .u8 189] 3).bind fun q10 =>
        K (.slice q10.1.1 q10.1.2.1 q10.1.2.2 1) q10.2)
      else
      (Heap.append σ p1.b p1.o p1.n 1 1 [.int .u8 239, .int .u8 191, .int .u8 189] 3).bind fun q11 =>
      K (.slice q11.1.1 q11.1.2.1 q11.1.2.2 1) q11.2)
    else
    bif (decide ((IntKind.u32.wrap r2) > 65535)) then (
      bif (decide ((IntKind.u32.wrap r2) ≤ 1114111)) then (
        (Heap.append σ p1.b p1.o p1.n 1 1 [.int .u8 (IntKind.u8.wrap (BitVec.ofInt IntKind.u8.bits 240 ||| BitVec.ofInt IntKind.u8.bits (IntKind.u8.wrap (Int.fdiv r2 (2 ^ 18)))).toNat), .int .u8 (IntKind.u8.wrap (BitVec.ofInt IntKind.u8.bits 128 ||| BitVec.ofInt IntKind.u8.bits (IntKind.u8.wrap (BitVec.ofInt IntKind.u8.bits (IntKind.u8.wrap (Int.fdiv r2 (2 ^ 12))) &&& BitVec.ofInt IntKind.u8.bits 63).toNat)).toNat), .int .u8 (IntKind.u8.wrap (BitVec.ofInt IntKind.u8.bits 128 ||| BitVec.ofInt IntKind.u8.bits (IntKind.u8.wrap (BitVec.ofInt IntKind.u8.bits (IntKind.u8.wrap (Int.fdiv r2 (2 ^ 6))) &&& BitVec.ofInt IntKind.u8.bits 63).toNat)).toNat), .int .u8 (IntKind.u8.wrap (BitVec.ofInt IntKind.u8.bits 128 ||| BitVec.ofInt IntKind.u8.bits (IntKind.u8.wrap (BitVec.ofInt IntKind.u8.bits (IntKind.u8.wrap r2) &&& BitVec.ofInt IntKind.u8.bits 63).toNat)).toNat)] 4).bind fun q12 =>
        K (.slice q12.1.1 q12.1.2.1 q12.1.2.2 1) q12.2)
      else
      (Heap.append σ p1.b p1.o p1.n 1 1 [.int .u8 239, .int .u8 191, .int .u8 189] 3).bind fun q13 =>
      K (.slice q13.1.1 q13.1.2.1 q13.1.2.2 1) q13.2)
    else
    (Heap.append σ p1.b p1.o p1.n 1 1 [.int .u8 239, .int .u8 191, .int .u8 189] 3).bind fun q14 =>
    K (.slice q14.1.1 q14.1.2.1 q14.1.2.2 1) q14.2 := by kernel_rfl
/-! unicode_utf8_AppendRune -/
set_option maxRecDepth 100000 in
theorem unicode_utf8_AppendRune_eq {R : Type} (w : C_unicode_utf8_AppendRune) (L : Nat) (p1 : Sl) (r2 : Int) (σ : Heap) (K : AVal → Heap → Option R) :
    callC T (O_unicode_utf8_AppendRune w) L 2 61 [.slice p1.b p1.o p1.n 1, .int .i32 r2] σ K =
    bif (decide ((IntKind.u32.wrap r2) ≤ 127)) then (
      (Heap.append σ p1.b p1.o p1.n 1 1 [.int .u8 (IntKind.u8.wrap r2)] 1).bind fun q3 =>
      K (.slice q3.1.1 q3.1.2.1 q3.1.2.2 1) q3.2)
    else
    (w.unicode_utf8_appendRuneNonASCII p1 r2 σ).bind fun q4 =>
    K (.slice q4.1.b q4.1.o q4.1.n 1) q4.2 := by kernel_rfl
end Go.Abs.TE
