/-
Lifted functions: what the machine does, one equation for each entry and each loop (printed by lift.py).
-/
import Derived.Test.YtnoplfndpemmpaaGreatDoorSigE
namespace Go.Abs.TE
open Go Go.Abs Go.Proofs
/-! crc_Sum -/
noncomputable def crc_Sum_L3 {R : Type} (L fu0 : Nat) (c_3 : Int) (b1 : Sl) (x_4 : Int) (σ : Heap) (K : AVal → Heap → Option R) : Option R :=
  loopAt T known0 L 1 264 Tryz.f264 [1, 1, 0, 1, 0] [] fu0
    ([.undef, .undef, .undef, .int .u32 c_3, .undef, .undef, .slice b1.b b1.o b1.n 1, .int .i64 (b1.n : Int), .int .i64 x_4] ++ List.replicate 19 .undef)
    (List.replicate 28 .none) σ K
noncomputable def crc_Sum_L7 {R : Type} (L fu0 fu1 : Nat) (c_1 : Int) (b1 : Sl) (x_4 : Int) (x_2 : Int) (σ : Heap) (K : AVal → Heap → Option R) : Option R :=
  loopAt T known0 L 1 264 Tryz.f264 [1, 1, 0, 1, 0, 0, 1, 1, 0, 0, 1, 1, 1, 0] [fu0] fu1
    ([.undef, .undef, .undef, .int .u32 c_1, .undef, .undef, .slice b1.b b1.o b1.n 1, .int .i64 (b1.n : Int), .int .i64 x_4] ++ List.replicate 7 .undef ++ [.int .i64 x_2] ++ List.replicate 11 .undef)
    (List.replicate 28 .none) σ K
set_option maxRecDepth 100000 in
theorem crc_Sum_L3_eq {R : Type} (L fu0 : Nat) (c_3 : Int) (b1 : Sl) (x_4 : Int) (σ : Heap) (K : AVal → Heap → Option R) :
    crc_Sum_L3 L (fu0 + 1) c_3 b1 x_4 σ K =
    bif (decide (x_4 < (b1.n : Int))) then (
      bif ((decide (0 ≤ x_4)) && (decide (x_4 < (b1.n : Int)))) then (
        (b1.b).bind fun b2 =>
        (int? (Heap.cell? σ b2 (b1.o + x_4.toNat * 1)) .u8).bind fun x3 =>
        crc_Sum_L7 L fu0 L (IntKind.u32.wrap (BitVec.ofInt IntKind.u32.bits c_3 ^^^ BitVec.ofInt IntKind.u32.bits (IntKind.u32.wrap x3)).toNat) b1 x_4 0 σ K)
      else none)
    else K (.int .u32 (IntKind.u32.wrap (BitVec.ofInt IntKind.u32.bits IntKind.u32.max ^^^ BitVec.ofInt IntKind.u32.bits c_3).toNat)) σ := by kernel_rfl
set_option maxRecDepth 100000 in
theorem crc_Sum_L7_eq {R : Type} (L fu0 fu1 : Nat) (c_1 : Int) (b1 : Sl) (x_4 : Int) (x_2 : Int) (σ : Heap) (K : AVal → Heap → Option R) :
    crc_Sum_L7 L fu0 (fu1 + 1) c_1 b1 x_4 x_2 σ K =
    bif (decide (x_2 < 8)) then (
      crc_Sum_L7 L fu0 fu1 (IntKind.u32.wrap (BitVec.ofInt IntKind.u32.bits (Int.fdiv c_1 (2 ^ 1)) ^^^ BitVec.ofInt IntKind.u32.bits (IntKind.u32.wrap (3988292384 * (IntKind.u32.wrap (BitVec.ofInt IntKind.u32.bits c_1 &&& BitVec.ofInt IntKind.u32.bits 1).toNat)))).toNat) b1 x_4 (IntKind.i64.wrap (x_2 + 1)) σ K)
    else
    crc_Sum_L3 L fu0 c_1 b1 (IntKind.i64.wrap (x_4 + 1)) σ K := by kernel_rfl
set_option maxRecDepth 100000 in
theorem crc_Sum_eq {R : Type} (L : Nat) (b1 : Sl) (σ : Heap) (K : AVal → Heap → Option R) :
    callC T known0 L 2 264 [.slice b1.b b1.o b1.n 1] σ K =
    crc_Sum_L3 L L 4294967295 b1 0 σ K := by kernel_rfl
end Go.Abs.TE
