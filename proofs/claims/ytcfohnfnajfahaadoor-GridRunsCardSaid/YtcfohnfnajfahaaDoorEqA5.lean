/-
Lifted functions: what the machine does, one equation for each entry and each loop (printed by lift.py).
-/
import Derived.Test.YtcfohnfnajfahaaDoorSigA
namespace Go.Abs.TA
open Go Go.Abs Go.Proofs
/-! law09_lines_read -/
set_option maxRecDepth 100000 in
theorem law09_lines_read_eq {R : Type} (L : Nat) (m1 : Sl) (x2 : Int) (y3 : Int) (s4 : api_Style) (σ : Heap) (K : AVal → Heap → Option R) :
    callC T known0 L 2 75 [.slice m1.b m1.o m1.n 1, .int .i64 x2, .int .i64 y3, .agg [.bool s4.Bold, .bool s4.Under, .bool s4.Turned, .int .i64 s4.Fore, .int .i64 s4.Back]] σ K =
    bif (decide (y3 ≥ 0)) then (
      bif (decide (y3 < (m1.n : Int))) then (
        bif (decide (x2 ≥ 0)) then (
          bif ((decide (0 ≤ y3)) && (decide (y3 < (m1.n : Int)))) then (
            (m1.b).bind fun b5 =>
            (slice? (Heap.cell? σ b5 (m1.o + y3.toNat * 1)) 6).bind fun x6 =>
            bif (decide (x2 < (x6.2.2 : Int))) then (
              bif ((decide (0 ≤ y3)) && (decide (y3 < (m1.n : Int)))) then (
                (m1.b).bind fun b7 =>
                (slice? (Heap.cell? σ b7 (m1.o + y3.toNat * 1)) 6).bind fun x8 =>
                bif ((decide (0 ≤ x2)) && (decide (x2 < (x8.2.2 : Int)))) then (
                  (x8.1).bind fun b9 =>
                  (int? (Heap.cell? σ b9 (x8.2.1 + x2.toNat * 6)) .i32).bind fun x10 =>
                  (bool? (Heap.cell? σ b9 ((x8.2.1 + x2.toNat * 6) + 1))).bind fun x11 =>
                  (bool? (Heap.cell? σ b9 ((x8.2.1 + x2.toNat * 6) + 2))).bind fun x12 =>
                  (bool? (Heap.cell? σ b9 ((x8.2.1 + x2.toNat * 6) + 3))).bind fun x13 =>
                  (int? (Heap.cell? σ b9 ((x8.2.1 + x2.toNat * 6) + 4)) .i64).bind fun x14 =>
                  (int? (Heap.cell? σ b9 ((x8.2.1 + x2.toNat * 6) + 5)) .i64).bind fun x15 =>
                  K (.agg [.int .i32 x10, .bool x11, .bool x12, .bool x13, .int .i64 x14, .int .i64 x15]) σ)
                else none)
              else none)
            else K (.agg [.int .i32 32, .bool false, .bool false, .bool false, .int .i64 0, .int .i64 s4.Back]) σ)
          else none)
        else K (.agg [.int .i32 32, .bool false, .bool false, .bool false, .int .i64 0, .int .i64 s4.Back]) σ)
      else K (.agg [.int .i32 32, .bool false, .bool false, .bool false, .int .i64 0, .int .i64 s4.Back]) σ)
    else K (.agg [.int .i32 32, .bool false, .bool false, .bool false, .int .i64 0, .int .i64 s4.Back]) σ := by kernel_rfl
end Go.Abs.TA
