/-
Lifted functions: what the machine does, one equation for each entry and each loop (printed by lift.py).
-/
import Derived.Test.YtohlebkhlbcnaaaDoorSigB
namespace Go.Abs.TB
open Go Go.Abs Go.Proofs
/-! internal_strconv_formatBase10 -/
noncomputable def internal_strconv_formatBase10_L1 {R : Type} (L fu0 : Nat) (a1 : Sl) (u_1 : Int) (nd_2 : Int) (σ : Heap) (K : AVal → Heap → Option R) : Option R :=
  loopAt T known0 L 1 63 Tryd.f63 [1, 0, 0] [] fu0
    ([.slice a1.b a1.o a1.n 1, .int .u64 u_1, .undef, .undef, .int .i64 nd_2] ++ List.replicate 162 .undef)
    (List.replicate 167 .none) σ K
set_option maxRecDepth 100000 in
theorem internal_strconv_formatBase10_L1_eq {R : Type} (L fu0 : Nat) (a1 : Sl) (u_1 : Int) (nd_2 : Int) (σ : Heap) (K : AVal → Heap → Option R) :
    internal_strconv_formatBase10_L1 L (fu0 + 1) a1 u_1 nd_2 σ K =
    bif (decide (nd_2 ≥ 8)) then (
      bif ((decide (0 ≤ (IntKind.u32.wrap ((IntKind.u32.wrap ((Int.tmod (Int.tmod (IntKind.u32.wrap (Int.tmod u_1 100000000)) 10000) 100) * 2)) + 1)))) && (decide ((IntKind.u32.wrap ((IntKind.u32.wrap ((Int.tmod (Int.tmod (IntKind.u32.wrap (Int.tmod u_1 100000000)) 10000) 100) * 2)) + 1)) < 200))) then (
        bif ((decide (0 ≤ (IntKind.u32.wrap ((Int.tmod (Int.tmod (IntKind.u32.wrap (Int.tmod u_1 100000000)) 10000) 100) * 2)))) && (decide ((IntKind.u32.wrap ((Int.tmod (Int.tmod (IntKind.u32.wrap (Int.tmod u_1 100000000)) 10000) 100) * 2)) < 200))) then (
          bif ((decide (0 ≤ (IntKind.i64.wrap (nd_2 - 1)))) && (decide ((IntKind.i64.wrap (nd_2 - 1)) < (a1.n : Int)))) then (
            (a1.b).bind fun b3 =>
            (Heap.store σ b3 (a1.o + ((IntKind.i64.wrap (nd_2 - 1)).toNat) * 1) [.int .u8 (((⟨#[48, 48, 48, 49, 48, 50, 48, 51, 48, 52, 48, 53, 48, 54, 48, 55, 48, 56, 48, 57, 49, 48, 49, 49, 49, 50, 49, 51, 49, 52, 49, 53, 49, 54, 49, 55, 49, 56, 49, 57, 50, 48, 50, 49, 50, 50, 50, 51, 50, 52, 50, 53, 50, 54, 50, 55, 50, 56, 50, 57, 51, 48, 51, 49, 51, 50, 51, 51, 51, 52, 51, 53, 51, 54, 51, 55, 51, 56, 51, 57, 52, 48, 52, 49, 52, 50, 52, 51, 52, 52, 52, 53, 52, 54, 52, 55, 52, 56, 52, 57, 53, 48, 53, 49, 53, 50, 53, 51, 53, 52, 53, 53, 53, 54, 53, 55, 53, 56, 53, 57, 54, 48, 54, 49, 54, 50, 54, 51, 54, 52, 54, 53, 54, 54, 54, 55, 54, 56, 54, 57, 55, 48, 55, 49, 55, 50, 55, 51, 55, 52, 55, 53, 55, 54, 55, 55, 55, 56, 55, 57, 56, 48, 56, 49, 56, 50, 56, 51, 56, 52, 56, 53, 56, 54, 56, 55, 56, 56, 56, 57, 57, 48, 57, 49, 57, 50, 57, 51, 57, 52, 57, 53, 57, 54, 57, 55, 57, 56, 57, 57]⟩ : ByteArray).data.toList.getD ((IntKind.u32.wrap ((IntKind.u32.wrap ((Int.tmod (Int.tmod (IntKind.u32.wrap (Int.tmod u_1 100000000)) 10000) 100) * 2)) + 1)).toNat) 0).toNat : Int)]).bind fun σ4 =>
            bif ((decide (0 ≤ (IntKind.i64.wrap (nd_2 - 2)))) && (decide ((IntKind.i64.wrap (nd_2 - 2)) < (a1.n : Int)))) then (
              (a1.b).bind fun b5 =>
              (Heap.store σ4 b5 (a1.o + ((IntKind.i64.wrap (nd_2 - 2)).toNat) * 1) [.int .u8 (((⟨#[48, 48, 48, 49, 48, 50, 48, 51, 48, 52, 48, 53, 48, 54, 48, 55, 48, 56, 48, 57, 49, 48, 49, 49, 49, 50, 49, 51, 49, 52, 49, 53, 49, 54, 49, 55, 49, 56, 49, 57, 50, 48, 50, 49, 50, 50, 50, 51, 50, 52, 50, 53, 50, 54, 50, 55, 50, 56, 50, 57, 51, 48, 51, 49, 51, 50, 51, 51, 51, 52, 51, 53, 51, 54, 51, 55, 51, 56, 51, 57, 52, 48, 52, 49, 52, 50, 52, 51, 52, 52, 52, 53, 52, 54, 52, 55, 52, 56, 52, 57, 53, 48, 53, 49, 53, 50, 53, 51, 53, 52, 53, 53, 53, 54, 53, 55, 53, 56, 53, 57, 54, 48, 54, 49, 54, 50, 54, 51, 54, 52, 54, 53, 54, 54, 54, 55, 54, 56, 54, 57, 55, 48, 55, 49, 55, 50, 55, 51, 55, 52, 55, 53, 55, 54, 55, 55, 55, 56, 55, 57, 56, 48, 56, 49, 56, 50, 56, 51, 56, 52, 56, 53, 56, 54, 56, 55, 56, 56, 56, 57, 57, 48, 57, 49, 57, 50, 57, 51, 57, 52, 57, 53, 57, 54, 57, 55, 57, 56, 57, 57]⟩ : ByteArray).data.toList.getD ((IntKind.u32.wrap ((Int.tmod (Int.tmod (IntKind.u32.wrap (Int.tmod u_1 100000000)) 10000) 100) * 2)).toNat) 0).toNat : Int)]).bind fun σ6 =>
              bif ((decide (0 ≤ (IntKind.u32.wrap ((IntKind.u32.wrap ((IntKind.u32.wrap (Int.tdiv (Int.tmod (IntKind.u32.wrap (Int.tmod u_1 100000000)) 10000) 100)) * 2)) + 1)))) && (decide ((IntKind.u32.wrap ((IntKind.u32.wrap ((IntKind.u32.wrap (Int.tdiv (Int.tmod (IntKind.u32.wrap (Int.tmod u_1 100000000)) 10000) 100)) * 2)) + 1)) < 200))) then (
                bif ((decide (0 ≤ (IntKind.u32.wrap ((IntKind.u32.wrap (Int.tdiv (Int.tmod (IntKind.u32.wrap (Int.tmod u_1 100000000)) 10000) 100)) * 2)))) && (decide ((IntKind.u32.wrap ((IntKind.u32.wrap (Int.tdiv (Int.tmod (IntKind.u32.wrap (Int.tmod u_1 100000000)) 10000) 100)) * 2)) < 200))) then (
                  bif ((decide (0 ≤ (IntKind.i64.wrap (nd_2 - 3)))) && (decide ((IntKind.i64.wrap (nd_2 - 3)) < (a1.n : Int)))) then (
                    (a1.b).bind fun b7 =>
                    (Heap.store σ6 b7 (a1.o + ((IntKind.i64.wrap (nd_2 - 3)).toNat) * 1) [.int .u8 (((⟨#[48, 48, 48, 49, 48, 50, 48, 51, 48, 52, 48, 53, 48, 54, 48, 55, 48, 56, 48, 57, 49, 48, 49, 49, 49, 50, 49, 51, 49, 52, 49, 53, 49, 54, 49, 55, 49, 56, 49, 57, 50, 48, 50, 49, 50, 50, 50, 51, 50, 52, 50, 53, 50, 54, 50, 55, 50, 56, 50, 57, 51, 48, 51, 49, 51, 50, 51, 51, 51, 52, 51, 53, 51, 54, 51, 55, 51, 56, 51, 57, 52, 48, 52, 49, 52, 50, 52, 51, 52, 52, 52, 53, 52, 54, 52, 55, 52, 56, 52, 57, 53, 48, 53, 49, 53, 50, 53, 51, 53, 52, 53, 53, 53, 54, 53, 55, 53, 56, 53, 57, 54, 48, 54, 49, 54, 50, 54, 51, 54, 52, 54, 53, 54, 54, 54, 55, 54, 56, 54, 57, 55, 48, 55, 49, 55, 50, 55, 51, 55, 52, 55, 53, 55, 54, 55, 55, 55, 56, 55, 57, 56, 48, 56, 49, 56, 50, 56, 51, 56, 52, 56, 53, 56, 54, 56, 55, 56, 56, 56, 57, 57, 48, 57, 49, 57, 50, 57, 51, 57, 52, 57, 53, 57, 54, 57, 55, 57, 56, 57, 57]⟩ : ByteArray).data.toList.getD ((IntKind.u32.wrap ((IntKind.u32.wrap ((IntKind.u32.wrap (Int.tdiv (Int.tmod (IntKind.u32.wrap (Int.tmod u_1 100000000)) 10000) 100)) * 2)) + 1)).toNat) 0).toNat : Int)]).bind fun σ8 =>
                    bif ((decide (0 ≤ (IntKind.i64.wrap (nd_2 - 4)))) && (decide ((IntKind.i64.wrap (nd_2 - 4)) < (a1.n : Int)))) then (
                      (a1.b).bind fun b9 =>
                      (Heap.store σ8 b9 (a1.o + ((IntKind.i64.wrap (nd_2 - 4)).toNat) * 1) [.int .u8 (((⟨#[48, 48, 48, 49, 48, 50, 48, 51, 48, 52, 48, 53, 48, 54, 48, 55, 48, 56, 48, 57, 49, 48, 49, 49, 49, 50, 49, 51, 49, 52, 49, 53, 49, 54, 49, 55, 49, 56, 49, 57, 50, 48, 50, 49, 50, 50, 50, 51, 50, 52, 50, 53, 50, 54, 50, 55, 50, 56, 50, 57, 51, 48, 51, 49, 51, 50, 51, 51, 51, 52, 51, 53, 51, 54, 51, 55, 51, 56, 51, 57, 52, 48, 52, 49, 52, 50, 52, 51, 52, 52, 52, 53, 52, 54, 52, 55, 52, 56, 52, 57, 53, 48, 53, 49, 53, 50, 53, 51, 53, 52, 53, 53, 53, 54, 53, 55, 53, 56, 53, 57, 54, 48, 54, 49, 54, 50, 54, 51, 54, 52, 54, 53, 54, 54, 54, 55, 54, 56, 54, 57, 55, 48, 55, 49, 55, 50, 55, 51, 55, 52, 55, 53, 55, 54, 55, 55, 55, 56, 55, 57, 56, 48, 56, 49, 56, 50, 56, 51, 56, 52, 56, 53, 56, 54, 56, 55, 56, 56, 56, 57, 57, 48, 57, 49, 57, 50, 57, 51, 57, 52, 57, 53, 57, 54, 57, 55, 57, 56, 57, 57]⟩ : ByteArray).data.toList.getD ((IntKind.u32.wrap ((IntKind.u32.wrap (Int.tdiv (Int.tmod (IntKind.u32.wrap (Int.tmod u_1 100000000)) 10000) 100)) * 2)).toNat) 0).toNat : Int)]).bind fun σ10 =>
                      bif ((decide (0 ≤ (IntKind.u32.wrap ((IntKind.u32.wrap ((Int.tmod (IntKind.u32.wrap (Int.tdiv (IntKind.u32.wrap (Int.tmod u_1 100000000)) 10000)) 100) * 2)) + 1)))) && (decide ((IntKind.u32.wrap ((IntKind.u32.wrap ((Int.tmod (IntKind.u32.wrap (Int.tdiv (IntKind.u32.wrap (Int.tmod u_1 100000000)) 10000)) 100) * 2)) + 1)) < 200))) then (
                        bif ((decide (0 ≤ (IntKind.u32.wrap ((Int.tmod (IntKind.u32.wrap (Int.tdiv (IntKind.u32.wrap (Int.tmod u_1 100000000)) 10000)) 100) * 2)))) && (decide ((IntKind.u32.wrap ((Int.tmod (IntKind.u32.wrap (Int.tdiv (IntKind.u32.wrap (Int.tmod u_1 100000000)) 10000)) 100) * 2)) < 200))) then (
                          bif ((decide (0 ≤ (IntKind.i64.wrap (nd_2 - 5)))) && (decide ((IntKind.i64.wrap (nd_2 - 5)) < (a1.n : Int)))) then (
                            (a1.b).bind fun b11 =>
                            (Heap.store σ10 b11 (a1.o + ((IntKind.i64.wrap (nd_2 - 5)).toNat) * 1) [.int .u8 (((⟨#[48, 48, 48, 49, 48, 50, 48, 51, 48, 52, 48, 53, 48, 54, 48, 55, 48, 56, 48, 57, 49, 48, 49, 49, 49, 50, 49, 51, 49, 52, 49, 53, 49, 54, 49, 55, 49, 56, 49, 57, 50, 48, 50, 49, 50, 50, 50, 51, 50, 52, 50, 53, 50, 54, 50, 55, 50, 56, 50, 57, 51, 48, 51, 49, 51, 50, 51, 51, 51, 52, 51, 53, 51, 54, 51, 55, 51, 56, 51, 57, 52, 48, 52, 49, 52, 50, 52, 51, 52, 52, 52, 53, 52, 54, 52, 55, 52, 56, 52, 57, 53, 48, 53, 49, 53, 50, 53, 51, 53, 52, 53, 53, 53, 54, 53, 55, 53, 56, 53, 57, 54, 48, 54, 49, 54, 50, 54, 51, 54, 52, 54, 53, 54, 54, 54, 55, 54, 56, 54, 57, 55, 48, 55, 49, 55, 50, 55, 51, 55, 52, 55, 53, 55, 54, 55, 55, 55, 56, 55, 57, 56, 48, 56, 49, 56, 50, 56, 51, 56, 52, 56, 53, 56, 54, 56, 55, 56, 56, 56, 57, 57, 48, 57, 49, 57, 50, 57, 51, 57, 52, 57, 53, 57, 54, 57, 55, 57, 56, 57, 57]⟩ : ByteArray).data.toList.getD ((IntKind.u32.wrap ((IntKind.u32.wrap ((Int.tmod (IntKind.u32.wrap (Int.tdiv (IntKind.u32.wrap (Int.tmod u_1 100000000)) 10000)) 100) * 2)) + 1)).toNat) 0).toNat : Int)]).bind fun σ12 =>
                            bif ((decide (0 ≤ (IntKind.i64.wrap (nd_2 - 6)))) && (decide ((IntKind.i64.wrap (nd_2 - 6)) < (a1.n : Int)))) then (
                              (a1.b).bind fun b13 =>
                              (Heap.store σ12 b13 (a1.o + ((IntKind.i64.wrap (nd_2 - 6)).toNat) * 1) [.int .u8 (((⟨#[48, 48, 48, 49, 48, 50, 48, 51, 48, 52, 48, 53, 48, 54, 48, 55, 48, 56, 48, 57, 49, 48, 49, 49, 49, 50, 49, 51, 49, 52, 49, 53, 49, 54, 49, 55, 49, 56, 49, 57, 50, 48, 50, 49, 50, 50, 50, 51, 50, 52, 50, 53, 50, 54, 50, 55, 50, 56, 50, 57, 51, 48, 51, 49, 51, 50, 51, 51, 51, 52, 51, 53, 51, 54, 51, 55, 51, 56, 51, 57, 52, 48, 52, 49, 52, 50, 52, 51, 52, 52, 52, 53, 52, 54, 52, 55, 52, 56, 52, 57, 53, 48, 53, 49, 53, 50, 53, 51, 53, 52, 53, 53, 53, 54, 53, 55, 53, 56, 53, 57, 54, 48, 54, 49, 54, 50, 54, 51, 54, 52, 54, 53, 54, 54, 54, 55, 54, 56, 54, 57, 55, 48, 55, 49, 55, 50, 55, 51, 55, 52, 55, 53, 55, 54, 55, 55, 55, 56, 55, 57, 56, 48, 56, 49, 56, 50, 56, 51, 56, 52, 56, 53, 56, 54, 56, 55, 56, 56, 56, 57, 57, 48, 57, 49, 57, 50, 57, 51, 57, 52, 57, 53, 57, 54, 57, 55, 57, 56, 57, 57]⟩ : ByteArray).data.toList.getD ((IntKind.u32.wrap ((Int.tmod (IntKind.u32.wrap (Int.tdiv (IntKind.u32.wrap (Int.tmod u_1 100000000)) 10000)) 100) * 2)).toNat) 0).toNat : Int)]).bind fun σ14 =>
                              bif ((decide (0 ≤ (IntKind.u32.wrap ((IntKind.u32.wrap ((IntKind.u32.wrap (Int.tdiv (IntKind.u32.wrap (Int.tdiv (IntKind.u32.wrap (Int.tmod u_1 100000000)) 10000)) 100)) * 2)) + 1)))) && (decide ((IntKind.u32.wrap ((IntKind.u32.wrap ((IntKind.u32.wrap (Int.tdiv (IntKind.u32.wrap (Int.tdiv (IntKind.u32.wrap (Int.tmod u_1 100000000)) 10000)) 100)) * 2)) + 1)) < 200))) then (
                                bif ((decide (0 ≤ (IntKind.u32.wrap ((IntKind.u32.wrap (Int.tdiv (IntKind.u32.wrap (Int.tdiv (IntKind.u32.wrap (Int.tmod u_1 100000000)) 10000)) 100)) * 2)))) && (decide ((IntKind.u32.wrap ((IntKind.u32.wrap (Int.tdiv (IntKind.u32.wrap (Int.tdiv (IntKind.u32.wrap (Int.tmod u_1 100000000)) 10000)) 100)) * 2)) < 200))) then (
                                  bif ((decide (0 ≤ (IntKind.i64.wrap (nd_2 - 7)))) && (decide ((IntKind.i64.wrap (nd_2 - 7)) < (a1.n : Int)))) then (
                                    (a1.b).bind fun b15 =>
                                    (Heap.store σ14 b15 (a1.o + ((IntKind.i64.wrap (nd_2 - 7)).toNat) * 1) [.int .u8 (((⟨#[48, 48, 48, 49, 48, 50, 48, 51, 48, 52, 48, 53, 48, 54, 48, 55, 48, 56, 48, 57, 49, 48, 49, 49, 49, 50, 49, 51, 49, 52, 49, 53, 49, 54, 49, 55, 49, 56, 49, 57, 50, 48, 50, 49, 50, 50, 50, 51, 50, 52, 50, 53, 50, 54, 50, 55, 50, 56, 50, 57, 51, 48, 51, 49, 51, 50, 51, 51, 51, 52, 51, 53, 51, 54, 51, 55, 51, 56, 51, 57, 52, 48, 52, 49, 52, 50, 52, 51, 52, 52, 52, 53, 52, 54, 52, 55, 52, 56, 52, 57, 53, 48, 53, 49, 53, 50, 53, 51, 53, 52, 53, 53, 53, 54, 53, 55, 53, 56, 53, 57, 54, 48, 54, 49, 54, 50, 54, 51, 54, 52, 54, 53, 54, 54, 54, 55, 54, 56, 54, 57, 55, 48, 55, 49, 55, 50, 55, 51, 55, 52, 55, 53, 55, 54, 55, 55, 55, 56, 55, 57, 56, 48, 56, 49, 56, 50, 56, 51, 56, 52, 56, 53, 56, 54, 56, 55, 56, 56, 56, 57, 57, 48, 57, 49, 57, 50, 57, 51, 57, 52, 57, 53, 57, 54, 57, 55, 57, 56, 57, 57]⟩ : ByteArray).data.toList.getD ((IntKind.u32.wrap ((IntKind.u32.wrap ((IntKind.u32.wrap (Int.tdiv (IntKind.u32.wrap (Int.tdiv (IntKind.u32.wrap (Int.tmod u_1 100000000)) 10000)) 100)) * 2)) + 1)).toNat) 0).toNat : Int)]).bind fun σ16 =>
                                    bif ((decide (0 ≤ (IntKind.i64.wrap (nd_2 - 8)))) && (decide ((IntKind.i64.wrap (nd_2 - 8)) < (a1.n : Int)))) then (
                                      (a1.b).bind fun b17 =>
                                      (Heap.store σ16 b17 (a1.o + ((IntKind.i64.wrap (nd_2 - 8)).toNat) * 1) [.int .u8 (((⟨#[48, 48, 48, 49, 48, 50, 48, 51, 48, 52, 48, 53, 48, 54, 48, 55, 48, 56, 48, 57, 49, 48, 49, 49, 49, 50, 49, 51, 49, 52, 49, 53, 49, 54, 49, 55, 49, 56, 49, 57, 50, 48, 50, 49, 50, 50, 50, 51, 50, 52, 50, 53, 50, 54, 50, 55, 50, 56, 50, 57, 51, 48, 51, 49, 51, 50, 51, 51, 51, 52, 51, 53, 51, 54, 51, 55, 51, 56, 51, 57, 52, 48, 52, 49, 52, 50, 52, 51, 52, 52, 52, 53, 52, 54, 52, 55, 52, 56, 52, 57, 53, 48, 53, 49, 53, 50, 53, 51, 53, 52, 53, 53, 53, 54, 53, 55, 53, 56, 53, 57, 54, 48, 54, 49, 54, 50, 54, 51, 54, 52, 54, 53, 54, 54, 54, 55, 54, 56, 54, 57, 55, 48, 55, 49, 55, 50, 55, 51, 55, 52, 55, 53, 55, 54, 55, 55, 55, 56, 55, 57, 56, 48, 56, 49, 56, 50, 56, 51, 56, 52, 56, 53, 56, 54, 56, 55, 56, 56, 56, 57, 57, 48, 57, 49, 57, 50, 57, 51, 57, 52, 57, 53, 57, 54, 57, 55, 57, 56, 57, 57]⟩ : ByteArray).data.toList.getD ((IntKind.u32.wrap ((IntKind.u32.wrap (Int.tdiv (IntKind.u32.wrap (Int.tdiv (IntKind.u32.wrap (Int.tmod u_1 100000000)) 10000)) 100)) * 2)).toNat) 0).toNat : Int)]).bind fun σ18 =>
                                      internal_strconv_formatBase10_L1 L fu0 a1 (IntKind.u64.wrap (Int.tdiv u_1 100000000)) (IntKind.i64.wrap (nd_2 - 8)) σ18 K)
                                    else none)
                                  else none)
                                else none)
                              else none)
                            else none)
                          else none)
                        else none)
                      else none)
                    else none)
                  else none)
                else none)
              else none)
            else none)
          else none)
        else none)
      else none)
    else
    bif (decide (nd_2 ≥ 4)) then (
      bif ((decide (0 ≤ (IntKind.u32.wrap ((IntKind.u32.wrap ((Int.tmod (Int.tmod (IntKind.u32.wrap u_1) 10000) 100) * 2)) + 1)))) && (decide ((IntKind.u32.wrap ((IntKind.u32.wrap ((Int.tmod (Int.tmod (IntKind.u32.wrap u_1) 10000) 100) * 2)) + 1)) < 200))) then (
        bif ((decide (0 ≤ (IntKind.u32.wrap ((Int.tmod (Int.tmod (IntKind.u32.wrap u_1) 10000) 100) * 2)))) && (decide ((IntKind.u32.wrap ((Int.tmod (Int.tmod (IntKind.u32.wrap u_1) 10000) 100) * 2)) < 200))) then (
          bif ((decide (0 ≤ (IntKind.i64.wrap (nd_2 - 1)))) && (decide ((IntKind.i64.wrap (nd_2 - 1)) < (a1.n : Int)))) then (
            (a1.b).bind fun b19 =>
            (Heap.store σ b19 (a1.o + ((IntKind.i64.wrap (nd_2 - 1)).toNat) * 1) [.int .u8 (((⟨#[48, 48, 48, 49, 48, 50, 48, 51, 48, 52, 48, 53, 48, 54, 48, 55, 48, 56, 48, 57, 49, 48, 49, 49, 49, 50, 49, 51, 49, 52, 49, 53, 49, 54, 49, 55, 49, 56, 49, 57, 50, 48, 50, 49, 50, 50, 50, 51, 50, 52, 50, 53, 50, 54, 50, 55, 50, 56, 50, 57, 51, 48, 51, 49, 51, 50, 51, 51, 51, 52, 51, 53, 51, 54, 51, 55, 51, 56, 51, 57, 52, 48, 52, 49, 52, 50, 52, 51, 52, 52, 52, 53, 52, 54, 52, 55, 52, 56, 52, 57, 53, 48, 53, 49, 53, 50, 53, 51, 53, 52, 53, 53, 53, 54, 53, 55, 53, 56, 53, 57, 54, 48, 54, 49, 54, 50, 54, 51, 54, 52, 54, 53, 54, 54, 54, 55, 54, 56, 54, 57, 55, 48, 55, 49, 55, 50, 55, 51, 55, 52, 55, 53, 55, 54, 55, 55, 55, 56, 55, 57, 56, 48, 56, 49, 56, 50, 56, 51, 56, 52, 56, 53, 56, 54, 56, 55, 56, 56, 56, 57, 57, 48, 57, 49, 57, 50, 57, 51, 57, 52, 57, 53, 57, 54, 57, 55, 57, 56, 57, 57]⟩ : ByteArray).data.toList.getD ((IntKind.u32.wrap ((IntKind.u32.wrap ((Int.tmod (Int.tmod (IntKind.u32.wrap u_1) 10000) 100) * 2)) + 1)).toNat) 0).toNat : Int)]).bind fun σ20 =>
            bif ((decide (0 ≤ (IntKind.i64.wrap (nd_2 - 2)))) && (decide ((IntKind.i64.wrap (nd_2 - 2)) < (a1.n : Int)))) then (
              (a1.b).bind fun b21 =>
              (Heap.store σ20 b21 (a1.o + ((IntKind.i64.wrap (nd_2 - 2)).toNat) * 1) [.int .u8 (((⟨#[48, 48, 48, 49, 48, 50, 48, 51, 48, 52, 48, 53, 48, 54, 48, 55, 48, 56, 48, 57, 49, 48, 49, 49, 49, 50, 49, 51, 49, 52, 49, 53, 49, 54, 49, 55, 49, 56, 49, 57, 50, 48, 50, 49, 50, 50, 50, 51, 50, 52, 50, 53, 50, 54, 50, 55, 50, 56, 50, 57, 51, 48, 51, 49, 51, 50, 51, 51, 51, 52, 51, 53, 51, 54, 51, 55, 51, 56, 51, 57, 52, 48, 52, 49, 52, 50, 52, 51, 52, 52, 52, 53, 52, 54, 52, 55, 52, 56, 52, 57, 53, 48, 53, 49, 53, 50, 53, 51, 53, 52, 53, 53, 53, 54, 53, 55, 53, 56, 53, 57, 54, 48, 54, 49, 54, 50, 54, 51, 54, 52, 54, 53, 54, 54, 54, 55, 54, 56, 54, 57, 55, 48, 55, 49, 55, 50, 55, 51, 55, 52, 55, 53, 55, 54, 55, 55, 55, 56, 55, 57, 56, 48, 56, 49, 56, 50, 56, 51, 56, 52, 56, 53, 56, 54, 56, 55, 56, 56, 56, 57, 57, 48, 57, 49, 57, 50, 57, 51, 57, 52, 57, 53, 57, 54, 57, 55, 57, 56, 57, 57]⟩ : ByteArray).data.toList.getD ((IntKind.u32.wrap ((Int.tmod (Int.tmod (IntKind.u32.wrap u_1) 10000) 100) * 2)).toNat) 0).toNat : Int)]).bind fun σ22 =>
              bif ((decide (0 ≤ (IntKind.u32.wrap ((IntKind.u32.wrap ((IntKind.u32.wrap (Int.tdiv (Int.tmod (IntKind.u32.wrap u_1) 10000) 100)) * 2)) + 1)))) && (decide ((IntKind.u32.wrap ((IntKind.u32.wrap ((IntKind.u32.wrap (Int.tdiv (Int.tmod (IntKind.u32.wrap u_1) 10000) 100)) * 2)) + 1)) < 200))) then (
                bif ((decide (0 ≤ (IntKind.u32.wrap ((IntKind.u32.wrap (Int.tdiv (Int.tmod (IntKind.u32.wrap u_1) 10000) 100)) * 2)))) && (decide ((IntKind.u32.wrap ((IntKind.u32.wrap (Int.tdiv (Int.tmod (IntKind.u32.wrap u_1) 10000) 100)) * 2)) < 200))) then (
                  bif ((decide (0 ≤ (IntKind.i64.wrap (nd_2 - 3)))) && (decide ((IntKind.i64.wrap (nd_2 - 3)) < (a1.n : Int)))) then (
                    (a1.b).bind fun b23 =>
                    (Heap.store σ22 b23 (a1.o + ((IntKind.i64.wrap (nd_2 - 3)).toNat) * 1) [.int .u8 (((⟨#[48, 48, 48, 49, 48, 50, 48, 51, 48, 52, 48, 53, 48, 54, 48, 55, 48, 56, 48, 57, 49, 48, 49, 49, 49, 50, 49, 51, 49, 52, 49, 53, 49, 54, 49, 55, 49, 56, 49, 57, 50, 48, 50, 49, 50, 50, 50, 51, 50, 52, 50, 53, 50, 54, 50, 55, 50, 56, 50, 57, 51, 48, 51, 49, 51, 50, 51, 51, 51, 52, 51, 53, 51, 54, 51, 55, 51, 56, 51, 57, 52, 48, 52, 49, 52, 50, 52, 51, 52, 52, 52, 53, 52, 54, 52, 55, 52, 56, 52, 57, 53, 48, 53, 49, 53, 50, 53, 51, 53, 52, 53, 53, 53, 54, 53, 55, 53, 56, 53, 57, 54, 48, 54, 49, 54, 50, 54, 51, 54, 52, 54, 53, 54, 54, 54, 55, 54, 56, 54, 57, 55, 48, 55, 49, 55, 50, 55, 51, 55, 52, 55, 53, 55, 54, 55, 55, 55, 56, 55, 57, 56, 48, 56, 49, 56, 50, 56, 51, 56, 52, 56, 53, 56, 54, 56, 55, 56, 56, 56, 57, 57, 48, 57, 49, 57, 50, 57, 51, 57, 52, 57, 53, 57, 54, 57, 55, 57, 56, 57, 57]⟩ : ByteArray).data.toList.getD ((IntKind.u32.wrap ((IntKind.u32.wrap ((IntKind.u32.wrap (Int.tdiv (Int.tmod (IntKind.u32.wrap u_1) 10000) 100)) * 2)) + 1)).toNat) 0).toNat : Int)]).bind fun σ24 =>
                    bif ((decide (0 ≤ (IntKind.i64.wrap (nd_2 - 4)))) && (decide ((IntKind.i64.wrap (nd_2 - 4)) < (a1.n : Int)))) then (
                      (a1.b).bind fun b25 =>
                      (Heap.store σ24 b25 (a1.o + ((IntKind.i64.wrap (nd_2 - 4)).toNat) * 1) [.int .u8 (((⟨#[48, 48, 48, 49, 48, 50, 48, 51, 48, 52, 48, 53, 48, 54, 48, 55, 48, 56, 48, 57, 49, 48, 49, 49, 49, 50, 49, 51, 49, 52, 49, 53, 49, 54, 49, 55, 49, 56, 49, 57, 50, 48, 50, 49, 50, 50, 50, 51, 50, 52, 50, 53, 50, 54, 50, 55, 50, 56, 50, 57, 51, 48, 51, 49, 51, 50, 51, 51, 51, 52, 51, 53, 51, 54, 51, 55, 51, 56, 51, 57, 52, 48, 52, 49, 52, 50, 52, 51, 52, 52, 52, 53, 52, 54, 52, 55, 52, 56, 52, 57, 53, 48, 53, 49, 53, 50, 53, 51, 53, 52, 53, 53, 53, 54, 53, 55, 53, 56, 53, 57, 54, 48, 54, 49, 54, 50, 54, 51, 54, 52, 54, 53, 54, 54, 54, 55, 54, 56, 54, 57, 55, 48, 55, 49, 55, 50, 55, 51, 55, 52, 55, 53, 55, 54, 55, 55, 55, 56, 55, 57, 56, 48, 56, 49, 56, 50, 56, 51, 56, 52, 56, 53, 56, 54, 56, 55, 56, 56, 56, 57, 57, 48, 57, 49, 57, 50, 57, 51, 57, 52, 57, 53, 57, 54, 57, 55, 57, 56, 57, 57]⟩ : ByteArray).data.toList.getD ((IntKind.u32.wrap ((IntKind.u32.wrap (Int.tdiv (Int.tmod (IntKind.u32.wrap u_1) 10000) 100)) * 2)).toNat) 0).toNat : Int)]).bind fun σ26 =>
                      bif (decide ((IntKind.i64.wrap (nd_2 - 4)) ≥ 2)) then (
                        bif ((decide (0 ≤ (IntKind.u32.wrap ((IntKind.u32.wrap ((Int.tmod (IntKind.u32.wrap (Int.tdiv (IntKind.u32.wrap u_1) 10000)) 100) * 2)) + 1)))) && (decide ((IntKind.u32.wrap ((IntKind.u32.wrap ((Int.tmod (IntKind.u32.wrap (Int.tdiv (IntKind.u32.wrap u_1) 10000)) 100) * 2)) + 1)) < 200))) then (
                          bif ((decide (0 ≤ (IntKind.u32.wrap ((Int.tmod (IntKind.u32.wrap (Int.tdiv (IntKind.u32.wrap u_1) 10000)) 100) * 2)))) && (decide ((IntKind.u32.wrap ((Int.tmod (IntKind.u32.wrap (Int.tdiv (IntKind.u32.wrap u_1) 10000)) 100) * 2)) < 200))) then (
                            bif ((decide (0 ≤ (IntKind.i64.wrap ((IntKind.i64.wrap (nd_2 - 4)) - 1)))) && (decide ((IntKind.i64.wrap ((IntKind.i64.wrap (nd_2 - 4)) - 1)) < (a1.n : Int)))) then (
                              (a1.b).bind fun b27 =>
                              (Heap.store σ26 b27 (a1.o + ((IntKind.i64.wrap ((IntKind.i64.wrap (nd_2 - 4)) - 1)).toNat) * 1) [.int .u8 (((⟨#[48, 48, 48, 49, 48, 50, 48, 51, 48, 52, 48, 53, 48, 54, 48, 55, 48, 56, 48, 57, 49, 48, 49, 49, 49, 50, 49, 51, 49, 52, 49, 53, 49, 54, 49, 55, 49, 56, 49, 57, 50, 48, 50, 49, 50, 50, 50, 51, 50, 52, 50, 53, 50, 54, 50, 55, 50, 56, 50, 57, 51, 48, 51, 49, 51, 50, 51, 51, 51, 52, 51, 53, 51, 54, 51, 55, 51, 56, 51, 57, 52, 48, 52, 49, 52, 50, 52, 51, 52, 52, 52, 53, 52, 54, 52, 55, 52, 56, 52, 57, 53, 48, 53, 49, 53, 50, 53, 51, 53, 52, 53, 53, 53, 54, 53, 55, 53, 56, 53, 57, 54, 48, 54, 49, 54, 50, 54, 51, 54, 52, 54, 53, 54, 54, 54, 55, 54, 56, 54, 57, 55, 48, 55, 49, 55, 50, 55, 51, 55, 52, 55, 53, 55, 54, 55, 55, 55, 56, 55, 57, 56, 48, 56, 49, 56, 50, 56, 51, 56, 52, 56, 53, 56, 54, 56, 55, 56, 56, 56, 57, 57, 48, 57, 49, 57, 50, 57, 51, 57, 52, 57, 53, 57, 54, 57, 55, 57, 56, 57, 57]⟩ : ByteArray).data.toList.getD ((IntKind.u32.wrap ((IntKind.u32.wrap ((Int.tmod (IntKind.u32.wrap (Int.tdiv (IntKind.u32.wrap u_1) 10000)) 100) * 2)) + 1)).toNat) 0).toNat : Int)]).bind fun σ28 =>
                              bif ((decide (0 ≤ (IntKind.i64.wrap ((IntKind.i64.wrap (nd_2 - 4)) - 2)))) && (decide ((IntKind.i64.wrap ((IntKind.i64.wrap (nd_2 - 4)) - 2)) < (a1.n : Int)))) then (
                                (a1.b).bind fun b29 =>
                                (Heap.store σ28 b29 (a1.o + ((IntKind.i64.wrap ((IntKind.i64.wrap (nd_2 - 4)) - 2)).toNat) * 1) [.int .u8 (((⟨#[48, 48, 48, 49, 48, 50, 48, 51, 48, 52, 48, 53, 48, 54, 48, 55, 48, 56, 48, 57, 49, 48, 49, 49, 49, 50, 49, 51, 49, 52, 49, 53, 49, 54, 49, 55, 49, 56, 49, 57, 50, 48, 50, 49, 50, 50, 50, 51, 50, 52, 50, 53, 50, 54, 50, 55, 50, 56, 50, 57, 51, 48, 51, 49, 51, 50, 51, 51, 51, 52, 51, 53, 51, 54, 51, 55, 51, 56, 51, 57, 52, 48, 52, 49, 52, 50, 52, 51, 52, 52, 52, 53, 52, 54, 52, 55, 52, 56, 52, 57, 53, 48, 53, 49, 53, 50, 53, 51, 53, 52, 53, 53, 53, 54, 53, 55, 53, 56, 53, 57, 54, 48, 54, 49, 54, 50, 54, 51, 54, 52, 54, 53, 54, 54, 54, 55, 54, 56, 54, 57, 55, 48, 55, 49, 55, 50, 55, 51, 55, 52, 55, 53, 55, 54, 55, 55, 55, 56, 55, 57, 56, 48, 56, 49, 56, 50, 56, 51, 56, 52, 56, 53, 56, 54, 56, 55, 56, 56, 56, 57, 57, 48, 57, 49, 57, 50, 57, 51, 57, 52, 57, 53, 57, 54, 57, 55, 57, 56, 57, 57]⟩ : ByteArray).data.toList.getD ((IntKind.u32.wrap ((Int.tmod (IntKind.u32.wrap (Int.tdiv (IntKind.u32.wrap u_1) 10000)) 100) * 2)).toNat) 0).toNat : Int)]).bind fun σ30 =>
                                bif (decide ((IntKind.i64.wrap ((IntKind.i64.wrap (nd_2 - 4)) - 2)) > 0)) then (
                                  bif (decide (0 < (a1.n : Int))) then (
                                    (a1.b).bind fun b31 =>
                                    (Heap.store σ30 b31 a1.o [.int .u8 (IntKind.u8.wrap (IntKind.u32.wrap (48 + (IntKind.u32.wrap (Int.tdiv (IntKind.u32.wrap (Int.tdiv (IntKind.u32.wrap u_1) 10000)) 100)))))]).bind fun σ32 =>
                                    K (.tuple []) σ32)
                                  else none)
                                else K (.tuple []) σ30)
                              else none)
                            else none)
                          else none)
                        else none)
                      else
                      bif (decide ((IntKind.i64.wrap (nd_2 - 4)) > 0)) then (
                        bif (decide (0 < (a1.n : Int))) then (
                          (a1.b).bind fun b33 =>
                          (Heap.store σ26 b33 a1.o [.int .u8 (IntKind.u8.wrap (IntKind.u32.wrap (48 + (IntKind.u32.wrap (Int.tdiv (IntKind.u32.wrap u_1) 10000)))))]).bind fun σ34 =>
                          K (.tuple []) σ34)
                        else none)
                      else K (.tuple []) σ26)
                    else none)
                  else none)
                else none)
              else none)
            else none)
          else none)
        else none)
      else none)
    else
    bif (decide (nd_2 ≥ 2)) then (
      bif ((decide (0 ≤ (IntKind.u32.wrap ((IntKind.u32.wrap ((Int.tmod (IntKind.u32.wrap u_1) 100) * 2)) + 1)))) && (decide ((IntKind.u32.wrap ((IntKind.u32.wrap ((Int.tmod (IntKind.u32.wrap u_1) 100) * 2)) + 1)) < 200))) then (
        bif ((decide (0 ≤ (IntKind.u32.wrap ((Int.tmod (IntKind.u32.wrap u_1) 100) * 2)))) && (decide ((IntKind.u32.wrap ((Int.tmod (IntKind.u32.wrap u_1) 100) * 2)) < 200))) then (
          bif ((decide (0 ≤ (IntKind.i64.wrap (nd_2 - 1)))) && (decide ((IntKind.i64.wrap (nd_2 - 1)) < (a1.n : Int)))) then (
            (a1.b).bind fun b35 =>
            (Heap.store σ b35 (a1.o + ((IntKind.i64.wrap (nd_2 - 1)).toNat) * 1) [.int .u8 (((⟨#[48, 48, 48, 49, 48, 50, 48, 51, 48, 52, 48, 53, 48, 54, 48, 55, 48, 56, 48, 57, 49, 48, 49, 49, 49, 50, 49, 51, 49, 52, 49, 53, 49, 54, 49, 55, 49, 56, 49, 57, 50, 48, 50, 49, 50, 50, 50, 51, 50, 52, 50, 53, 50, 54, 50, 55, 50, 56, 50, 57, 51, 48, 51, 49, 51, 50, 51, 51, 51, 52, 51, 53, 51, 54, 51, 55, 51, 56, 51, 57, 52, 48, 52, 49, 52, 50, 52, 51, 52, 52, 52, 53, 52, 54, 52, 55, 52, 56, 52, 57, 53, 48, 53, 49, 53, 50, 53, 51, 53, 52, 53, 53, 53, 54, 53, 55, 53, 56, 53, 57, 54, 48, 54, 49, 54, 50, 54, 51, 54, 52, 54, 53, 54, 54, 54, 55, 54, 56, 54, 57, 55, 48, 55, 49, 55, 50, 55, 51, 55, 52, 55, 53, 55, 54, 55, 55, 55, 56, 55, 57, 56, 48, 56, 49, 56, 50, 56, 51, 56, 52, 56, 53, 56, 54, 56, 55, 56, 56, 56, 57, 57, 48, 57, 49, 57, 50, 57, 51, 57, 52, 57, 53, 57, 54, 57, 55, 57, 56, 57, 57]⟩ : ByteArray).data.toList.getD ((IntKind.u32.wrap ((IntKind.u32.wrap ((Int.tmod (IntKind.u32.wrap u_1) 100) * 2)) + 1)).toNat) 0).toNat : Int)]).bind fun σ36 =>
            bif ((decide (0 ≤ (IntKind.i64.wrap (nd_2 - 2)))) && (decide ((IntKind.i64.wrap (nd_2 - 2)) < (a1.n : Int)))) then (
              (a1.b).bind fun b37 =>
              (Heap.store σ36 b37 (a1.o + ((IntKind.i64.wrap (nd_2 - 2)).toNat) * 1) [.int .u8 (((⟨#[48, 48, 48, 49, 48, 50, 48, 51, 48, 52, 48, 53, 48, 54, 48, 55, 48, 56, 48, 57, 49, 48, 49, 49, 49, 50, 49, 51, 49, 52, 49, 53, 49, 54, 49, 55, 49, 56, 49, 57, 50, 48, 50, 49, 50, 50, 50, 51, 50, 52, 50, 53, 50, 54, 50, 55, 50, 56, 50, 57, 51, 48, 51, 49, 51, 50, 51, 51, 51, 52, 51, 53, 51, 54, 51, 55, 51, 56, 51, 57, 52, 48, 52, 49, 52, 50, 52, 51, 52, 52, 52, 53, 52, 54, 52, 55, 52, 56, 52, 57, 53, 48, 53, 49, 53, 50, 53, 51, 53, 52, 53, 53, 53, 54, 53, 55, 53, 56, 53, 57, 54, 48, 54, 49, 54, 50, 54, 51, 54, 52, 54, 53, 54, 54, 54, 55, 54, 56, 54, 57, 55, 48, 55, 49, 55, 50, 55, 51, 55, 52, 55, 53, 55, 54, 55, 55, 55, 56, 55, 57, 56, 48, 56, 49, 56, 50, 56, 51, 56, 52, 56, 53, 56, 54, 56, 55, 56, 56, 56, 57, 57, 48, 57, 49, 57, 50, 57, 51, 57, 52, 57, 53, 57, 54, 57, 55, 57, 56, 57, 57]⟩ : ByteArray).data.toList.getD ((IntKind.u32.wrap ((Int.tmod (IntKind.u32.wrap u_1) 100) * 2)).toNat) 0).toNat : Int)]).bind fun σ38 =>
              bif (decide ((IntKind.i64.wrap (nd_2 - 2)) > 0)) then (
                bif (decide (0 < (a1.n : Int))) then (
                  (a1.b).bind fun b39 =>
                  (Heap.store σ38 b39 a1.o [.int .u8 (IntKind.u8.wrap (IntKind.u32.wrap (48 + (IntKind.u32.wrap (Int.tdiv (IntKind.u32.wrap u_1) 100)))))]).bind fun σ40 =>
                  K (.tuple []) σ40)
                else none)
              else K (.tuple []) σ38)
            else none)
          else none)
        else none)
      else none)
    else
    bif (decide (nd_2 > 0)) then (
      bif (decide (0 < (a1.n : Int))) then (
        (a1.b).bind fun b41 =>
        (Heap.store σ b41 a1.o [.int .u8 (IntKind.u8.wrap (IntKind.u32.wrap (48 + (IntKind.u32.wrap u_1))))]).bind fun σ42 =>
        K (.tuple []) σ42)
      else none)
    else K (.tuple []) σ := by kernel_rfl
set_option maxRecDepth 100000 in
theorem internal_strconv_formatBase10_eq {R : Type} (L : Nat) (a1 : Sl) (u2 : Int) (σ : Heap) (K : AVal → Heap → Option R) :
    callC T known0 L 2 63 [.slice a1.b a1.o a1.n 1, .int .u64 u2] σ K =
    internal_strconv_formatBase10_L1 L L a1 u2 (a1.n : Int) σ K := by kernel_rfl
/-! internal_strconv_FormatInt -/
set_option maxRecDepth 100000 in
theorem internal_strconv_FormatInt_eq {R : Type} (w : C_internal_strconv_FormatInt) (L : Nat) (i1 : Int) (base2 : Int) (σ : Heap) (K : AVal → Heap → Option R) :
    callC T (O_internal_strconv_FormatInt w) L 2 54 [.int .i64 i1, .int .i64 base2] σ K =
    bif (base2 == 10) then (
      bif (decide (0 ≤ i1)) then (
        bif (decide (i1 < 100)) then (
          (w.internal_strconv_small i1 σ).bind fun q3 =>
          K (.str q3.1) q3.2)
        else
        alloc σ [.int .u8 0, .int .u8 0, .int .u8 0, .int .u8 0, .int .u8 0, .int .u8 0, .int .u8 0, .int .u8 0, .int .u8 0, .int .u8 0, .int .u8 0, .int .u8 0, .int .u8 0, .int .u8 0, .int .u8 0, .int .u8 0, .int .u8 0, .int .u8 0, .int .u8 0, .int .u8 0, .int .u8 0, .int .u8 0, .int .u8 0, .int .u8 0] fun b4 σ5 =>
        bif (decide (i1 < 0)) then (
          (w.internal_strconv_numDigits (IntKind.u64.wrap (0 - (IntKind.u64.wrap i1))) σ5).bind fun q6 =>
          (Heap.row? q6.2 b4).bind fun cs7 =>
          bif (decide (24 ≤ cs7.length)) then (
            bif ((decide (1 ≤ (IntKind.i64.wrap (1 + q6.1)))) && (decide ((IntKind.i64.wrap (1 + q6.1)) ≤ 24))) then (
              (w.internal_strconv_formatBase10 ⟨(some b4), 1, ((IntKind.i64.wrap (1 + q6.1)).toNat - 1)⟩ (IntKind.u64.wrap (0 - (IntKind.u64.wrap i1))) q6.2).bind fun q8 =>
              bif (decide (i1 < 0)) then (
                (Heap.store q8.2 b4 0 [.int .u8 45]).bind fun σ9 =>
                (Heap.row? σ9 b4).bind fun cs10 =>
                bif (decide (24 ≤ cs10.length)) then (
                  bif ((decide (0 ≤ (IntKind.i64.wrap (1 + q6.1)))) && (decide ((IntKind.i64.wrap (1 + q6.1)) ≤ 24))) then (
                    (Heap.read σ9 (some b4) 0 ((IntKind.i64.wrap (1 + q6.1)).toNat) 1).bind fun cs11 =>
                    (bytesOf cs11).bind fun bs12 =>
                    K (.str (⟨bs12.toArray⟩ : ByteArray)) σ9)
                  else none)
                else none)
              else
              (Heap.row? q8.2 b4).bind fun cs13 =>
              bif (decide (24 ≤ cs13.length)) then (
                bif ((decide (1 ≤ (IntKind.i64.wrap (1 + q6.1)))) && (decide ((IntKind.i64.wrap (1 + q6.1)) ≤ 24))) then (
                  (Heap.read q8.2 (some b4) 1 ((IntKind.i64.wrap (1 + q6.1)).toNat - 1) 1).bind fun cs14 =>
                  (bytesOf cs14).bind fun bs15 =>
                  K (.str (⟨bs15.toArray⟩ : ByteArray)) q8.2)
                else none)
              else none)
            else none)
          else none)
        else
        (w.internal_strconv_numDigits (IntKind.u64.wrap i1) σ5).bind fun q16 =>
        (Heap.row? q16.2 b4).bind fun cs17 =>
        bif (decide (24 ≤ cs17.length)) then (
          bif ((decide (1 ≤ (IntKind.i64.wrap (1 + q16.1)))) && (decide ((IntKind.i64.wrap (1 + q16.1)) ≤ 24))) then (
            (w.internal_strconv_formatBase10 ⟨(some b4), 1, ((IntKind.i64.wrap (1 + q16.1)).toNat - 1)⟩ (IntKind.u64.wrap i1) q16.2).bind fun q18 =>
            bif (decide (i1 < 0)) then (
              (Heap.store q18.2 b4 0 [.int .u8 45]).bind fun σ19 =>
              (Heap.row? σ19 b4).bind fun cs20 =>
              bif (decide (24 ≤ cs20.length)) then (
                bif ((decide (0 ≤ (IntKind.i64.wrap (1 + q16.1)))) && (decide ((IntKind.i64.wrap (1 + q16.1)) ≤ 24))) then (
                  (Heap.read σ19 (some b4) 0 ((IntKind.i64.wrap (1 + q16.1)).toNat) 1).bind fun cs21 =>
                  (bytesOf cs21).bind fun bs22 =>
                  K (.str (⟨bs22.toArray⟩ : ByteArray)) σ19)
                else none)
              else none)
            else
            (Heap.row? q18.2 b4).bind fun cs23 =>
            bif (decide (24 ≤ cs23.length)) then (
              bif ((decide (1 ≤ (IntKind.i64.wrap (1 + q16.1)))) && (decide ((IntKind.i64.wrap (1 + q16.1)) ≤ 24))) then (
                (Heap.read q18.2 (some b4) 1 ((IntKind.i64.wrap (1 + q16.1)).toNat - 1) 1).bind fun cs24 =>
                (bytesOf cs24).bind fun bs25 =>
                K (.str (⟨bs25.toArray⟩ : ByteArray)) q18.2)
              else none)
            else none)
          else none)
        else none)
      else
      alloc σ [.int .u8 0, .int .u8 0, .int .u8 0, .int .u8 0, .int .u8 0, .int .u8 0, .int .u8 0, .int .u8 0, .int .u8 0, .int .u8 0, .int .u8 0, .int .u8 0, .int .u8 0, .int .u8 0, .int .u8 0, .int .u8 0, .int .u8 0, .int .u8 0, .int .u8 0, .int .u8 0, .int .u8 0, .int .u8 0, .int .u8 0, .int .u8 0] fun b26 σ27 =>
      bif (decide (i1 < 0)) then (
        (w.internal_strconv_numDigits (IntKind.u64.wrap (0 - (IntKind.u64.wrap i1))) σ27).bind fun q28 =>
        (Heap.row? q28.2 b26).bind fun cs29 =>
        bif (decide (24 ≤ cs29.length)) then (
          bif ((decide (1 ≤ (IntKind.i64.wrap (1 + q28.1)))) && (decide ((IntKind.i64.wrap (1 + q28.1)) ≤ 24))) then (
            (w.internal_strconv_formatBase10 ⟨(some b26), 1, ((IntKind.i64.wrap (1 + q28.1)).toNat - 1)⟩ (IntKind.u64.wrap (0 - (IntKind.u64.wrap i1))) q28.2).bind fun q30 =>
            bif (decide (i1 < 0)) then (
              (Heap.store q30.2 b26 0 [.int .u8 45]).bind fun σ31 =>
              (Heap.row? σ31 b26).bind fun cs32 =>
              bif (decide (24 ≤ cs32.length)) then (
                bif ((decide (0 ≤ (IntKind.i64.wrap (1 + q28.1)))) && (decide ((IntKind.i64.wrap (1 + q28.1)) ≤ 24))) then (
                  (Heap.read σ31 (some b26) 0 ((IntKind.i64.wrap (1 + q28.1)).toNat) 1).bind fun cs33 =>
                  (bytesOf cs33).bind fun bs34 =>
                  K (.str (⟨bs34.toArray⟩ : ByteArray)) σ31)
                else none)
              else none)
            else
            (Heap.row? q30.2 b26).bind fun cs35 =>
            bif (decide (24 ≤ cs35.length)) then (
              bif ((decide (1 ≤ (IntKind.i64.wrap (1 + q28.1)))) && (decide ((IntKind.i64.wrap (1 + q28.1)) ≤ 24))) then (
                (Heap.read q30.2 (some b26) 1 ((IntKind.i64.wrap (1 + q28.1)).toNat - 1) 1).bind fun cs36 =>
                (bytesOf cs36).bind fun bs37 =>
                K (.str (⟨bs37.toArray⟩ : ByteArray)) q30.2)
              else none)
            else none)
          else none)
        else none)
      else
      (w.internal_strconv_numDigits (IntKind.u64.wrap i1) σ27).bind fun q38 =>
      (Heap.row? q38.2 b26).bind fun cs39 =>
      bif (decide (24 ≤ cs39.length)) then (
        bif ((decide (1 ≤ (IntKind.i64.wrap (1 + q38.1)))) && (decide ((IntKind.i64.wrap (1 + q38.1)) ≤ 24))) then (
          (w.internal_strconv_formatBase10 ⟨(some b26), 1, ((IntKind.i64.wrap (1 + q38.1)).toNat - 1)⟩ (IntKind.u64.wrap i1) q38.2).bind fun q40 =>
          bif (decide (i1 < 0)) then (
            (Heap.store q40.2 b26 0 [.int .u8 45]).bind fun σ41 =>
            (Heap.row? σ41 b26).bind fun cs42 =>
            bif (decide (24 ≤ cs42.length)) then (
              bif ((decide (0 ≤ (IntKind.i64.wrap (1 + q38.1)))) && (decide ((IntKind.i64.wrap (1 + q38.1)) ≤ 24))) then (
                (Heap.read σ41 (some b26) 0 ((IntKind.i64.wrap (1 + q38.1)).toNat) 1).bind fun cs43 =>
                (bytesOf cs43).bind fun bs44 =>
                K (.str (⟨bs44.toArray⟩ : ByteArray)) σ41)
              else none)
            else none)
          else
          (Heap.row? q40.2 b26).bind fun cs45 =>
          bif (decide (24 ≤ cs45.length)) then (
            bif ((decide (1 ≤ (IntKind.i64.wrap (1 + q38.1)))) && (decide ((IntKind.i64.wrap (1 + q38.1)) ≤ 24))) then (
              (Heap.read q40.2 (some b26) 1 ((IntKind.i64.wrap (1 + q38.1)).toNat - 1) 1).bind fun cs46 =>
              (bytesOf cs46).bind fun bs47 =>
              K (.str (⟨bs47.toArray⟩ : ByteArray)) q40.2)
            else none)
          else none)
        else none)
      else none)
    else
    (w.internal_strconv_formatBits ⟨none, 0, 0⟩ (IntKind.u64.wrap i1) base2 (decide (i1 < 0)) false σ).bind fun q48 =>
    K (.str q48.1.2) q48.2 := by kernel_rfl
/-! internal_strconv_Itoa -/
set_option maxRecDepth 100000 in
theorem internal_strconv_Itoa_eq {R : Type} (w : C_internal_strconv_Itoa) (L : Nat) (i1 : Int) (σ : Heap) (K : AVal → Heap → Option R) :
    callC T (O_internal_strconv_Itoa w) L 2 43 [.int .i64 i1] σ K =
    (w.internal_strconv_FormatInt i1 10 σ).bind fun q2 =>
    K (.str q2.1) q2.2 := by kernel_rfl
/-! strconv_Itoa -/
set_option maxRecDepth 100000 in
theorem strconv_Itoa_eq {R : Type} (w : C_strconv_Itoa) (L : Nat) (i1 : Int) (σ : Heap) (K : AVal → Heap → Option R) :
    callC T (O_strconv_Itoa w) L 2 31 [.int .i64 i1] σ K =
    (w.internal_strconv_Itoa i1 σ).bind fun q2 =>
    K (.str q2.1) q2.2 := by kernel_rfl
/-! json_Time -/
noncomputable def json_Time_L3 {R : Type} (w : C_json_Time) (L fu0 : Nat) (s_1 : ByteArray) (t_2 : ByteArray) (σ : Heap) (K : AVal → Heap → Option R) : Option R :=
  loopAt T (O_json_Time w) L 1 23 Tryd.f23 [1, 1, 1, 0, 0] [] fu0
    ([.undef, .undef, .undef, .str s_1, .str t_2] ++ List.replicate 15 .undef)
    (List.replicate 20 .none) σ K
set_option maxRecDepth 100000 in
theorem json_Time_L3_eq {R : Type} (w : C_json_Time) (L fu0 : Nat) (s_1 : ByteArray) (t_2 : ByteArray) (σ : Heap) (K : AVal → Heap → Option R) :
    json_Time_L3 w L (fu0 + 1) s_1 t_2 σ K =
    bif (decide ((t_2.size : Int) < 6)) then (
      if (⟨#[48]⟩ : ByteArray).size + t_2.size ≤ 9223372036854775807 then (
        json_Time_L3 w L fu0 s_1 ((⟨#[48]⟩ : ByteArray) ++ t_2) σ K)
      else (
        none))
    else
    if s_1.size + (⟨#[46]⟩ : ByteArray).size ≤ 9223372036854775807 then (
      if (s_1 ++ (⟨#[46]⟩ : ByteArray)).size + t_2.size ≤ 9223372036854775807 then (
        K (.str ((s_1 ++ (⟨#[46]⟩ : ByteArray)) ++ t_2)) σ)
      else (
        none))
    else (
      none) := by kernel_rfl
set_option maxRecDepth 100000 in
theorem json_Time_eq {R : Type} (w : C_json_Time) (L : Nat) (n1 : Int) (σ : Heap) (K : AVal → Heap → Option R) :
    callC T (O_json_Time w) L 2 23 [.int .i64 n1] σ K =
    (w.strconv_Itoa (IntKind.i64.wrap (Int.tdiv n1 1000000)) σ).bind fun q2 =>
    (w.strconv_Itoa (Int.tmod n1 1000000) q2.2).bind fun q3 =>
    json_Time_L3 w L L q2.1 q3.1 q3.2 K := by kernel_rfl
/-! law03_fit -/
set_option maxRecDepth 100000 in
theorem law03_fit_eq {R : Type} (w : C_law03_fit) (L : Nat) (σ : Heap) (K : AVal → Heap → Option R) :
    callC T (O_law03_fit w) L 2 14 [] σ K =
    (w.json_Time 1500000 σ).bind fun q1 =>
    bif (q1.1.toList == (⟨#[49, 46, 53, 48, 48, 48, 48, 48]⟩ : ByteArray).toList) then (
      (w.json_Quote (⟨#[97, 34, 98]⟩ : ByteArray) q1.2).bind fun q2 =>
      K (.bool (q2.1.toList == (⟨#[34, 97, 92, 34, 98, 34]⟩ : ByteArray).toList)) q2.2)
    else K (.bool false) q1.2 := by kernel_rfl
end Go.Abs.TB
