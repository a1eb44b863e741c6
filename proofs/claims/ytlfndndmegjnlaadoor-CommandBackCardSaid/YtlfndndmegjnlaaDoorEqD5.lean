/-
Lifted functions: what the machine does, one equation for each entry and each loop (printed by lift.py).
-/
import Derived.Test.YtlfndndmegjnlaaDoorSigD
namespace Go.Abs.TD
open Go Go.Abs Go.Proofs
/-! law21_CommandBack -/
set_option maxRecDepth 100000 in
theorem law21_CommandBack_eq {R : Type} (w : C_law21_CommandBack) (L : Nat) (kind1 : Int) (n2 : Arr_2_Int) (text3 : ByteArray) (σ : Heap) (K : AVal → Heap → Option R) :
    callC T (O_law21_CommandBack w) L 2 6 [.int .i64 kind1, .agg [.int .i64 n2.i0, .int .i64 n2.i1], .str text3] σ K =
    (w.law21_fit σ).bind fun q4 =>
    bif (!q4.1) then (
      K (.bool false) q4.2)
    else
    bif ((Int.tmod (IntKind.i64.wrap (BitVec.ofInt IntKind.i64.bits kind1 &&& BitVec.ofInt IntKind.i64.bits 65535).toNat) 18) == 3) then (
      bif ((Int.tmod (IntKind.i64.wrap (BitVec.ofInt IntKind.i64.bits kind1 &&& BitVec.ofInt IntKind.i64.bits 65535).toNat) 18) == 3) then (
        (w.command_Print ⟨(Int.tmod (IntKind.i64.wrap (BitVec.ofInt IntKind.i64.bits kind1 &&& BitVec.ofInt IntKind.i64.bits 65535).toNat) 18), (IntKind.i64.wrap (BitVec.ofInt IntKind.i64.bits n2.i0 &&& BitVec.ofInt IntKind.i64.bits 9223372036854775807).toNat), 0, (⟨#[]⟩ : ByteArray)⟩ q4.2).bind fun q5 =>
        (w.command_Parse q5.1 q5.2).bind fun q6 =>
        bif (q6.1.2 == 0) then (
          K (.bool (((q6.1.1.Kind : Int) == (Int.tmod (IntKind.i64.wrap (BitVec.ofInt IntKind.i64.bits kind1 &&& BitVec.ofInt IntKind.i64.bits 65535).toNat) 18)) && (((q6.1.1.N : Int) == (IntKind.i64.wrap (BitVec.ofInt IntKind.i64.bits n2.i0 &&& BitVec.ofInt IntKind.i64.bits 9223372036854775807).toNat)) && (((q6.1.1.M : Int) == 0) && ((q6.1.1.Text.toList == (⟨#[]⟩ : ByteArray).toList) && true))))) q6.2)
        else
        K (.bool false) q6.2)
      else
      bif ((Int.tmod (IntKind.i64.wrap (BitVec.ofInt IntKind.i64.bits kind1 &&& BitVec.ofInt IntKind.i64.bits 65535).toNat) 18) == 7) then (
        bif ((Int.tmod (IntKind.i64.wrap (BitVec.ofInt IntKind.i64.bits kind1 &&& BitVec.ofInt IntKind.i64.bits 65535).toNat) 18) == 7) then (
          (w.command_Print ⟨(Int.tmod (IntKind.i64.wrap (BitVec.ofInt IntKind.i64.bits kind1 &&& BitVec.ofInt IntKind.i64.bits 65535).toNat) 18), (IntKind.i64.wrap (BitVec.ofInt IntKind.i64.bits n2.i0 &&& BitVec.ofInt IntKind.i64.bits 9223372036854775807).toNat), (IntKind.i64.wrap (BitVec.ofInt IntKind.i64.bits n2.i1 &&& BitVec.ofInt IntKind.i64.bits 9223372036854775807).toNat), (⟨#[]⟩ : ByteArray)⟩ q4.2).bind fun q7 =>
          (w.command_Parse q7.1 q7.2).bind fun q8 =>
          bif (q8.1.2 == 0) then (
            K (.bool (((q8.1.1.Kind : Int) == (Int.tmod (IntKind.i64.wrap (BitVec.ofInt IntKind.i64.bits kind1 &&& BitVec.ofInt IntKind.i64.bits 65535).toNat) 18)) && (((q8.1.1.N : Int) == (IntKind.i64.wrap (BitVec.ofInt IntKind.i64.bits n2.i0 &&& BitVec.ofInt IntKind.i64.bits 9223372036854775807).toNat)) && (((q8.1.1.M : Int) == (IntKind.i64.wrap (BitVec.ofInt IntKind.i64.bits n2.i1 &&& BitVec.ofInt IntKind.i64.bits 9223372036854775807).toNat)) && ((q8.1.1.Text.toList == (⟨#[]⟩ : ByteArray).toList) && true))))) q8.2)
          else
          K (.bool false) q8.2)
        else
        bif ((Int.tmod (IntKind.i64.wrap (BitVec.ofInt IntKind.i64.bits kind1 &&& BitVec.ofInt IntKind.i64.bits 65535).toNat) 18) == 4) then (
          bif ((Int.tmod (IntKind.i64.wrap (BitVec.ofInt IntKind.i64.bits kind1 &&& BitVec.ofInt IntKind.i64.bits 65535).toNat) 18) == 4) then (
            bif ((decide (0 ≤ (if 40 < (text3.size : Int) then 40 else (text3.size : Int)))) && (decide ((if 40 < (text3.size : Int) then 40 else (text3.size : Int)) ≤ (text3.size : Int)))) then (
              (w.command_Print ⟨(Int.tmod (IntKind.i64.wrap (BitVec.ofInt IntKind.i64.bits kind1 &&& BitVec.ofInt IntKind.i64.bits 65535).toNat) 18), 0, 0, (text3.extract 0 (if 40 < (text3.size : Int) then 40 else (text3.size : Int)).toNat)⟩ q4.2).bind fun q9 =>
              (w.command_Parse q9.1 q9.2).bind fun q10 =>
              bif (q10.1.2 == 0) then (
                K (.bool (((q10.1.1.Kind : Int) == (Int.tmod (IntKind.i64.wrap (BitVec.ofInt IntKind.i64.bits kind1 &&& BitVec.ofInt IntKind.i64.bits 65535).toNat) 18)) && (((q10.1.1.N : Int) == 0) && (((q10.1.1.M : Int) == 0) && ((q10.1.1.Text.toList == (text3.extract 0 (if 40 < (text3.size : Int) then 40 else (text3.size : Int)).toNat).toList) && true))))) q10.2)
              else
              K (.bool false) q10.2)
            else none)
          else
          bif ((Int.tmod (IntKind.i64.wrap (BitVec.ofInt IntKind.i64.bits kind1 &&& BitVec.ofInt IntKind.i64.bits 65535).toNat) 18) == 16) then (
            bif ((decide (0 ≤ (if 35 < (text3.size : Int) then 35 else (text3.size : Int)))) && (decide ((if 35 < (text3.size : Int) then 35 else (text3.size : Int)) ≤ (text3.size : Int)))) then (
              if (⟨#[109, 97, 114, 107, 32]⟩ : ByteArray).size + (text3.extract 0 (if 35 < (text3.size : Int) then 35 else (text3.size : Int)).toNat).size ≤ 9223372036854775807 then (
                (w.command_Print ⟨(Int.tmod (IntKind.i64.wrap (BitVec.ofInt IntKind.i64.bits kind1 &&& BitVec.ofInt IntKind.i64.bits 65535).toNat) 18), (IntKind.i64.wrap (33 + (Int.tmod (IntKind.i64.wrap (BitVec.ofInt IntKind.i64.bits n2.i0 &&& BitVec.ofInt IntKind.i64.bits 65535).toNat) 94))), 0, ((⟨#[109, 97, 114, 107, 32]⟩ : ByteArray) ++ (text3.extract 0 (if 35 < (text3.size : Int) then 35 else (text3.size : Int)).toNat))⟩ q4.2).bind fun q11 =>
                (w.command_Parse q11.1 q11.2).bind fun q12 =>
                bif (q12.1.2 == 0) then (
                  K (.bool (((q12.1.1.Kind : Int) == (Int.tmod (IntKind.i64.wrap (BitVec.ofInt IntKind.i64.bits kind1 &&& BitVec.ofInt IntKind.i64.bits 65535).toNat) 18)) && (((q12.1.1.N : Int) == (IntKind.i64.wrap (33 + (Int.tmod (IntKind.i64.wrap (BitVec.ofInt IntKind.i64.bits n2.i0 &&& BitVec.ofInt IntKind.i64.bits 65535).toNat) 94)))) && (((q12.1.1.M : Int) == 0) && ((q12.1.1.Text.toList == ((⟨#[109, 97, 114, 107, 32]⟩ : ByteArray) ++ (text3.extract 0 (if 35 < (text3.size : Int) then 35 else (text3.size : Int)).toNat)).toList) && true))))) q12.2)
                else
                K (.bool false) q12.2)
              else (
                none))
            else none)
          else
          bif ((Int.tmod (IntKind.i64.wrap (BitVec.ofInt IntKind.i64.bits kind1 &&& BitVec.ofInt IntKind.i64.bits 65535).toNat) 18) == 17) then (
            (w.command_Print ⟨(Int.tmod (IntKind.i64.wrap (BitVec.ofInt IntKind.i64.bits kind1 &&& BitVec.ofInt IntKind.i64.bits 65535).toNat) 18), (IntKind.i64.wrap (33 + (Int.tmod (IntKind.i64.wrap (BitVec.ofInt IntKind.i64.bits n2.i0 &&& BitVec.ofInt IntKind.i64.bits 65535).toNat) 94))), 0, (⟨#[]⟩ : ByteArray)⟩ q4.2).bind fun q13 =>
            (w.command_Parse q13.1 q13.2).bind fun q14 =>
            bif (q14.1.2 == 0) then (
              K (.bool (((q14.1.1.Kind : Int) == (Int.tmod (IntKind.i64.wrap (BitVec.ofInt IntKind.i64.bits kind1 &&& BitVec.ofInt IntKind.i64.bits 65535).toNat) 18)) && (((q14.1.1.N : Int) == (IntKind.i64.wrap (33 + (Int.tmod (IntKind.i64.wrap (BitVec.ofInt IntKind.i64.bits n2.i0 &&& BitVec.ofInt IntKind.i64.bits 65535).toNat) 94)))) && (((q14.1.1.M : Int) == 0) && ((q14.1.1.Text.toList == (⟨#[]⟩ : ByteArray).toList) && true))))) q14.2)
            else
            K (.bool false) q14.2)
          else
          (w.command_Print ⟨(Int.tmod (IntKind.i64.wrap (BitVec.ofInt IntKind.i64.bits kind1 &&& BitVec.ofInt IntKind.i64.bits 65535).toNat) 18), 0, 0, (⟨#[]⟩ : ByteArray)⟩ q4.2).bind fun q15 =>
          (w.command_Parse q15.1 q15.2).bind fun q16 =>
          bif (q16.1.2 == 0) then (
            K (.bool (((q16.1.1.Kind : Int) == (Int.tmod (IntKind.i64.wrap (BitVec.ofInt IntKind.i64.bits kind1 &&& BitVec.ofInt IntKind.i64.bits 65535).toNat) 18)) && (((q16.1.1.N : Int) == 0) && (((q16.1.1.M : Int) == 0) && ((q16.1.1.Text.toList == (⟨#[]⟩ : ByteArray).toList) && true))))) q16.2)
          else
          K (.bool false) q16.2)
        else
        bif ((Int.tmod (IntKind.i64.wrap (BitVec.ofInt IntKind.i64.bits kind1 &&& BitVec.ofInt IntKind.i64.bits 65535).toNat) 18) == 6) then (
          bif ((decide (0 ≤ (if 40 < (text3.size : Int) then 40 else (text3.size : Int)))) && (decide ((if 40 < (text3.size : Int) then 40 else (text3.size : Int)) ≤ (text3.size : Int)))) then (
            (w.command_Print ⟨(Int.tmod (IntKind.i64.wrap (BitVec.ofInt IntKind.i64.bits kind1 &&& BitVec.ofInt IntKind.i64.bits 65535).toNat) 18), 0, 0, (text3.extract 0 (if 40 < (text3.size : Int) then 40 else (text3.size : Int)).toNat)⟩ q4.2).bind fun q17 =>
            (w.command_Parse q17.1 q17.2).bind fun q18 =>
            bif (q18.1.2 == 0) then (
              K (.bool (((q18.1.1.Kind : Int) == (Int.tmod (IntKind.i64.wrap (BitVec.ofInt IntKind.i64.bits kind1 &&& BitVec.ofInt IntKind.i64.bits 65535).toNat) 18)) && (((q18.1.1.N : Int) == 0) && (((q18.1.1.M : Int) == 0) && ((q18.1.1.Text.toList == (text3.extract 0 (if 40 < (text3.size : Int) then 40 else (text3.size : Int)).toNat).toList) && true))))) q18.2)
            else
            K (.bool false) q18.2)
          else none)
        else
        bif ((Int.tmod (IntKind.i64.wrap (BitVec.ofInt IntKind.i64.bits kind1 &&& BitVec.ofInt IntKind.i64.bits 65535).toNat) 18) == 16) then (
          bif ((decide (0 ≤ (if 35 < (text3.size : Int) then 35 else (text3.size : Int)))) && (decide ((if 35 < (text3.size : Int) then 35 else (text3.size : Int)) ≤ (text3.size : Int)))) then (
            if (⟨#[109, 97, 114, 107, 32]⟩ : ByteArray).size + (text3.extract 0 (if 35 < (text3.size : Int) then 35 else (text3.size : Int)).toNat).size ≤ 9223372036854775807 then (
              (w.command_Print ⟨(Int.tmod (IntKind.i64.wrap (BitVec.ofInt IntKind.i64.bits kind1 &&& BitVec.ofInt IntKind.i64.bits 65535).toNat) 18), (IntKind.i64.wrap (33 + (Int.tmod (IntKind.i64.wrap (BitVec.ofInt IntKind.i64.bits n2.i0 &&& BitVec.ofInt IntKind.i64.bits 65535).toNat) 94))), 0, ((⟨#[109, 97, 114, 107, 32]⟩ : ByteArray) ++ (text3.extract 0 (if 35 < (text3.size : Int) then 35 else (text3.size : Int)).toNat))⟩ q4.2).bind fun q19 =>
              (w.command_Parse q19.1 q19.2).bind fun q20 =>
              bif (q20.1.2 == 0) then (
                K (.bool (((q20.1.1.Kind : Int) == (Int.tmod (IntKind.i64.wrap (BitVec.ofInt IntKind.i64.bits kind1 &&& BitVec.ofInt IntKind.i64.bits 65535).toNat) 18)) && (((q20.1.1.N : Int) == (IntKind.i64.wrap (33 + (Int.tmod (IntKind.i64.wrap (BitVec.ofInt IntKind.i64.bits n2.i0 &&& BitVec.ofInt IntKind.i64.bits 65535).toNat) 94)))) && (((q20.1.1.M : Int) == 0) && ((q20.1.1.Text.toList == ((⟨#[109, 97, 114, 107, 32]⟩ : ByteArray) ++ (text3.extract 0 (if 35 < (text3.size : Int) then 35 else (text3.size : Int)).toNat)).toList) && true))))) q20.2)
              else
              K (.bool false) q20.2)
            else (
              none))
          else none)
        else
        bif ((Int.tmod (IntKind.i64.wrap (BitVec.ofInt IntKind.i64.bits kind1 &&& BitVec.ofInt IntKind.i64.bits 65535).toNat) 18) == 17) then (
          (w.command_Print ⟨(Int.tmod (IntKind.i64.wrap (BitVec.ofInt IntKind.i64.bits kind1 &&& BitVec.ofInt IntKind.i64.bits 65535).toNat) 18), (IntKind.i64.wrap (33 + (Int.tmod (IntKind.i64.wrap (BitVec.ofInt IntKind.i64.bits n2.i0 &&& BitVec.ofInt IntKind.i64.bits 65535).toNat) 94))), 0, (⟨#[]⟩ : ByteArray)⟩ q4.2).bind fun q21 =>
          (w.command_Parse q21.1 q21.2).bind fun q22 =>
          bif (q22.1.2 == 0) then (
            K (.bool (((q22.1.1.Kind : Int) == (Int.tmod (IntKind.i64.wrap (BitVec.ofInt IntKind.i64.bits kind1 &&& BitVec.ofInt IntKind.i64.bits 65535).toNat) 18)) && (((q22.1.1.N : Int) == (IntKind.i64.wrap (33 + (Int.tmod (IntKind.i64.wrap (BitVec.ofInt IntKind.i64.bits n2.i0 &&& BitVec.ofInt IntKind.i64.bits 65535).toNat) 94)))) && (((q22.1.1.M : Int) == 0) && ((q22.1.1.Text.toList == (⟨#[]⟩ : ByteArray).toList) && true))))) q22.2)
          else
          K (.bool false) q22.2)
        else
        (w.command_Print ⟨(Int.tmod (IntKind.i64.wrap (BitVec.ofInt IntKind.i64.bits kind1 &&& BitVec.ofInt IntKind.i64.bits 65535).toNat) 18), 0, 0, (⟨#[]⟩ : ByteArray)⟩ q4.2).bind fun q23 =>
        (w.command_Parse q23.1 q23.2).bind fun q24 =>
        bif (q24.1.2 == 0) then (
          K (.bool (((q24.1.1.Kind : Int) == (Int.tmod (IntKind.i64.wrap (BitVec.ofInt IntKind.i64.bits kind1 &&& BitVec.ofInt IntKind.i64.bits 65535).toNat) 18)) && (((q24.1.1.N : Int) == 0) && (((q24.1.1.M : Int) == 0) && ((q24.1.1.Text.toList == (⟨#[]⟩ : ByteArray).toList) && true))))) q24.2)
        else
        K (.bool false) q24.2)
      else
      bif ((Int.tmod (IntKind.i64.wrap (BitVec.ofInt IntKind.i64.bits kind1 &&& BitVec.ofInt IntKind.i64.bits 65535).toNat) 18) == 13) then (
        (w.command_Print ⟨(Int.tmod (IntKind.i64.wrap (BitVec.ofInt IntKind.i64.bits kind1 &&& BitVec.ofInt IntKind.i64.bits 65535).toNat) 18), (IntKind.i64.wrap (BitVec.ofInt IntKind.i64.bits n2.i0 &&& BitVec.ofInt IntKind.i64.bits 9223372036854775807).toNat), (IntKind.i64.wrap (BitVec.ofInt IntKind.i64.bits n2.i1 &&& BitVec.ofInt IntKind.i64.bits 9223372036854775807).toNat), (⟨#[]⟩ : ByteArray)⟩ q4.2).bind fun q25 =>
        (w.command_Parse q25.1 q25.2).bind fun q26 =>
        bif (q26.1.2 == 0) then (
          K (.bool (((q26.1.1.Kind : Int) == (Int.tmod (IntKind.i64.wrap (BitVec.ofInt IntKind.i64.bits kind1 &&& BitVec.ofInt IntKind.i64.bits 65535).toNat) 18)) && (((q26.1.1.N : Int) == (IntKind.i64.wrap (BitVec.ofInt IntKind.i64.bits n2.i0 &&& BitVec.ofInt IntKind.i64.bits 9223372036854775807).toNat)) && (((q26.1.1.M : Int) == (IntKind.i64.wrap (BitVec.ofInt IntKind.i64.bits n2.i1 &&& BitVec.ofInt IntKind.i64.bits 9223372036854775807).toNat)) && ((q26.1.1.Text.toList == (⟨#[]⟩ : ByteArray).toList) && true))))) q26.2)
        else
        K (.bool false) q26.2)
      else
      bif ((Int.tmod (IntKind.i64.wrap (BitVec.ofInt IntKind.i64.bits kind1 &&& BitVec.ofInt IntKind.i64.bits 65535).toNat) 18) == 4) then (
        bif ((Int.tmod (IntKind.i64.wrap (BitVec.ofInt IntKind.i64.bits kind1 &&& BitVec.ofInt IntKind.i64.bits 65535).toNat) 18) == 4) then (
          bif ((decide (0 ≤ (if 40 < (text3.size : Int) then 40 else (text3.size : Int)))) && (decide ((if 40 < (text3.size : Int) then 40 else (text3.size : Int)) ≤ (text3.size : Int)))) then (
            (w.command_Print ⟨(Int.tmod (IntKind.i64.wrap (BitVec.ofInt IntKind.i64.bits kind1 &&& BitVec.ofInt IntKind.i64.bits 65535).toNat) 18), 0, 0, (text3.extract 0 (if 40 < (text3.size : Int) then 40 else (text3.size : Int)).toNat)⟩ q4.2).bind fun q27 =>
            (w.command_Parse q27.1 q27.2).bind fun q28 =>
            bif (q28.1.2 == 0) then (
              K (.bool (((q28.1.1.Kind : Int) == (Int.tmod (IntKind.i64.wrap (BitVec.ofInt IntKind.i64.bits kind1 &&& BitVec.ofInt IntKind.i64.bits 65535).toNat) 18)) && (((q28.1.1.N : Int) == 0) && (((q28.1.1.M : Int) == 0) && ((q28.1.1.Text.toList == (text3.extract 0 (if 40 < (text3.size : Int) then 40 else (text3.size : Int)).toNat).toList) && true))))) q28.2)
            else
            K (.bool false) q28.2)
          else none)
        else
        bif ((Int.tmod (IntKind.i64.wrap (BitVec.ofInt IntKind.i64.bits kind1 &&& BitVec.ofInt IntKind.i64.bits 65535).toNat) 18) == 16) then (
          bif ((decide (0 ≤ (if 35 < (text3.size : Int) then 35 else (text3.size : Int)))) && (decide ((if 35 < (text3.size : Int) then 35 else (text3.size : Int)) ≤ (text3.size : Int)))) then (
            if (⟨#[109, 97, 114, 107, 32]⟩ : ByteArray).size + (text3.extract 0 (if 35 < (text3.size : Int) then 35 else (text3.size : Int)).toNat).size ≤ 9223372036854775807 then (
              (w.command_Print ⟨(Int.tmod (IntKind.i64.wrap (BitVec.ofInt IntKind.i64.bits kind1 &&& BitVec.ofInt IntKind.i64.bits 65535).toNat) 18), (IntKind.i64.wrap (33 + (Int.tmod (IntKind.i64.wrap (BitVec.ofInt IntKind.i64.bits n2.i0 &&& BitVec.ofInt IntKind.i64.bits 65535).toNat) 94))), 0, ((⟨#[109, 97, 114, 107, 32]⟩ : ByteArray) ++ (text3.extract 0 (if 35 < (text3.size : Int) then 35 else (text3.size : Int)).toNat))⟩ q4.2).bind fun q29 =>
              (w.command_Parse q29.1 q29.2).bind fun q30 =>
              bif (q30.1.2 == 0) then (
                K (.bool (((q30.1.1.Kind : Int) == (Int.tmod (IntKind.i64.wrap (BitVec.ofInt IntKind.i64.bits kind1 &&& BitVec.ofInt IntKind.i64.bits 65535).toNat) 18)) && (((q30.1.1.N : Int) == (IntKind.i64.wrap (33 + (Int.tmod (IntKind.i64.wrap (BitVec.ofInt IntKind.i64.bits n2.i0 &&& BitVec.ofInt IntKind.i64.bits 65535).toNat) 94)))) && (((q30.1.1.M : Int) == 0) && ((q30.1.1.Text.toList == ((⟨#[109, 97, 114, 107, 32]⟩ : ByteArray) ++ (text3.extract 0 (if 35 < (text3.size : Int) then 35 else (text3.size : Int)).toNat)).toList) && true))))) q30.2)
              else
              K (.bool false) q30.2)
            else (
              none))
          else none)
        else
        bif ((Int.tmod (IntKind.i64.wrap (BitVec.ofInt IntKind.i64.bits kind1 &&& BitVec.ofInt IntKind.i64.bits 65535).toNat) 18) == 17) then (
          (w.command_Print ⟨(Int.tmod (IntKind.i64.wrap (BitVec.ofInt IntKind.i64.bits kind1 &&& BitVec.ofInt IntKind.i64.bits 65535).toNat) 18), (IntKind.i64.wrap (33 + (Int.tmod (IntKind.i64.wrap (BitVec.ofInt IntKind.i64.bits n2.i0 &&& BitVec.ofInt IntKind.i64.bits 65535).toNat) 94))), 0, (⟨#[]⟩ : ByteArray)⟩ q4.2).bind fun q31 =>
          (w.command_Parse q31.1 q31.2).bind fun q32 =>
          bif (q32.1.2 == 0) then (
            K (.bool (((q32.1.1.Kind : Int) == (Int.tmod (IntKind.i64.wrap (BitVec.ofInt IntKind.i64.bits kind1 &&& BitVec.ofInt IntKind.i64.bits 65535).toNat) 18)) && (((q32.1.1.N : Int) == (IntKind.i64.wrap (33 + (Int.tmod (IntKind.i64.wrap (BitVec.ofInt IntKind.i64.bits n2.i0 &&& BitVec.ofInt IntKind.i64.bits 65535).toNat) 94)))) && (((q32.1.1.M : Int) == 0) && ((q32.1.1.Text.toList == (⟨#[]⟩ : ByteArray).toList) && true))))) q32.2)
          else
          K (.bool false) q32.2)
        else
        (w.command_Print ⟨(Int.tmod (IntKind.i64.wrap (BitVec.ofInt IntKind.i64.bits kind1 &&& BitVec.ofInt IntKind.i64.bits 65535).toNat) 18), 0, 0, (⟨#[]⟩ : ByteArray)⟩ q4.2).bind fun q33 =>
        (w.command_Parse q33.1 q33.2).bind fun q34 =>
        bif (q34.1.2 == 0) then (
          K (.bool (((q34.1.1.Kind : Int) == (Int.tmod (IntKind.i64.wrap (BitVec.ofInt IntKind.i64.bits kind1 &&& BitVec.ofInt IntKind.i64.bits 65535).toNat) 18)) && (((q34.1.1.N : Int) == 0) && (((q34.1.1.M : Int) == 0) && ((q34.1.1.Text.toList == (⟨#[]⟩ : ByteArray).toList) && true))))) q34.2)
        else
        K (.bool false) q34.2)
      else
      bif ((Int.tmod (IntKind.i64.wrap (BitVec.ofInt IntKind.i64.bits kind1 &&& BitVec.ofInt IntKind.i64.bits 65535).toNat) 18) == 6) then (
        bif ((decide (0 ≤ (if 40 < (text3.size : Int) then 40 else (text3.size : Int)))) && (decide ((if 40 < (text3.size : Int) then 40 else (text3.size : Int)) ≤ (text3.size : Int)))) then (
          (w.command_Print ⟨(Int.tmod (IntKind.i64.wrap (BitVec.ofInt IntKind.i64.bits kind1 &&& BitVec.ofInt IntKind.i64.bits 65535).toNat) 18), 0, 0, (text3.extract 0 (if 40 < (text3.size : Int) then 40 else (text3.size : Int)).toNat)⟩ q4.2).bind fun q35 =>
          (w.command_Parse q35.1 q35.2).bind fun q36 =>
          bif (q36.1.2 == 0) then (
            K (.bool (((q36.1.1.Kind : Int) == (Int.tmod (IntKind.i64.wrap (BitVec.ofInt IntKind.i64.bits kind1 &&& BitVec.ofInt IntKind.i64.bits 65535).toNat) 18)) && (((q36.1.1.N : Int) == 0) && (((q36.1.1.M : Int) == 0) && ((q36.1.1.Text.toList == (text3.extract 0 (if 40 < (text3.size : Int) then 40 else (text3.size : Int)).toNat).toList) && true))))) q36.2)
          else
          K (.bool false) q36.2)
        else none)
      else
      bif ((Int.tmod (IntKind.i64.wrap (BitVec.ofInt IntKind.i64.bits kind1 &&& BitVec.ofInt IntKind.i64.bits 65535).toNat) 18) == 16) then (
        bif ((decide (0 ≤ (if 35 < (text3.size : Int) then 35 else (text3.size : Int)))) && (decide ((if 35 < (text3.size : Int) then 35 else (text3.size : Int)) ≤ (text3.size : Int)))) then (
          if (⟨#[109, 97, 114, 107, 32]⟩ : ByteArray).size + (text3.extract 0 (if 35 < (text3.size : Int) then 35 else (text3.size : Int)).toNat).size ≤ 9223372036854775807 then (
            (w.command_Print ⟨(Int.tmod (IntKind.i64.wrap (BitVec.ofInt IntKind.i64.bits kind1 &&& BitVec.ofInt IntKind.i64.bits 65535).toNat) 18), (IntKind.i64.wrap (33 + (Int.tmod (IntKind.i64.wrap (BitVec.ofInt IntKind.i64.bits n2.i0 &&& BitVec.ofInt IntKind.i64.bits 65535).toNat) 94))), 0, ((⟨#[109, 97, 114, 107, 32]⟩ : ByteArray) ++ (text3.extract 0 (if 35 < (text3.size : Int) then 35 else (text3.size : Int)).toNat))⟩ q4.2).bind fun q37 =>
            (w.command_Parse q37.1 q37.2).bind fun q38 =>
            bif (q38.1.2 == 0) then (
              K (.bool (((q38.1.1.Kind : Int) == (Int.tmod (IntKind.i64.wrap (BitVec.ofInt IntKind.i64.bits kind1 &&& BitVec.ofInt IntKind.i64.bits 65535).toNat) 18)) && (((q38.1.1.N : Int) == (IntKind.i64.wrap (33 + (Int.tmod (IntKind.i64.wrap (BitVec.ofInt IntKind.i64.bits n2.i0 &&& BitVec.ofInt IntKind.i64.bits 65535).toNat) 94)))) && (((q38.1.1.M : Int) == 0) && ((q38.1.1.Text.toList == ((⟨#[109, 97, 114, 107, 32]⟩ : ByteArray) ++ (text3.extract 0 (if 35 < (text3.size : Int) then 35 else (text3.size : Int)).toNat)).toList) && true))))) q38.2)
            else
            K (.bool false) q38.2)
          else (
            none))
        else none)
      else
      bif ((Int.tmod (IntKind.i64.wrap (BitVec.ofInt IntKind.i64.bits kind1 &&& BitVec.ofInt IntKind.i64.bits 65535).toNat) 18) == 17) then (
        (w.command_Print ⟨(Int.tmod (IntKind.i64.wrap (BitVec.ofInt IntKind.i64.bits kind1 &&& BitVec.ofInt IntKind.i64.bits 65535).toNat) 18), (IntKind.i64.wrap (33 + (Int.tmod (IntKind.i64.wrap (BitVec.ofInt IntKind.i64.bits n2.i0 &&& BitVec.ofInt IntKind.i64.bits 65535).toNat) 94))), 0, (⟨#[]⟩ : ByteArray)⟩ q4.2).bind fun q39 =>
        (w.command_Parse q39.1 q39.2).bind fun q40 =>
        bif (q40.1.2 == 0) then (
          K (.bool (((q40.1.1.Kind : Int) == (Int.tmod (IntKind.i64.wrap (BitVec.ofInt IntKind.i64.bits kind1 &&& BitVec.ofInt IntKind.i64.bits 65535).toNat) 18)) && (((q40.1.1.N : Int) == (IntKind.i64.wrap (33 + (Int.tmod (IntKind.i64.wrap (BitVec.ofInt IntKind.i64.bits n2.i0 &&& BitVec.ofInt IntKind.i64.bits 65535).toNat) 94)))) && (((q40.1.1.M : Int) == 0) && ((q40.1.1.Text.toList == (⟨#[]⟩ : ByteArray).toList) && true))))) q40.2)
        else
        K (.bool false) q40.2)
      else
      (w.command_Print ⟨(Int.tmod (IntKind.i64.wrap (BitVec.ofInt IntKind.i64.bits kind1 &&& BitVec.ofInt IntKind.i64.bits 65535).toNat) 18), 0, 0, (⟨#[]⟩ : ByteArray)⟩ q4.2).bind fun q41 =>
      (w.command_Parse q41.1 q41.2).bind fun q42 =>
      bif (q42.1.2 == 0) then (
        K (.bool (((q42.1.1.Kind : Int) == (Int.tmod (IntKind.i64.wrap (BitVec.ofInt IntKind.i64.bits kind1 &&& BitVec.ofInt IntKind.i64.bits 65535).toNat) 18)) && (((q42.1.1.N : Int) == 0) && (((q42.1.1.M : Int) == 0) && ((q42.1.1.Text.toList == (⟨#[]⟩ : ByteArray).toList) && true))))) q42.2)
      else
      K (.bool false) q42.2)
    else
    bif ((Int.tmod (IntKind.i64.wrap (BitVec.ofInt IntKind.i64.bits kind1 &&& BitVec.ofInt IntKind.i64.bits 65535).toNat) 18) == 5) then (
      bif ((Int.tmod (IntKind.i64.wrap (BitVec.ofInt IntKind.i64.bits kind1 &&& BitVec.ofInt IntKind.i64.bits 65535).toNat) 18) == 5) then (
        (w.command_Print ⟨(Int.tmod (IntKind.i64.wrap (BitVec.ofInt IntKind.i64.bits kind1 &&& BitVec.ofInt IntKind.i64.bits 65535).toNat) 18), (IntKind.i64.wrap (BitVec.ofInt IntKind.i64.bits n2.i0 &&& BitVec.ofInt IntKind.i64.bits 9223372036854775807).toNat), 0, (⟨#[]⟩ : ByteArray)⟩ q4.2).bind fun q43 =>
        (w.command_Parse q43.1 q43.2).bind fun q44 =>
        bif (q44.1.2 == 0) then (
          K (.bool (((q44.1.1.Kind : Int) == (Int.tmod (IntKind.i64.wrap (BitVec.ofInt IntKind.i64.bits kind1 &&& BitVec.ofInt IntKind.i64.bits 65535).toNat) 18)) && (((q44.1.1.N : Int) == (IntKind.i64.wrap (BitVec.ofInt IntKind.i64.bits n2.i0 &&& BitVec.ofInt IntKind.i64.bits 9223372036854775807).toNat)) && (((q44.1.1.M : Int) == 0) && ((q44.1.1.Text.toList == (⟨#[]⟩ : ByteArray).toList) && true))))) q44.2)
        else
        K (.bool false) q44.2)
      else
      bif ((Int.tmod (IntKind.i64.wrap (BitVec.ofInt IntKind.i64.bits kind1 &&& BitVec.ofInt IntKind.i64.bits 65535).toNat) 18) == 7) then (
        bif ((Int.tmod (IntKind.i64.wrap (BitVec.ofInt IntKind.i64.bits kind1 &&& BitVec.ofInt IntKind.i64.bits 65535).toNat) 18) == 7) then (
          (w.command_Print ⟨(Int.tmod (IntKind.i64.wrap (BitVec.ofInt IntKind.i64.bits kind1 &&& BitVec.ofInt IntKind.i64.bits 65535).toNat) 18), (IntKind.i64.wrap (BitVec.ofInt IntKind.i64.bits n2.i0 &&& BitVec.ofInt IntKind.i64.bits 9223372036854775807).toNat), (IntKind.i64.wrap (BitVec.ofInt IntKind.i64.bits n2.i1 &&& BitVec.ofInt IntKind.i64.bits 9223372036854775807).toNat), (⟨#[]⟩ : ByteArray)⟩ q4.2).bind fun q45 =>
          (w.command_Parse q45.1 q45.2).bind fun q46 =>
          bif (q46.1.2 == 0) then (
            K (.bool (((q46.1.1.Kind : Int) == (Int.tmod (IntKind.i64.wrap (BitVec.ofInt IntKind.i64.bits kind1 &&& BitVec.ofInt IntKind.i64.bits 65535).toNat) 18)) && (((q46.1.1.N : Int) == (IntKind.i64.wrap (BitVec.ofInt IntKind.i64.bits n2.i0 &&& BitVec.ofInt IntKind.i64.bits 9223372036854775807).toNat)) && (((q46.1.1.M : Int) == (IntKind.i64.wrap (BitVec.ofInt IntKind.i64.bits n2.i1 &&& BitVec.ofInt IntKind.i64.bits 9223372036854775807).toNat)) && ((q46.1.1.Text.toList == (⟨#[]⟩ : ByteArray).toList) && true))))) q46.2)
          else
          K (.bool false) q46.2)
        else
        bif ((Int.tmod (IntKind.i64.wrap (BitVec.ofInt IntKind.i64.bits kind1 &&& BitVec.ofInt IntKind.i64.bits 65535).toNat) 18) == 4) then (
          bif ((Int.tmod (IntKind.i64.wrap (BitVec.ofInt IntKind.i64.bits kind1 &&& BitVec.ofInt IntKind.i64.bits 65535).toNat) 18) == 4) then (
            bif ((decide (0 ≤ (if 40 < (text3.size : Int) then 40 else (text3.size : Int)))) && (decide ((if 40 < (text3.size : Int) then 40 else (text3.size : Int)) ≤ (text3.size : Int)))) then (
              (w.command_Print ⟨(Int.tmod (IntKind.i64.wrap (BitVec.ofInt IntKind.i64.bits kind1 &&& BitVec.ofInt IntKind.i64.bits 65535).toNat) 18), 0, 0, (text3.extract 0 (if 40 < (text3.size : Int) then 40 else (text3.size : Int)).toNat)⟩ q4.2).bind fun q47 =>
              (w.command_Parse q47.1 q47.2).bind fun q48 =>
              bif (q48.1.2 == 0) then (
                K (.bool (((q48.1.1.Kind : Int) == (Int.tmod (IntKind.i64.wrap (BitVec.ofInt IntKind.i64.bits kind1 &&& BitVec.ofInt IntKind.i64.bits 65535).toNat) 18)) && (((q48.1.1.N : Int) == 0) && (((q48.1.1.M : Int) == 0) && ((q48.1.1.Text.toList == (text3.extract 0 (if 40 < (text3.size : Int) then 40 else (text3.size : Int)).toNat).toList) && true))))) q48.2)
              else
              K (.bool false) q48.2)
            else none)
          else
          bif ((Int.tmod (IntKind.i64.wrap (BitVec.ofInt IntKind.i64.bits kind1 &&& BitVec.ofInt IntKind.i64.bits 65535).toNat) 18) == 16) then (
            bif ((decide (0 ≤ (if 35 < (text3.size : Int) then 35 else (text3.size : Int)))) && (decide ((if 35 < (text3.size : Int) then 35 else (text3.size : Int)) ≤ (text3.size : Int)))) then (
              if (⟨#[109, 97, 114, 107, 32]⟩ : ByteArray).size + (text3.extract 0 (if 35 < (text3.size : Int) then 35 else (text3.size : Int)).toNat).size ≤ 9223372036854775807 then (
                (w.command_Print ⟨(Int.tmod (IntKind.i64.wrap (BitVec.ofInt IntKind.i64.bits kind1 &&& BitVec.ofInt IntKind.i64.bits 65535).toNat) 18), (IntKind.i64.wrap (33 + (Int.tmod (IntKind.i64.wrap (BitVec.ofInt IntKind.i64.bits n2.i0 &&& BitVec.ofInt IntKind.i64.bits 65535).toNat) 94))), 0, ((⟨#[109, 97, 114, 107, 32]⟩ : ByteArray) ++ (text3.extract 0 (if 35 < (text3.size : Int) then 35 else (text3.size : Int)).toNat))⟩ q4.2).bind fun q49 =>
                (w.command_Parse q49.1 q49.2).bind fun q50 =>
                bif (q50.1.2 == 0) then (
                  K (.bool (((q50.1.1.Kind : Int) == (Int.tmod (IntKind.i64.wrap (BitVec.ofInt IntKind.i64.bits kind1 &&& BitVec.ofInt IntKind.i64.bits 65535).toNat) 18)) && (((q50.1.1.N : Int) == (IntKind.i64.wrap (33 + (Int.tmod (IntKind.i64.wrap (BitVec.ofInt IntKind.i64.bits n2.i0 &&& BitVec.ofInt IntKind.i64.bits 65535).toNat) 94)))) && (((q50.1.1.M : Int) == 0) && ((q50.1.1.Text.toList == ((⟨#[109, 97, 114, 107, 32]⟩ : ByteArray) ++ (text3.extract 0 (if 35 < (text3.size : Int) then 35 else (text3.size : Int)).toNat)).toList) && true))))) q50.2)
                else
                K (.bool false) q50.2)
              else (
                none))
            else none)
          else
          bif ((Int.tmod (IntKind.i64.wrap (BitVec.ofInt IntKind.i64.bits kind1 &&& BitVec.ofInt IntKind.i64.bits 65535).toNat) 18) == 17) then (
            (w.command_Print ⟨(Int.tmod (IntKind.i64.wrap (BitVec.ofInt IntKind.i64.bits kind1 &&& BitVec.ofInt IntKind.i64.bits 65535).toNat) 18), (IntKind.i64.wrap (33 + (Int.tmod (IntKind.i64.wrap (BitVec.ofInt IntKind.i64.bits n2.i0 &&& BitVec.ofInt IntKind.i64.bits 65535).toNat) 94))), 0, (⟨#[]⟩ : ByteArray)⟩ q4.2).bind fun q51 =>
            (w.command_Parse q51.1 q51.2).bind fun q52 =>
            bif (q52.1.2 == 0) then (
              K (.bool (((q52.1.1.Kind : Int) == (Int.tmod (IntKind.i64.wrap (BitVec.ofInt IntKind.i64.bits kind1 &&& BitVec.ofInt IntKind.i64.bits 65535).toNat) 18)) && (((q52.1.1.N : Int) == (IntKind.i64.wrap (33 + (Int.tmod (IntKind.i64.wrap (BitVec.ofInt IntKind.i64.bits n2.i0 &&& BitVec.ofInt IntKind.i64.bits 65535).toNat) 94)))) && (((q52.1.1.M : Int) == 0) && ((q52.1.1.Text.toList == (⟨#[]⟩ : ByteArray).toList) && true))))) q52.2)
            else
            K (.bool false) q52.2)
          else
          (w.command_Print ⟨(Int.tmod (IntKind.i64.wrap (BitVec.ofInt IntKind.i64.bits kind1 &&& BitVec.ofInt IntKind.i64.bits 65535).toNat) 18), 0, 0, (⟨#[]⟩ : ByteArray)⟩ q4.2).bind fun q53 =>
          (w.command_Parse q53.1 q53.2).bind fun q54 =>
          bif (q54.1.2 == 0) then (
            K (.bool (((q54.1.1.Kind : Int) == (Int.tmod (IntKind.i64.wrap (BitVec.ofInt IntKind.i64.bits kind1 &&& BitVec.ofInt IntKind.i64.bits 65535).toNat) 18)) && (((q54.1.1.N : Int) == 0) && (((q54.1.1.M : Int) == 0) && ((q54.1.1.Text.toList == (⟨#[]⟩ : ByteArray).toList) && true))))) q54.2)
          else
          K (.bool false) q54.2)
        else
        bif ((Int.tmod (IntKind.i64.wrap (BitVec.ofInt IntKind.i64.bits kind1 &&& BitVec.ofInt IntKind.i64.bits 65535).toNat) 18) == 6) then (
          bif ((decide (0 ≤ (if 40 < (text3.size : Int) then 40 else (text3.size : Int)))) && (decide ((if 40 < (text3.size : Int) then 40 else (text3.size : Int)) ≤ (text3.size : Int)))) then (
            (w.command_Print ⟨(Int.tmod (IntKind.i64.wrap (BitVec.ofInt IntKind.i64.bits kind1 &&& BitVec.ofInt IntKind.i64.bits 65535).toNat) 18), 0, 0, (text3.extract 0 (if 40 < (text3.size : Int) then 40 else (text3.size : Int)).toNat)⟩ q4.2).bind fun q55 =>
            (w.command_Parse q55.1 q55.2).bind fun q56 =>
            bif (q56.1.2 == 0) then (
              K (.bool (((q56.1.1.Kind : Int) == (Int.tmod (IntKind.i64.wrap (BitVec.ofInt IntKind.i64.bits kind1 &&& BitVec.ofInt IntKind.i64.bits 65535).toNat) 18)) && (((q56.1.1.N : Int) == 0) && (((q56.1.1.M : Int) == 0) && ((q56.1.1.Text.toList == (text3.extract 0 (if 40 < (text3.size : Int) then 40 else (text3.size : Int)).toNat).toList) && true))))) q56.2)
            else
            K (.bool false) q56.2)
          else none)
        else
        bif ((Int.tmod (IntKind.i64.wrap (BitVec.ofInt IntKind.i64.bits kind1 &&& BitVec.ofInt IntKind.i64.bits 65535).toNat) 18) == 16) then (
          bif ((decide (0 ≤ (if 35 < (text3.size : Int) then 35 else (text3.size : Int)))) && (decide ((if 35 < (text3.size : Int) then 35 else (text3.size : Int)) ≤ (text3.size : Int)))) then (
            if (⟨#[109, 97, 114, 107, 32]⟩ : ByteArray).size + (text3.extract 0 (if 35 < (text3.size : Int) then 35 else (text3.size : Int)).toNat).size ≤ 9223372036854775807 then (
              (w.command_Print ⟨(Int.tmod (IntKind.i64.wrap (BitVec.ofInt IntKind.i64.bits kind1 &&& BitVec.ofInt IntKind.i64.bits 65535).toNat) 18), (IntKind.i64.wrap (33 + (Int.tmod (IntKind.i64.wrap (BitVec.ofInt IntKind.i64.bits n2.i0 &&& BitVec.ofInt IntKind.i64.bits 65535).toNat) 94))), 0, ((⟨#[109, 97, 114, 107, 32]⟩ : ByteArray) ++ (text3.extract 0 (if 35 < (text3.size : Int) then 35 else (text3.size : Int)).toNat))⟩ q4.2).bind fun q57 =>
              (w.command_Parse q57.1 q57.2).bind fun q58 =>
              bif (q58.1.2 == 0) then (
                K (.bool (((q58.1.1.Kind : Int) == (Int.tmod (IntKind.i64.wrap (BitVec.ofInt IntKind.i64.bits kind1 &&& BitVec.ofInt IntKind.i64.bits 65535).toNat) 18)) && (((q58.1.1.N : Int) == (IntKind.i64.wrap (33 + (Int.tmod (IntKind.i64.wrap (BitVec.ofInt IntKind.i64.bits n2.i0 &&& BitVec.ofInt IntKind.i64.bits 65535).toNat) 94)))) && (((q58.1.1.M : Int) == 0) && ((q58.1.1.Text.toList == ((⟨#[109, 97, 114, 107, 32]⟩ : ByteArray) ++ (text3.extract 0 (if 35 < (text3.size : Int) then 35 else (text3.size : Int)).toNat)).toList) && true))))) q58.2)
              else
              K (.bool false) q58.2)
            else (
              none))
          else none)
        else
        bif ((Int.tmod (IntKind.i64.wrap (BitVec.ofInt IntKind.i64.bits kind1 &&& BitVec.ofInt IntKind.i64.bits 65535).toNat) 18) == 17) then (
          (w.command_Print ⟨(Int.tmod (IntKind.i64.wrap (BitVec.ofInt IntKind.i64.bits kind1 &&& BitVec.ofInt IntKind.i64.bits 65535).toNat) 18), (IntKind.i64.wrap (33 + (Int.tmod (IntKind.i64.wrap (BitVec.ofInt IntKind.i64.bits n2.i0 &&& BitVec.ofInt IntKind.i64.bits 65535).toNat) 94))), 0, (⟨#[]⟩ : ByteArray)⟩ q4.2).bind fun q59 =>
          (w.command_Parse q59.1 q59.2).bind fun q60 =>
          bif (q60.1.2 == 0) then (
            K (.bool (((q60.1.1.Kind : Int) == (Int.tmod (IntKind.i64.wrap (BitVec.ofInt IntKind.i64.bits kind1 &&& BitVec.ofInt IntKind.i64.bits 65535).toNat) 18)) && (((q60.1.1.N : Int) == (IntKind.i64.wrap (33 + (Int.tmod (IntKind.i64.wrap (BitVec.ofInt IntKind.i64.bits n2.i0 &&& BitVec.ofInt IntKind.i64.bits 65535).toNat) 94)))) && (((q60.1.1.M : Int) == 0) && ((q60.1.1.Text.toList == (⟨#[]⟩ : ByteArray).toList) && true))))) q60.2)
          else
          K (.bool false) q60.2)
        else
        (w.command_Print ⟨(Int.tmod (IntKind.i64.wrap (BitVec.ofInt IntKind.i64.bits kind1 &&& BitVec.ofInt IntKind.i64.bits 65535).toNat) 18), 0, 0, (⟨#[]⟩ : ByteArray)⟩ q4.2).bind fun q61 =>
        (w.command_Parse q61.1 q61.2).bind fun q62 =>
        bif (q62.1.2 == 0) then (
          K (.bool (((q62.1.1.Kind : Int) == (Int.tmod (IntKind.i64.wrap (BitVec.ofInt IntKind.i64.bits kind1 &&& BitVec.ofInt IntKind.i64.bits 65535).toNat) 18)) && (((q62.1.1.N : Int) == 0) && (((q62.1.1.M : Int) == 0) && ((q62.1.1.Text.toList == (⟨#[]⟩ : ByteArray).toList) && true))))) q62.2)
        else
        K (.bool false) q62.2)
      else
      bif ((Int.tmod (IntKind.i64.wrap (BitVec.ofInt IntKind.i64.bits kind1 &&& BitVec.ofInt IntKind.i64.bits 65535).toNat) 18) == 13) then (
        (w.command_Print ⟨(Int.tmod (IntKind.i64.wrap (BitVec.ofInt IntKind.i64.bits kind1 &&& BitVec.ofInt IntKind.i64.bits 65535).toNat) 18), (IntKind.i64.wrap (BitVec.ofInt IntKind.i64.bits n2.i0 &&& BitVec.ofInt IntKind.i64.bits 9223372036854775807).toNat), (IntKind.i64.wrap (BitVec.ofInt IntKind.i64.bits n2.i1 &&& BitVec.ofInt IntKind.i64.bits 9223372036854775807).toNat), (⟨#[]⟩ : ByteArray)⟩ q4.2).bind fun q63 =>
        (w.command_Parse q63.1 q63.2).bind fun q64 =>
        bif (q64.1.2 == 0) then (
          K (.bool (((q64.1.1.Kind : Int) == (Int.tmod (IntKind.i64.wrap (BitVec.ofInt IntKind.i64.bits kind1 &&& BitVec.ofInt IntKind.i64.bits 65535).toNat) 18)) && (((q64.1.1.N : Int) == (IntKind.i64.wrap (BitVec.ofInt IntKind.i64.bits n2.i0 &&& BitVec.ofInt IntKind.i64.bits 9223372036854775807).toNat)) && (((q64.1.1.M : Int) == (IntKind.i64.wrap (BitVec.ofInt IntKind.i64.bits n2.i1 &&& BitVec.ofInt IntKind.i64.bits 9223372036854775807).toNat)) && ((q64.1.1.Text.toList == (⟨#[]⟩ : ByteArray).toList) && true))))) q64.2)
        else
        K (.bool false) q64.2)
      else
      bif ((Int.tmod (IntKind.i64.wrap (BitVec.ofInt IntKind.i64.bits kind1 &&& BitVec.ofInt IntKind.i64.bits 65535).toNat) 18) == 4) then (
        bif ((Int.tmod (IntKind.i64.wrap (BitVec.ofInt IntKind.i64.bits kind1 &&& BitVec.ofInt IntKind.i64.bits 65535).toNat) 18) == 4) then (
          bif ((decide (0 ≤ (if 40 < (text3.size : Int) then 40 else (text3.size : Int)))) && (decide ((if 40 < (text3.size : Int) then 40 else (text3.size : Int)) ≤ (text3.size : Int)))) then (
            (w.command_Print ⟨(Int.tmod (IntKind.i64.wrap (BitVec.ofInt IntKind.i64.bits kind1 &&& BitVec.ofInt IntKind.i64.bits 65535).toNat) 18), 0, 0, (text3.extract 0 (if 40 < (text3.size : Int) then 40 else (text3.size : Int)).toNat)⟩ q4.2).bind fun q65 =>
            (w.command_Parse q65.1 q65.2).bind fun q66 =>
            bif (q66.1.2 == 0) then (
              K (.bool (((q66.1.1.Kind : Int) == (Int.tmod (IntKind.i64.wrap (BitVec.ofInt IntKind.i64.bits kind1 &&& BitVec.ofInt IntKind.i64.bits 65535).toNat) 18)) && (((q66.1.1.N : Int) == 0) && (((q66.1.1.M : Int) == 0) && ((q66.1.1.Text.toList == (text3.extract 0 (if 40 < (text3.size : Int) then 40 else (text3.size : Int)).toNat).toList) && true))))) q66.2)
            else
            K (.bool false) q66.2)
          else none)
        else
        bif ((Int.tmod (IntKind.i64.wrap (BitVec.ofInt IntKind.i64.bits kind1 &&& BitVec.ofInt IntKind.i64.bits 65535).toNat) 18) == 16) then (
          bif ((decide (0 ≤ (if 35 < (text3.size : Int) then 35 else (text3.size : Int)))) && (decide ((if 35 < (text3.size : Int) then 35 else (text3.size : Int)) ≤ (text3.size : Int)))) then (
            if (⟨#[109, 97, 114, 107, 32]⟩ : ByteArray).size + (text3.extract 0 (if 35 < (text3.size : Int) then 35 else (text3.size : Int)).toNat).size ≤ 9223372036854775807 then (
              (w.command_Print ⟨(Int.tmod (IntKind.i64.wrap (BitVec.ofInt IntKind.i64.bits kind1 &&& BitVec.ofInt IntKind.i64.bits 65535).toNat) 18), (IntKind.i64.wrap (33 + (Int.tmod (IntKind.i64.wrap (BitVec.ofInt IntKind.i64.bits n2.i0 &&& BitVec.ofInt IntKind.i64.bits 65535).toNat) 94))), 0, ((⟨#[109, 97, 114, 107, 32]⟩ : ByteArray) ++ (text3.extract 0 (if 35 < (text3.size : Int) then 35 else (text3.size : Int)).toNat))⟩ q4.2).bind fun q67 =>
              (w.command_Parse q67.1 q67.2).bind fun q68 =>
              bif (q68.1.2 == 0) then (
                K (.bool (((q68.1.1.Kind : Int) == (Int.tmod (IntKind.i64.wrap (BitVec.ofInt IntKind.i64.bits kind1 &&& BitVec.ofInt IntKind.i64.bits 65535).toNat) 18)) && (((q68.1.1.N : Int) == (IntKind.i64.wrap (33 + (Int.tmod (IntKind.i64.wrap (BitVec.ofInt IntKind.i64.bits n2.i0 &&& BitVec.ofInt IntKind.i64.bits 65535).toNat) 94)))) && (((q68.1.1.M : Int) == 0) && ((q68.1.1.Text.toList == ((⟨#[109, 97, 114, 107, 32]⟩ : ByteArray) ++ (text3.extract 0 (if 35 < (text3.size : Int) then 35 else (text3.size : Int)).toNat)).toList) && true))))) q68.2)
              else
              K (.bool false) q68.2)
            else (
              none))
          else none)
        else
        bif ((Int.tmod (IntKind.i64.wrap (BitVec.ofInt IntKind.i64.bits kind1 &&& BitVec.ofInt IntKind.i64.bits 65535).toNat) 18) == 17) then (
          (w.command_Print ⟨(Int.tmod (IntKind.i64.wrap (BitVec.ofInt IntKind.i64.bits kind1 &&& BitVec.ofInt IntKind.i64.bits 65535).toNat) 18), (IntKind.i64.wrap (33 + (Int.tmod (IntKind.i64.wrap (BitVec.ofInt IntKind.i64.bits n2.i0 &&& BitVec.ofInt IntKind.i64.bits 65535).toNat) 94))), 0, (⟨#[]⟩ : ByteArray)⟩ q4.2).bind fun q69 =>
          (w.command_Parse q69.1 q69.2).bind fun q70 =>
          bif (q70.1.2 == 0) then (
            K (.bool (((q70.1.1.Kind : Int) == (Int.tmod (IntKind.i64.wrap (BitVec.ofInt IntKind.i64.bits kind1 &&& BitVec.ofInt IntKind.i64.bits 65535).toNat) 18)) && (((q70.1.1.N : Int) == (IntKind.i64.wrap (33 + (Int.tmod (IntKind.i64.wrap (BitVec.ofInt IntKind.i64.bits n2.i0 &&& BitVec.ofInt IntKind.i64.bits 65535).toNat) 94)))) && (((q70.1.1.M : Int) == 0) && ((q70.1.1.Text.toList == (⟨#[]⟩ : ByteArray).toList) && true))))) q70.2)
          else
          K (.bool false) q70.2)
        else
        (w.command_Print ⟨(Int.tmod (IntKind.i64.wrap (BitVec.ofInt IntKind.i64.bits kind1 &&& BitVec.ofInt IntKind.i64.bits 65535).toNat) 18), 0, 0, (⟨#[]⟩ : ByteArray)⟩ q4.2).bind fun q71 =>
        (w.command_Parse q71.1 q71.2).bind fun q72 =>
        bif (q72.1.2 == 0) then (
          K (.bool (((q72.1.1.Kind : Int) == (Int.tmod (IntKind.i64.wrap (BitVec.ofInt IntKind.i64.bits kind1 &&& BitVec.ofInt IntKind.i64.bits 65535).toNat) 18)) && (((q72.1.1.N : Int) == 0) && (((q72.1.1.M : Int) == 0) && ((q72.1.1.Text.toList == (⟨#[]⟩ : ByteArray).toList) && true))))) q72.2)
        else
        K (.bool false) q72.2)
      else
      bif ((Int.tmod (IntKind.i64.wrap (BitVec.ofInt IntKind.i64.bits kind1 &&& BitVec.ofInt IntKind.i64.bits 65535).toNat) 18) == 6) then (
        bif ((decide (0 ≤ (if 40 < (text3.size : Int) then 40 else (text3.size : Int)))) && (decide ((if 40 < (text3.size : Int) then 40 else (text3.size : Int)) ≤ (text3.size : Int)))) then (
          (w.command_Print ⟨(Int.tmod (IntKind.i64.wrap (BitVec.ofInt IntKind.i64.bits kind1 &&& BitVec.ofInt IntKind.i64.bits 65535).toNat) 18), 0, 0, (text3.extract 0 (if 40 < (text3.size : Int) then 40 else (text3.size : Int)).toNat)⟩ q4.2).bind fun q73 =>
          (w.command_Parse q73.1 q73.2).bind fun q74 =>
          bif (q74.1.2 == 0) then (
            K (.bool (((q74.1.1.Kind : Int) == (Int.tmod (IntKind.i64.wrap (BitVec.ofInt IntKind.i64.bits kind1 &&& BitVec.ofInt IntKind.i64.bits 65535).toNat) 18)) && (((q74.1.1.N : Int) == 0) && (((q74.1.1.M : Int) == 0) && ((q74.1.1.Text.toList == (text3.extract 0 (if 40 < (text3.size : Int) then 40 else (text3.size : Int)).toNat).toList) && true))))) q74.2)
          else
          K (.bool false) q74.2)
        else none)
      else
      bif ((Int.tmod (IntKind.i64.wrap (BitVec.ofInt IntKind.i64.bits kind1 &&& BitVec.ofInt IntKind.i64.bits 65535).toNat) 18) == 16) then (
        bif ((decide (0 ≤ (if 35 < (text3.size : Int) then 35 else (text3.size : Int)))) && (decide ((if 35 < (text3.size : Int) then 35 else (text3.size : Int)) ≤ (text3.size : Int)))) then (
          if (⟨#[109, 97, 114, 107, 32]⟩ : ByteArray).size + (text3.extract 0 (if 35 < (text3.size : Int) then 35 else (text3.size : Int)).toNat).size ≤ 9223372036854775807 then (
            (w.command_Print ⟨(Int.tmod (IntKind.i64.wrap (BitVec.ofInt IntKind.i64.bits kind1 &&& BitVec.ofInt IntKind.i64.bits 65535).toNat) 18), (IntKind.i64.wrap (33 + (Int.tmod (IntKind.i64.wrap (BitVec.ofInt IntKind.i64.bits n2.i0 &&& BitVec.ofInt IntKind.i64.bits 65535).toNat) 94))), 0, ((⟨#[109, 97, 114, 107, 32]⟩ : ByteArray) ++ (text3.extract 0 (if 35 < (text3.size : Int) then 35 else (text3.size : Int)).toNat))⟩ q4.2).bind fun q75 =>
            (w.command_Parse q75.1 q75.2).bind fun q76 =>
            bif (q76.1.2 == 0) then (
              K (.bool (((q76.1.1.Kind : Int) == (Int.tmod (IntKind.i64.wrap (BitVec.ofInt IntKind.i64.bits kind1 &&& BitVec.ofInt IntKind.i64.bits 65535).toNat) 18)) && (((q76.1.1.N : Int) == (IntKind.i64.wrap (33 + (Int.tmod (IntKind.i64.wrap (BitVec.ofInt IntKind.i64.bits n2.i0 &&& BitVec.ofInt IntKind.i64.bits 65535).toNat) 94)))) && (((q76.1.1.M : Int) == 0) && ((q76.1.1.Text.toList == ((⟨#[109, 97, 114, 107, 32]⟩ : ByteArray) ++ (text3.extract 0 (if 35 < (text3.size : Int) then 35 else (text3.size : Int)).toNat)).toList) && true))))) q76.2)
            else
            K (.bool false) q76.2)
          else (
            none))
        else none)
      else
      bif ((Int.tmod (IntKind.i64.wrap (BitVec.ofInt IntKind.i64.bits kind1 &&& BitVec.ofInt IntKind.i64.bits 65535).toNat) 18) == 17) then (
        (w.command_Print ⟨(Int.tmod (IntKind.i64.wrap (BitVec.ofInt IntKind.i64.bits kind1 &&& BitVec.ofInt IntKind.i64.bits 65535).toNat) 18), (IntKind.i64.wrap (33 + (Int.tmod (IntKind.i64.wrap (BitVec.ofInt IntKind.i64.bits n2.i0 &&& BitVec.ofInt IntKind.i64.bits 65535).toNat) 94))), 0, (⟨#[]⟩ : ByteArray)⟩ q4.2).bind fun q77 =>
        (w.command_Parse q77.1 q77.2).bind fun q78 =>
        bif (q78.1.2 == 0) then (
          K (.bool (((q78.1.1.Kind : Int) == (Int.tmod (IntKind.i64.wrap (BitVec.ofInt IntKind.i64.bits kind1 &&& BitVec.ofInt IntKind.i64.bits 65535).toNat) 18)) && (((q78.1.1.N : Int) == (IntKind.i64.wrap (33 + (Int.tmod (IntKind.i64.wrap (BitVec.ofInt IntKind.i64.bits n2.i0 &&& BitVec.ofInt IntKind.i64.bits 65535).toNat) 94)))) && (((q78.1.1.M : Int) == 0) && ((q78.1.1.Text.toList == (⟨#[]⟩ : ByteArray).toList) && true))))) q78.2)
        else
        K (.bool false) q78.2)
      else
      (w.command_Print ⟨(Int.tmod (IntKind.i64.wrap (BitVec.ofInt IntKind.i64.bits kind1 &&& BitVec.ofInt IntKind.i64.bits 65535).toNat) 18), 0, 0, (⟨#[]⟩ : ByteArray)⟩ q4.2).bind fun q79 =>
      (w.command_Parse q79.1 q79.2).bind fun q80 =>
      bif (q80.1.2 == 0) then (
        K (.bool (((q80.1.1.Kind : Int) == (Int.tmod (IntKind.i64.wrap (BitVec.ofInt IntKind.i64.bits kind1 &&& BitVec.ofInt IntKind.i64.bits 65535).toNat) 18)) && (((q80.1.1.N : Int) == 0) && (((q80.1.1.M : Int) == 0) && ((q80.1.1.Text.toList == (⟨#[]⟩ : ByteArray).toList) && true))))) q80.2)
      else
      K (.bool false) q80.2)
    else
    bif ((Int.tmod (IntKind.i64.wrap (BitVec.ofInt IntKind.i64.bits kind1 &&& BitVec.ofInt IntKind.i64.bits 65535).toNat) 18) == 14) then (
      (w.command_Print ⟨(Int.tmod (IntKind.i64.wrap (BitVec.ofInt IntKind.i64.bits kind1 &&& BitVec.ofInt IntKind.i64.bits 65535).toNat) 18), (IntKind.i64.wrap (BitVec.ofInt IntKind.i64.bits n2.i0 &&& BitVec.ofInt IntKind.i64.bits 9223372036854775807).toNat), 0, (⟨#[]⟩ : ByteArray)⟩ q4.2).bind fun q81 =>
      (w.command_Parse q81.1 q81.2).bind fun q82 =>
      bif (q82.1.2 == 0) then (
        K (.bool (((q82.1.1.Kind : Int) == (Int.tmod (IntKind.i64.wrap (BitVec.ofInt IntKind.i64.bits kind1 &&& BitVec.ofInt IntKind.i64.bits 65535).toNat) 18)) && (((q82.1.1.N : Int) == (IntKind.i64.wrap (BitVec.ofInt IntKind.i64.bits n2.i0 &&& BitVec.ofInt IntKind.i64.bits 9223372036854775807).toNat)) && (((q82.1.1.M : Int) == 0) && ((q82.1.1.Text.toList == (⟨#[]⟩ : ByteArray).toList) && true))))) q82.2)
      else
      K (.bool false) q82.2)
    else
    bif ((Int.tmod (IntKind.i64.wrap (BitVec.ofInt IntKind.i64.bits kind1 &&& BitVec.ofInt IntKind.i64.bits 65535).toNat) 18) == 7) then (
      bif ((Int.tmod (IntKind.i64.wrap (BitVec.ofInt IntKind.i64.bits kind1 &&& BitVec.ofInt IntKind.i64.bits 65535).toNat) 18) == 7) then (
        (w.command_Print ⟨(Int.tmod (IntKind.i64.wrap (BitVec.ofInt IntKind.i64.bits kind1 &&& BitVec.ofInt IntKind.i64.bits 65535).toNat) 18), (IntKind.i64.wrap (BitVec.ofInt IntKind.i64.bits n2.i0 &&& BitVec.ofInt IntKind.i64.bits 9223372036854775807).toNat), (IntKind.i64.wrap (BitVec.ofInt IntKind.i64.bits n2.i1 &&& BitVec.ofInt IntKind.i64.bits 9223372036854775807).toNat), (⟨#[]⟩ : ByteArray)⟩ q4.2).bind fun q83 =>
        (w.command_Parse q83.1 q83.2).bind fun q84 =>
        bif (q84.1.2 == 0) then (
          K (.bool (((q84.1.1.Kind : Int) == (Int.tmod (IntKind.i64.wrap (BitVec.ofInt IntKind.i64.bits kind1 &&& BitVec.ofInt IntKind.i64.bits 65535).toNat) 18)) && (((q84.1.1.N : Int) == (IntKind.i64.wrap (BitVec.ofInt IntKind.i64.bits n2.i0 &&& BitVec.ofInt IntKind.i64.bits 9223372036854775807).toNat)) && (((q84.1.1.M : Int) == (IntKind.i64.wrap (BitVec.ofInt IntKind.i64.bits n2.i1 &&& BitVec.ofInt IntKind.i64.bits 9223372036854775807).toNat)) && ((q84.1.1.Text.toList == (⟨#[]⟩ : ByteArray).toList) && true))))) q84.2)
        else
        K (.bool false) q84.2)
      else
      bif ((Int.tmod (IntKind.i64.wrap (BitVec.ofInt IntKind.i64.bits kind1 &&& BitVec.ofInt IntKind.i64.bits 65535).toNat) 18) == 4) then (
        bif ((Int.tmod (IntKind.i64.wrap (BitVec.ofInt IntKind.i64.bits kind1 &&& BitVec.ofInt IntKind.i64.bits 65535).toNat) 18) == 4) then (
          bif ((decide (0 ≤ (if 40 < (text3.size : Int) then 40 else (text3.size : Int)))) && (decide ((if 40 < (text3.size : Int) then 40 else (text3.size : Int)) ≤ (text3.size : Int)))) then (
            (w.command_Print ⟨(Int.tmod (IntKind.i64.wrap (BitVec.ofInt IntKind.i64.bits kind1 &&& BitVec.ofInt IntKind.i64.bits 65535).toNat) 18), 0, 0, (text3.extract 0 (if 40 < (text3.size : Int) then 40 else (text3.size : Int)).toNat)⟩ q4.2).bind fun q85 =>
            (w.command_Parse q85.1 q85.2).bind fun q86 =>
            bif (q86.1.2 == 0) then (
              K (.bool (((q86.1.1.Kind : Int) == (Int.tmod (IntKind.i64.wrap (BitVec.ofInt IntKind.i64.bits kind1 &&& BitVec.ofInt IntKind.i64.bits 65535).toNat) 18)) && (((q86.1.1.N : Int) == 0) && (((q86.1.1.M : Int) == 0) && ((q86.1.1.Text.toList == (text3.extract 0 (if 40 < (text3.size : Int) then 40 else (text3.size : Int)).toNat).toList) && true))))) q86.2)
            else
            K (.bool false) q86.2)
          else none)
        else
        bif ((Int.tmod (IntKind.i64.wrap (BitVec.ofInt IntKind.i64.bits kind1 &&& BitVec.ofInt IntKind.i64.bits 65535).toNat) 18) == 16) then (
          bif ((decide (0 ≤ (if 35 < (text3.size : Int) then 35 else (text3.size : Int)))) && (decide ((if 35 < (text3.size : Int) then 35 else (text3.size : Int)) ≤ (text3.size : Int)))) then (
            if (⟨#[109, 97, 114, 107, 32]⟩ : ByteArray).size + (text3.extract 0 (if 35 < (text3.size : Int) then 35 else (text3.size : Int)).toNat).size ≤ 9223372036854775807 then (
              (w.command_Print ⟨(Int.tmod (IntKind.i64.wrap (BitVec.ofInt IntKind.i64.bits kind1 &&& BitVec.ofInt IntKind.i64.bits 65535).toNat) 18), (IntKind.i64.wrap (33 + (Int.tmod (IntKind.i64.wrap (BitVec.ofInt IntKind.i64.bits n2.i0 &&& BitVec.ofInt IntKind.i64.bits 65535).toNat) 94))), 0, ((⟨#[109, 97, 114, 107, 32]⟩ : ByteArray) ++ (text3.extract 0 (if 35 < (text3.size : Int) then 35 else (text3.size : Int)).toNat))⟩ q4.2).bind fun q87 =>
              (w.command_Parse q87.1 q87.2).bind fun q88 =>
              bif (q88.1.2 == 0) then (
                K (.bool (((q88.1.1.Kind : Int) == (Int.tmod (IntKind.i64.wrap (BitVec.ofInt IntKind.i64.bits kind1 &&& BitVec.ofInt IntKind.i64.bits 65535).toNat) 18)) && (((q88.1.1.N : Int) == (IntKind.i64.wrap (33 + (Int.tmod (IntKind.i64.wrap (BitVec.ofInt IntKind.i64.bits n2.i0 &&& BitVec.ofInt IntKind.i64.bits 65535).toNat) 94)))) && (((q88.1.1.M : Int) == 0) && ((q88.1.1.Text.toList == ((⟨#[109, 97, 114, 107, 32]⟩ : ByteArray) ++ (text3.extract 0 (if 35 < (text3.size : Int) then 35 else (text3.size : Int)).toNat)).toList) && true))))) q88.2)
              else
              K (.bool false) q88.2)
            else (
              none))
          else none)
        else
        bif ((Int.tmod (IntKind.i64.wrap (BitVec.ofInt IntKind.i64.bits kind1 &&& BitVec.ofInt IntKind.i64.bits 65535).toNat) 18) == 17) then (
          (w.command_Print ⟨(Int.tmod (IntKind.i64.wrap (BitVec.ofInt IntKind.i64.bits kind1 &&& BitVec.ofInt IntKind.i64.bits 65535).toNat) 18), (IntKind.i64.wrap (33 + (Int.tmod (IntKind.i64.wrap (BitVec.ofInt IntKind.i64.bits n2.i0 &&& BitVec.ofInt IntKind.i64.bits 65535).toNat) 94))), 0, (⟨#[]⟩ : ByteArray)⟩ q4.2).bind fun q89 =>
          (w.command_Parse q89.1 q89.2).bind fun q90 =>
          bif (q90.1.2 == 0) then (
            K (.bool (((q90.1.1.Kind : Int) == (Int.tmod (IntKind.i64.wrap (BitVec.ofInt IntKind.i64.bits kind1 &&& BitVec.ofInt IntKind.i64.bits 65535).toNat) 18)) && (((q90.1.1.N : Int) == (IntKind.i64.wrap (33 + (Int.tmod (IntKind.i64.wrap (BitVec.ofInt IntKind.i64.bits n2.i0 &&& BitVec.ofInt IntKind.i64.bits 65535).toNat) 94)))) && (((q90.1.1.M : Int) == 0) && ((q90.1.1.Text.toList == (⟨#[]⟩ : ByteArray).toList) && true))))) q90.2)
          else
          K (.bool false) q90.2)
        else
        (w.command_Print ⟨(Int.tmod (IntKind.i64.wrap (BitVec.ofInt IntKind.i64.bits kind1 &&& BitVec.ofInt IntKind.i64.bits 65535).toNat) 18), 0, 0, (⟨#[]⟩ : ByteArray)⟩ q4.2).bind fun q91 =>
        (w.command_Parse q91.1 q91.2).bind fun q92 =>
        bif (q92.1.2 == 0) then (
          K (.bool (((q92.1.1.Kind : Int) == (Int.tmod (IntKind.i64.wrap (BitVec.ofInt IntKind.i64.bits kind1 &&& BitVec.ofInt IntKind.i64.bits 65535).toNat) 18)) && (((q92.1.1.N : Int) == 0) && (((q92.1.1.M : Int) == 0) && ((q92.1.1.Text.toList == (⟨#[]⟩ : ByteArray).toList) && true))))) q92.2)
        else
        K (.bool false) q92.2)
      else
      bif ((Int.tmod (IntKind.i64.wrap (BitVec.ofInt IntKind.i64.bits kind1 &&& BitVec.ofInt IntKind.i64.bits 65535).toNat) 18) == 6) then (
        bif ((decide (0 ≤ (if 40 < (text3.size : Int) then 40 else (text3.size : Int)))) && (decide ((if 40 < (text3.size : Int) then 40 else (text3.size : Int)) ≤ (text3.size : Int)))) then (
          (w.command_Print ⟨(Int.tmod (IntKind.i64.wrap (BitVec.ofInt IntKind.i64.bits kind1 &&& BitVec.ofInt IntKind.i64.bits 65535).toNat) 18), 0, 0, (text3.extract 0 (if 40 < (text3.size : Int) then 40 else (text3.size : Int)).toNat)⟩ q4.2).bind fun q93 =>
          (w.command_Parse q93.1 q93.2).bind fun q94 =>
          bif (q94.1.2 == 0) then (
            K (.bool (((q94.1.1.Kind : Int) == (Int.tmod (IntKind.i64.wrap (BitVec.ofInt IntKind.i64.bits kind1 &&& BitVec.ofInt IntKind.i64.bits 65535).toNat) 18)) && (((q94.1.1.N : Int) == 0) && (((q94.1.1.M : Int) == 0) && ((q94.1.1.Text.toList == (text3.extract 0 (if 40 < (text3.size : Int) then 40 else (text3.size : Int)).toNat).toList) && true))))) q94.2)
          else
          K (.bool false) q94.2)
        else none)
      else
      bif ((Int.tmod (IntKind.i64.wrap (BitVec.ofInt IntKind.i64.bits kind1 &&& BitVec.ofInt IntKind.i64.bits 65535).toNat) 18) == 16) then (
        bif ((decide (0 ≤ (if 35 < (text3.size : Int) then 35 else (text3.size : Int)))) && (decide ((if 35 < (text3.size : Int) then 35 else (text3.size : Int)) ≤ (text3.size : Int)))) then (
          if (⟨#[109, 97, 114, 107, 32]⟩ : ByteArray).size + (text3.extract 0 (if 35 < (text3.size : Int) then 35 else (text3.size : Int)).toNat).size ≤ 9223372036854775807 then (
            (w.command_Print ⟨(Int.tmod (IntKind.i64.wrap (BitVec.ofInt IntKind.i64.bits kind1 &&& BitVec.ofInt IntKind.i64.bits 65535).toNat) 18), (IntKind.i64.wrap (33 + (Int.tmod (IntKind.i64.wrap (BitVec.ofInt IntKind.i64.bits n2.i0 &&& BitVec.ofInt IntKind.i64.bits 65535).toNat) 94))), 0, ((⟨#[109, 97, 114, 107, 32]⟩ : ByteArray) ++ (text3.extract 0 (if 35 < (text3.size : Int) then 35 else (text3.size : Int)).toNat))⟩ q4.2).bind fun q95 =>
            (w.command_Parse q95.1 q95.2).bind fun q96 =>
            bif (q96.1.2 == 0) then (
              K (.bool (((q96.1.1.Kind : Int) == (Int.tmod (IntKind.i64.wrap (BitVec.ofInt IntKind.i64.bits kind1 &&& BitVec.ofInt IntKind.i64.bits 65535).toNat) 18)) && (((q96.1.1.N : Int) == (IntKind.i64.wrap (33 + (Int.tmod (IntKind.i64.wrap (BitVec.ofInt IntKind.i64.bits n2.i0 &&& BitVec.ofInt IntKind.i64.bits 65535).toNat) 94)))) && (((q96.1.1.M : Int) == 0) && ((q96.1.1.Text.toList == ((⟨#[109, 97, 114, 107, 32]⟩ : ByteArray) ++ (text3.extract 0 (if 35 < (text3.size : Int) then 35 else (text3.size : Int)).toNat)).toList) && true))))) q96.2)
            else
            K (.bool false) q96.2)
          else (
            none))
        else none)
      else
      bif ((Int.tmod (IntKind.i64.wrap (BitVec.ofInt IntKind.i64.bits kind1 &&& BitVec.ofInt IntKind.i64.bits 65535).toNat) 18) == 17) then (
        (w.command_Print ⟨(Int.tmod (IntKind.i64.wrap (BitVec.ofInt IntKind.i64.bits kind1 &&& BitVec.ofInt IntKind.i64.bits 65535).toNat) 18), (IntKind.i64.wrap (33 + (Int.tmod (IntKind.i64.wrap (BitVec.ofInt IntKind.i64.bits n2.i0 &&& BitVec.ofInt IntKind.i64.bits 65535).toNat) 94))), 0, (⟨#[]⟩ : ByteArray)⟩ q4.2).bind fun q97 =>
        (w.command_Parse q97.1 q97.2).bind fun q98 =>
        bif (q98.1.2 == 0) then (
          K (.bool (((q98.1.1.Kind : Int) == (Int.tmod (IntKind.i64.wrap (BitVec.ofInt IntKind.i64.bits kind1 &&& BitVec.ofInt IntKind.i64.bits 65535).toNat) 18)) && (((q98.1.1.N : Int) == (IntKind.i64.wrap (33 + (Int.tmod (IntKind.i64.wrap (BitVec.ofInt IntKind.i64.bits n2.i0 &&& BitVec.ofInt IntKind.i64.bits 65535).toNat) 94)))) && (((q98.1.1.M : Int) == 0) && ((q98.1.1.Text.toList == (⟨#[]⟩ : ByteArray).toList) && true))))) q98.2)
        else
        K (.bool false) q98.2)
      else
      (w.command_Print ⟨(Int.tmod (IntKind.i64.wrap (BitVec.ofInt IntKind.i64.bits kind1 &&& BitVec.ofInt IntKind.i64.bits 65535).toNat) 18), 0, 0, (⟨#[]⟩ : ByteArray)⟩ q4.2).bind fun q99 =>
      (w.command_Parse q99.1 q99.2).bind fun q100 =>
      bif (q100.1.2 == 0) then (
        K (.bool (((q100.1.1.Kind : Int) == (Int.tmod (IntKind.i64.wrap (BitVec.ofInt IntKind.i64.bits kind1 &&& BitVec.ofInt IntKind.i64.bits 65535).toNat) 18)) && (((q100.1.1.N : Int) == 0) && (((q100.1.1.M : Int) == 0) && ((q100.1.1.Text.toList == (⟨#[]⟩ : ByteArray).toList) && true))))) q100.2)
      else
      K (.bool false) q100.2)
    else
    bif ((Int.tmod (IntKind.i64.wrap (BitVec.ofInt IntKind.i64.bits kind1 &&& BitVec.ofInt IntKind.i64.bits 65535).toNat) 18) == 13) then (
      (w.command_Print ⟨(Int.tmod (IntKind.i64.wrap (BitVec.ofInt IntKind.i64.bits kind1 &&& BitVec.ofInt IntKind.i64.bits 65535).toNat) 18), (IntKind.i64.wrap (BitVec.ofInt IntKind.i64.bits n2.i0 &&& BitVec.ofInt IntKind.i64.bits 9223372036854775807).toNat), (IntKind.i64.wrap (BitVec.ofInt IntKind.i64.bits n2.i1 &&& BitVec.ofInt IntKind.i64.bits 9223372036854775807).toNat), (⟨#[]⟩ : ByteArray)⟩ q4.2).bind fun q101 =>
      (w.command_Parse q101.1 q101.2).bind fun q102 =>
      bif (q102.1.2 == 0) then (
        K (.bool (((q102.1.1.Kind : Int) == (Int.tmod (IntKind.i64.wrap (BitVec.ofInt IntKind.i64.bits kind1 &&& BitVec.ofInt IntKind.i64.bits 65535).toNat) 18)) && (((q102.1.1.N : Int) == (IntKind.i64.wrap (BitVec.ofInt IntKind.i64.bits n2.i0 &&& BitVec.ofInt IntKind.i64.bits 9223372036854775807).toNat)) && (((q102.1.1.M : Int) == (IntKind.i64.wrap (BitVec.ofInt IntKind.i64.bits n2.i1 &&& BitVec.ofInt IntKind.i64.bits 9223372036854775807).toNat)) && ((q102.1.1.Text.toList == (⟨#[]⟩ : ByteArray).toList) && true))))) q102.2)
      else
      K (.bool false) q102.2)
    else
    bif ((Int.tmod (IntKind.i64.wrap (BitVec.ofInt IntKind.i64.bits kind1 &&& BitVec.ofInt IntKind.i64.bits 65535).toNat) 18) == 4) then (
      bif ((Int.tmod (IntKind.i64.wrap (BitVec.ofInt IntKind.i64.bits kind1 &&& BitVec.ofInt IntKind.i64.bits 65535).toNat) 18) == 4) then (
        bif ((decide (0 ≤ (if 40 < (text3.size : Int) then 40 else (text3.size : Int)))) && (decide ((if 40 < (text3.size : Int) then 40 else (text3.size : Int)) ≤ (text3.size : Int)))) then (
          (w.command_Print ⟨(Int.tmod (IntKind.i64.wrap (BitVec.ofInt IntKind.i64.bits kind1 &&& BitVec.ofInt IntKind.i64.bits 65535).toNat) 18), 0, 0, (text3.extract 0 (if 40 < (text3.size : Int) then 40 else (text3.size : Int)).toNat)⟩ q4.2).bind fun q103 =>
          (w.command_Parse q103.1 q103.2).bind fun q104 =>
          bif (q104.1.2 == 0) then (
            K (.bool (((q104.1.1.Kind : Int) == (Int.tmod (IntKind.i64.wrap (BitVec.ofInt IntKind.i64.bits kind1 &&& BitVec.ofInt IntKind.i64.bits 65535).toNat) 18)) && (((q104.1.1.N : Int) == 0) && (((q104.1.1.M : Int) == 0) && ((q104.1.1.Text.toList == (text3.extract 0 (if 40 < (text3.size : Int) then 40 else (text3.size : Int)).toNat).toList) && true))))) q104.2)
          else
          K (.bool false) q104.2)
        else none)
      else
      bif ((Int.tmod (IntKind.i64.wrap (BitVec.ofInt IntKind.i64.bits kind1 &&& BitVec.ofInt IntKind.i64.bits 65535).toNat) 18) == 16) then (
        bif ((decide (0 ≤ (if 35 < (text3.size : Int) then 35 else (text3.size : Int)))) && (decide ((if 35 < (text3.size : Int) then 35 else (text3.size : Int)) ≤ (text3.size : Int)))) then (
          if (⟨#[109, 97, 114, 107, 32]⟩ : ByteArray).size + (text3.extract 0 (if 35 < (text3.size : Int) then 35 else (text3.size : Int)).toNat).size ≤ 9223372036854775807 then (
            (w.command_Print ⟨(Int.tmod (IntKind.i64.wrap (BitVec.ofInt IntKind.i64.bits kind1 &&& BitVec.ofInt IntKind.i64.bits 65535).toNat) 18), (IntKind.i64.wrap (33 + (Int.tmod (IntKind.i64.wrap (BitVec.ofInt IntKind.i64.bits n2.i0 &&& BitVec.ofInt IntKind.i64.bits 65535).toNat) 94))), 0, ((⟨#[109, 97, 114, 107, 32]⟩ : ByteArray) ++ (text3.extract 0 (if 35 < (text3.size : Int) then 35 else (text3.size : Int)).toNat))⟩ q4.2).bind fun q105 =>
            (w.command_Parse q105.1 q105.2).bind fun q106 =>
            bif (q106.1.2 == 0) then (
              K (.bool (((q106.1.1.Kind : Int) == (Int.tmod (IntKind.i64.wrap (BitVec.ofInt IntKind.i64.bits kind1 &&& BitVec.ofInt IntKind.i64.bits 65535).toNat) 18)) && (((q106.1.1.N : Int) == (IntKind.i64.wrap (33 + (Int.tmod (IntKind.i64.wrap (BitVec.ofInt IntKind.i64.bits n2.i0 &&& BitVec.ofInt IntKind.i64.bits 65535).toNat) 94)))) && (((q106.1.1.M : Int) == 0) && ((q106.1.1.Text.toList == ((⟨#[109, 97, 114, 107, 32]⟩ : ByteArray) ++ (text3.extract 0 (if 35 < (text3.size : Int) then 35 else (text3.size : Int)).toNat)).toList) && true))))) q106.2)
            else
            K (.bool false) q106.2)
          else (
            none))
        else none)
      else
      bif ((Int.tmod (IntKind.i64.wrap (BitVec.ofInt IntKind.i64.bits kind1 &&& BitVec.ofInt IntKind.i64.bits 65535).toNat) 18) == 17) then (
        (w.command_Print ⟨(Int.tmod (IntKind.i64.wrap (BitVec.ofInt IntKind.i64.bits kind1 &&& BitVec.ofInt IntKind.i64.bits 65535).toNat) 18), (IntKind.i64.wrap (33 + (Int.tmod (IntKind.i64.wrap (BitVec.ofInt IntKind.i64.bits n2.i0 &&& BitVec.ofInt IntKind.i64.bits 65535).toNat) 94))), 0, (⟨#[]⟩ : ByteArray)⟩ q4.2).bind fun q107 =>
        (w.command_Parse q107.1 q107.2).bind fun q108 =>
        bif (q108.1.2 == 0) then (
          K (.bool (((q108.1.1.Kind : Int) == (Int.tmod (IntKind.i64.wrap (BitVec.ofInt IntKind.i64.bits kind1 &&& BitVec.ofInt IntKind.i64.bits 65535).toNat) 18)) && (((q108.1.1.N : Int) == (IntKind.i64.wrap (33 + (Int.tmod (IntKind.i64.wrap (BitVec.ofInt IntKind.i64.bits n2.i0 &&& BitVec.ofInt IntKind.i64.bits 65535).toNat) 94)))) && (((q108.1.1.M : Int) == 0) && ((q108.1.1.Text.toList == (⟨#[]⟩ : ByteArray).toList) && true))))) q108.2)
        else
        K (.bool false) q108.2)
      else
      (w.command_Print ⟨(Int.tmod (IntKind.i64.wrap (BitVec.ofInt IntKind.i64.bits kind1 &&& BitVec.ofInt IntKind.i64.bits 65535).toNat) 18), 0, 0, (⟨#[]⟩ : ByteArray)⟩ q4.2).bind fun q109 =>
      (w.command_Parse q109.1 q109.2).bind fun q110 =>
      bif (q110.1.2 == 0) then (
        K (.bool (((q110.1.1.Kind : Int) == (Int.tmod (IntKind.i64.wrap (BitVec.ofInt IntKind.i64.bits kind1 &&& BitVec.ofInt IntKind.i64.bits 65535).toNat) 18)) && (((q110.1.1.N : Int) == 0) && (((q110.1.1.M : Int) == 0) && ((q110.1.1.Text.toList == (⟨#[]⟩ : ByteArray).toList) && true))))) q110.2)
      else
      K (.bool false) q110.2)
    else
    bif ((Int.tmod (IntKind.i64.wrap (BitVec.ofInt IntKind.i64.bits kind1 &&& BitVec.ofInt IntKind.i64.bits 65535).toNat) 18) == 6) then (
      bif ((decide (0 ≤ (if 40 < (text3.size : Int) then 40 else (text3.size : Int)))) && (decide ((if 40 < (text3.size : Int) then 40 else (text3.size : Int)) ≤ (text3.size : Int)))) then (
        (w.command_Print ⟨(Int.tmod (IntKind.i64.wrap (BitVec.ofInt IntKind.i64.bits kind1 &&& BitVec.ofInt IntKind.i64.bits 65535).toNat) 18), 0, 0, (text3.extract 0 (if 40 < (text3.size : Int) then 40 else (text3.size : Int)).toNat)⟩ q4.2).bind fun q111 =>
        (w.command_Parse q111.1 q111.2).bind fun q112 =>
        bif (q112.1.2 == 0) then (
          K (.bool (((q112.1.1.Kind : Int) == (Int.tmod (IntKind.i64.wrap (BitVec.ofInt IntKind.i64.bits kind1 &&& BitVec.ofInt IntKind.i64.bits 65535).toNat) 18)) && (((q112.1.1.N : Int) == 0) && (((q112.1.1.M : Int) == 0) && ((q112.1.1.Text.toList == (text3.extract 0 (if 40 < (text3.size : Int) then 40 else (text3.size : Int)).toNat).toList) && true))))) q112.2)
        else
        K (.bool false) q112.2)
      else none)
    else
    bif ((Int.tmod (IntKind.i64.wrap (BitVec.ofInt IntKind.i64.bits kind1 &&& BitVec.ofInt IntKind.i64.bits 65535).toNat) 18) == 16) then (
      bif ((decide (0 ≤ (if 35 < (text3.size : Int) then 35 else (text3.size : Int)))) && (decide ((if 35 < (text3.size : Int) then 35 else (text3.size : Int)) ≤ (text3.size : Int)))) then (
        if (⟨#[109, 97, 114, 107, 32]⟩ : ByteArray).size + (text3.extract 0 (if 35 < (text3.size : Int) then 35 else (text3.size : Int)).toNat).size ≤ 9223372036854775807 then (
          (w.command_Print ⟨(Int.tmod (IntKind.i64.wrap (BitVec.ofInt IntKind.i64.bits kind1 &&& BitVec.ofInt IntKind.i64.bits 65535).toNat) 18), (IntKind.i64.wrap (33 + (Int.tmod (IntKind.i64.wrap (BitVec.ofInt IntKind.i64.bits n2.i0 &&& BitVec.ofInt IntKind.i64.bits 65535).toNat) 94))), 0, ((⟨#[109, 97, 114, 107, 32]⟩ : ByteArray) ++ (text3.extract 0 (if 35 < (text3.size : Int) then 35 else (text3.size : Int)).toNat))⟩ q4.2).bind fun q113 =>
          (w.command_Parse q113.1 q113.2).bind fun q114 =>
          bif (q114.1.2 == 0) then (
            K (.bool (((q114.1.1.Kind : Int) == (Int.tmod (IntKind.i64.wrap (BitVec.ofInt IntKind.i64.bits kind1 &&& BitVec.ofInt IntKind.i64.bits 65535).toNat) 18)) && (((q114.1.1.N : Int) == (IntKind.i64.wrap (33 + (Int.tmod (IntKind.i64.wrap (BitVec.ofInt IntKind.i64.bits n2.i0 &&& BitVec.ofInt IntKind.i64.bits 65535).toNat) 94)))) && (((q114.1.1.M : Int) == 0) && ((q114.1.1.Text.toList == ((⟨#[109, 97, 114, 107, 32]⟩ : ByteArray) ++ (text3.extract 0 (if 35 < (text3.size : Int) then 35 else (text3.size : Int)).toNat)).toList) && true))))) q114.2)
          else
          K (.bool false) q114.2)
        else (
          none))
      else none)
    else
    bif ((Int.tmod (IntKind.i64.wrap (BitVec.ofInt IntKind.i64.bits kind1 &&& BitVec.ofInt IntKind.i64.bits 65535).toNat) 18) == 17) then (
      (w.command_Print ⟨(Int.tmod (IntKind.i64.wrap (BitVec.ofInt IntKind.i64.bits kind1 &&& BitVec.ofInt IntKind.i64.bits 65535).toNat) 18), (IntKind.i64.wrap (33 + (Int.tmod (IntKind.i64.wrap (BitVec.ofInt IntKind.i64.bits n2.i0 &&& BitVec.ofInt IntKind.i64.bits 65535).toNat) 94))), 0, (⟨#[]⟩ : ByteArray)⟩ q4.2).bind fun q115 =>
      (w.command_Parse q115.1 q115.2).bind fun q116 =>
      bif (q116.1.2 == 0) then (
        K (.bool (((q116.1.1.Kind : Int) == (Int.tmod (IntKind.i64.wrap (BitVec.ofInt IntKind.i64.bits kind1 &&& BitVec.ofInt IntKind.i64.bits 65535).toNat) 18)) && (((q116.1.1.N : Int) == (IntKind.i64.wrap (33 + (Int.tmod (IntKind.i64.wrap (BitVec.ofInt IntKind.i64.bits n2.i0 &&& BitVec.ofInt IntKind.i64.bits 65535).toNat) 94)))) && (((q116.1.1.M : Int) == 0) && ((q116.1.1.Text.toList == (⟨#[]⟩ : ByteArray).toList) && true))))) q116.2)
      else
      K (.bool false) q116.2)
    else
    (w.command_Print ⟨(Int.tmod (IntKind.i64.wrap (BitVec.ofInt IntKind.i64.bits kind1 &&& BitVec.ofInt IntKind.i64.bits 65535).toNat) 18), 0, 0, (⟨#[]⟩ : ByteArray)⟩ q4.2).bind fun q117 =>
    (w.command_Parse q117.1 q117.2).bind fun q118 =>
    bif (q118.1.2 == 0) then (
      K (.bool (((q118.1.1.Kind : Int) == (Int.tmod (IntKind.i64.wrap (BitVec.ofInt IntKind.i64.bits kind1 &&& BitVec.ofInt IntKind.i64.bits 65535).toNat) 18)) && (((q118.1.1.N : Int) == 0) && (((q118.1.1.M : Int) == 0) && ((q118.1.1.Text.toList == (⟨#[]⟩ : ByteArray).toList) && true))))) q118.2)
    else
    K (.bool false) q118.2 := by kernel_rfl
end Go.Abs.TD
